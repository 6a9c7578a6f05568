/- Same of bytes, names of strings; both disks together. (printed by wip/gen/rdsame.py) -/
import Derived.Test.YtlfpfhdagkkliaaDoorRd8
namespace Go.Proofs.YtlfpfhdagkkliaaDoor
set_option linter.unusedVariables false
set_option linter.unusedSimpArgs false
open Go.RowKit

theorem eq_of_step {α : Type} {l m : List α} {n : Nat} (hl : l.length = n) (hm : m.length = n) (h : ∀ j < n, l[j]? = m[j]?) : l = m := by
  apply List.ext_getElem?
  intro j
  by_cases hj : j < n
  · exact h j hj
  · rw [List.getElem?_eq_none (by omega), List.getElem?_eq_none (by omega)]
theorem DkB.nrd {w : World} {b r q : Nat} (h : DkB b w q) : ¬ RdB r w q := fun h2 => by
  rcases h2.2 with ⟨cs, h3⟩ | ⟨cs, h3⟩
  · exact DkB.blk h3 (by decide) (by decide) h
  · exact DkB.blk h3 (by decide) (by decide) h
/-- both disks: the program's holds d, the document's holds f -/
structure Both (w : World) (Ok : Nat → Prop) (b r : Nat) (d f : Dk.DiskD) : Prop where
  disk : DiskIs w Ok b d
  ref : RefIs w Ok r f
  good : Dk.Good d
  good2 : Dk.Good f
  ren : Dk.Ren f
/-- the frame of both -/
def BoB (b r : Nat) (w : World) (q : Nat) : Prop := DkB b w q ∨ RdB r w q
section
variable {w w' w'' : World} {S Ok Ok' : Nat → Prop} {b r : Nat} {d d' f : Dk.DiskD}
theorem BoB.off : Off w (BoB b r w) Ok := fun q cs h hb => by rcases h with h | h; exact DkB.off q cs h hb; exact RdB.off q cs h hb
theorem BoB.ty {q t : Nat} {cs : Array Value} (hb : Blk w q t cs) (h1 : t ≠ 57) (h2 : t ≠ 75) (h3 : t ≠ 61) (h4 : t ≠ 85) : ¬ BoB b r w q := fun h => by
  rcases h with h | h
  · exact DkB.blk hb h1 h2 h
  · exact RdB.ty hb h3 h4 h
theorem BoB.back {q : Nat} (hx : Ext (BoB b r w) w w') (hq : q < w.heap.size) (h : BoB b r w' q) : BoB b r w q := by
  by_cases hn : BoB b r w q
  · exact hn
  · unfold BoB DkB RdB Blk at h
    rw [hx.block q hq hn] at h
    exact h
theorem BoB.trans (hx : Ext (BoB b r w) w w') (hy : Ext (BoB b r w') w' w'') : Ext (BoB b r w) w w'' := hx.trans hy (fun q hb h => BoB.back hx hb h)
theorem BoB.od (hx : Ext (DkB b w) w w') : Ext (BoB b r w) w w' := hx.mono (fun _ _ e => .inl e)
theorem BoB.orr (hx : Ext (RdB r w) w w') : Ext (BoB b r w) w w' := hx.mono (fun _ _ e => .inr e)
theorem BoB.fresh {w0 : World} (hb : w0.heap.size + 2 ≤ b) (hr : w0.heap.size ≤ r) (h1 : Ext Nothing w0 w) (h : Ext (BoB b r w) w w') : Ext Nothing w0 w' := h1.trans h (fun q hq e => by rcases e with e | e <;> have := e.1 <;> omega)
theorem DiskIs.offr (h : DiskIs w Ok b d) (hx : Ext (RdB r w) w w') : DiskIs w' Ok b d := h.keep hx RdB.off RdB.box (fun q hq hd => DkB.nrd hd hq)
theorem RefIs.offd (h : RefIs w Ok r d) (hx : Ext (DkB b w) w w') : RefIs w' Ok r d := h.keep hx DkB.off DkB.foff (fun q hq hd => DkB.nrd hq hd)
theorem RefIs.top (h : RefIs w Ok r d) : RefIs w (fun q => q < w.heap.size) r d := h.mono (fun _ hb _ => hb)
theorem Both.top (h : Both w Ok b r d f) : Both w (fun q => q < w.heap.size) b r d f := ⟨h.disk.top, h.ref.top, h.good, h.good2, h.ren⟩
theorem Both.keep0 (h : Both w Ok b r d f) (hx : Ext Nothing w w') : Both w' Ok b r d f := ⟨h.disk.keep0 hx, h.ref.keep0 hx, h.good, h.good2, h.ren⟩
theorem Both.mono (h : Both w Ok b r d f) (hok : ∀ q, q < w.heap.size → Ok q → Ok' q) : Both w Ok' b r d f := ⟨h.disk.mono hok, h.ref.mono hok, h.good, h.good2, h.ren⟩
/-- a write into a block of bytes that holds none of the disks' -/
theorem Both.bytes {g : Nat} {cs : Array Value} (h : Both w Ok b r d f) (hB : Blk w g 5 cs) (hg : ¬ Ok g) (hx : Ext (fun q => q = g) w w') : Both w' Ok b r d f := by
  have hoff : Off w (fun q => q = g) Ok := fun q cs e hq => by have e : q = g := e; rw [e]; exact hg
  refine ⟨h.disk.keep hx hoff (fun q c e => ?_) (fun q e => ?_), h.ref.keep hx hoff (fun q cs e hq => ?_) (fun q e => ?_), h.good, h.good2, h.ren⟩
  · have e : q = g := e
    subst e
    exact ⟨fun hq => absurd rfl (Blk.ne hB hq (by decide)), fun hq => absurd rfl (Blk.ne hB hq (by decide))⟩
  · have e : q = g := e
    subst e
    exact DkB.blk hB (by decide) (by decide)
  · have e : q = g := e
    subst e
    exact absurd rfl (Blk.ne hB hq (by decide))
  · have e : q = g := e
    subst e
    exact RdB.ty hB (by decide) (by decide)
end
set_option maxRecDepth 20000 in
set_option maxHeartbeats 16000000 in
theorem rSame (A : Option Addr) (n c : Nat) (l : List UInt8) (B : Option Addr) (m c2 : Nat) (l2 : List UInt8) (w : World) (hl : Sl w 1 A n (l.map bCell)) (hm : Sl w 1 B m (l2.map bCell)) (hn : n < 67108864) :
    Calls Tryd.prog 24 #[.slice A n c, .slice B m c2] w fun e w' => e = .returned (.bool (decide (l = l2))) ∧ Ext Nothing w w' := by
  have hlen1 : n = l.length := by simpa using hl.1
  have hlen2 : m = l2.length := by simpa using hm.1
  have HL1 := Lib.hid hlen1
  have HL2 := Lib.hid hlen2
  clear hlen1 hlen2
  go_enter Tryd.func24, Tryd.ntmps24
  by_cases hnm : n = m
  · subst hnm
    go_upto_region 4 with (first | go_skip | go_guarded)
    go_loopw [5] (fun ki wr => ∃ t : Nat, t ≤ n ∧ ki = .int .i64 t ∧ (∀ j < t, l[j]? = l2[j]?) ∧ Ext Nothing w wr) (fun ki _ => n - (intOf ki).toNat)
    case atStart => exact ⟨0, Nat.zero_le _, rfl, by simp, Ext.refl _ _⟩
    case round =>
      obtain ⟨t, ht, rfl, hno, hx⟩ := hrel
      by_cases hlt : t < n
      · obtain ⟨hj1, q1, o1, hA1, hc1⟩ := hl.get hx hlt
        obtain ⟨hj2, q2, o2, hA2, hc2⟩ := hm.get hx hlt
        have hx1 : l[t]? = some l[t] := List.getElem?_eq_getElem hj1
        have hx2 : l2[t]? = some l2[t] := List.getElem?_eq_getElem hj2
        generalize l[t] = x at hc1 hx1
        generalize l2[t] = y at hc2 hx2
        subst hA1 hA2
        have c1 : wr.cell? ⟨q1, o1 + t, none⟩ = some (.int .u8 (x.toNat : Int)) := by have h9 := hc1 0 _ rfl; simpa using h9
        have c2 : wr.cell? ⟨q2, o2 + t, none⟩ = some (.int .u8 (y.toNat : Int)) := by have h9 := hc2 0 _ rfl; simpa using h9
        have hk0 : (0 : Int) ≤ (t : Int) := by omega
        have hk1 : (t : Int) < n := by omega
        have HN := Lib.hid hno
        have HT := Lib.hid hlt
        have HX1 := Lib.hid hx1
        have HX2 := Lib.hid hx2
        clear hc1 hc2 hno hlt hx1 hx2
        cases he : ((x.toNat : Int) != (y.toNat : Int)) with
        | true =>
          have HE := Lib.hid (show ¬ (l = l2) from fun e => by have h1 := HX1.out; rw [e, HX2.out] at h1; injection h1 with h1; rw [h1] at he; simp at he)
          go_upto_region 6 with (first | go_skip | go_guarded)
          go_quiet (fail)
          have hdq := (Ext.refl Nothing wr).drewN nq
          generalize wr.drewN nq = wq at hdq ⊢
          go_wp2_with (first | go_skip | go_guarded)
          go_ret
          exact ⟨by rw [show decide (l = l2) = false from decide_eq_false HE.out]; rfl, hx.tr hdq⟩
        | false =>
          have HE := Lib.hid (show x = y from by exact UInt8.toNat_inj.1 (by simp at he; omega))
          have HN2 := Lib.hid (show ∀ j < t + 1, l[j]? = l2[j]? from fun j hj => by rcases Nat.lt_succ_iff_lt_or_eq.1 hj with h9 | rfl; exact HN.out j h9; rw [HX1.out, HX2.out, HE.out])
          go_upto_region 6 with (first | go_skip | go_guarded)
          go_quiet (fail)
          have hdq := (Ext.refl Nothing wr).drewN nq
          generalize wr.drewN nq = wq at hdq ⊢
          go_wp2_with (first | go_skip | go_guarded)
          go_roundw
          case rel => exact ⟨t + 1, HT.out, by go_num, HN2.out, hx.tr hdq⟩
          case measure => have := HT.out; simp [intOf]; omega
      · have hnl : ¬ ((t : Int) < n) := by omega
        have HE := Lib.hid (show l = l2 from eq_of_step HL1.out.symm HL2.out.symm (fun j hj => hno j (by omega)))
        clear hno
        go_wp2_with (first | go_skip | go_guarded)
        go_ret
        exact ⟨by rw [show decide (l = l2) = true from decide_eq_true HE.out]; rfl, hx⟩
  · have hnb : ((n : Int) != (m : Int)) = true := by simp; omega
    have HE := Lib.hid (show ¬ (l = l2) from fun e => by rw [e] at HL1; have h1 := HL1.out; have h2 := HL2.out; omega)
    clear hnm
    go_wp2_with (first | go_skip | go_guarded)
    go_ret
    exact ⟨by rw [show decide (l = l2) = false from decide_eq_false HE.out]; rfl, Ext.refl _ _⟩
set_option maxRecDepth 20000 in
set_option maxHeartbeats 16000000 in
theorem rNames (A : Option Addr) (n c : Nat) (l : List Dk.Str) (B : Option Addr) (m c2 : Nat) (l2 : List Dk.Str) (w : World) (hl : Sl w 1 A n (l.map fun s => [strV s])) (hm : Sl w 1 B m (l2.map fun s => [strV s])) (hn : n < 67108864) :
    Calls Tryd.prog 34 #[.slice A n c, .slice B m c2] w fun e w' => e = .returned (.bool (decide (l = l2))) ∧ Ext Nothing w w' := by
  have hlen1 : n = l.length := by simpa using hl.1
  have hlen2 : m = l2.length := by simpa using hm.1
  have HL1 := Lib.hid hlen1
  have HL2 := Lib.hid hlen2
  clear hlen1 hlen2
  go_enter Tryd.func34, Tryd.ntmps34
  by_cases hnm : n = m
  · subst hnm
    go_upto_region 4 with (first | go_skip | go_guarded)
    go_loopw [5] (fun ki wr => ∃ t : Nat, t ≤ n ∧ ki = .int .i64 t ∧ (∀ j < t, l[j]? = l2[j]?) ∧ Ext Nothing w wr) (fun ki _ => n - (intOf ki).toNat)
    case atStart => exact ⟨0, Nat.zero_le _, rfl, by simp, Ext.refl _ _⟩
    case round =>
      obtain ⟨t, ht, rfl, hno, hx⟩ := hrel
      by_cases hlt : t < n
      · obtain ⟨hj1, q1, o1, hA1, hc1⟩ := hl.get hx hlt
        obtain ⟨hj2, q2, o2, hA2, hc2⟩ := hm.get hx hlt
        have hx1 : l[t]? = some l[t] := List.getElem?_eq_getElem hj1
        have hx2 : l2[t]? = some l2[t] := List.getElem?_eq_getElem hj2
        generalize l[t] = x at hc1 hx1
        generalize l2[t] = y at hc2 hx2
        subst hA1 hA2
        have c1 : wr.cell? ⟨q1, o1 + t, none⟩ = some (strV x) := by have h9 := hc1 0 _ rfl; simpa using h9
        have c2 : wr.cell? ⟨q2, o2 + t, none⟩ = some (strV y) := by have h9 := hc2 0 _ rfl; simpa using h9
        have hk0 : (0 : Int) ≤ (t : Int) := by omega
        have hk1 : (t : Int) < n := by omega
        have HN := Lib.hid hno
        have HT := Lib.hid hlt
        have HX1 := Lib.hid hx1
        have HX2 := Lib.hid hx2
        clear hc1 hc2 hno hlt hx1 hx2
        cases he : (!(x == y)) with
        | true =>
          have HE := Lib.hid (show ¬ (l = l2) from fun e => by have h1 := HX1.out; rw [e, HX2.out] at h1; injection h1 with h1; rw [h1] at he; simp at he)
          go_upto_region 6 with (first | go_skip | go_guarded)
          go_quiet (fail)
          have hdq := (Ext.refl Nothing wr).drewN nq
          generalize wr.drewN nq = wq at hdq ⊢
          go_wp2_with (first | go_skip | go_guarded)
          go_ret
          exact ⟨by rw [show decide (l = l2) = false from decide_eq_false HE.out]; rfl, hx.tr hdq⟩
        | false =>
          have HE := Lib.hid (show x = y from by simpa using he)
          have HN2 := Lib.hid (show ∀ j < t + 1, l[j]? = l2[j]? from fun j hj => by rcases Nat.lt_succ_iff_lt_or_eq.1 hj with h9 | rfl; exact HN.out j h9; rw [HX1.out, HX2.out, HE.out])
          go_upto_region 6 with (first | go_skip | go_guarded)
          go_quiet (fail)
          have hdq := (Ext.refl Nothing wr).drewN nq
          generalize wr.drewN nq = wq at hdq ⊢
          go_wp2_with (first | go_skip | go_guarded)
          go_roundw
          case rel => exact ⟨t + 1, HT.out, by go_num, HN2.out, hx.tr hdq⟩
          case measure => have := HT.out; simp [intOf]; omega
      · have hnl : ¬ ((t : Int) < n) := by omega
        have HE := Lib.hid (show l = l2 from eq_of_step HL1.out.symm HL2.out.symm (fun j hj => hno j (by omega)))
        clear hno
        go_wp2_with (first | go_skip | go_guarded)
        go_ret
        exact ⟨by rw [show decide (l = l2) = true from decide_eq_true HE.out]; rfl, hx⟩
  · have hnb : ((n : Int) != (m : Int)) = true := by simp; omega
    have HE := Lib.hid (show ¬ (l = l2) from fun e => by rw [e] at HL1; have h1 := HL1.out; have h2 := HL2.out; omega)
    clear hnm
    go_wp2_with (first | go_skip | go_guarded)
    go_ret
    exact ⟨by rw [show decide (l = l2) = false from decide_eq_false HE.out]; rfl, Ext.refl _ _⟩
end Go.Proofs.YtlfpfhdagkkliaaDoor
