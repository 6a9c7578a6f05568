/- slices.Concat at bytes. -/
import Derived.Test.YtlfpfhdagkkliaaDoorDk2
import Derived.Deep.CutRange
namespace Go.Proofs.YtlfpfhdagkkliaaDoor
set_option linter.unusedVariables false
set_option linter.unusedSimpArgs false
open Go.RowKit
open Go.Maps Go.WideMaps

/-- a value that is a slice of bytes, whoever owns it -/
structure SliceB where
  l : List UInt8
  A : Option Addr
  n : Nat
  c : Nat
def SliceB.v (x : SliceB) : Value := .slice x.A x.n x.c
def cat (xs : List SliceB) : List UInt8 := xs.flatMap (·.l)
theorem cat_take {xs : List SliceB} {t : Nat} (h : t < xs.length) : cat (xs.take (t + 1)) = cat (xs.take t) ++ xs[t].l := by
  unfold cat
  rw [List.take_add_one, List.getElem?_eq_getElem h, List.flatMap_append]
  simp
theorem cat_le {xs : List SliceB} {t : Nat} : (cat (xs.take t)).length ≤ (cat xs).length := by
  unfold cat
  have : xs.flatMap (·.l) = (xs.take t).flatMap (·.l) ++ (xs.drop t).flatMap (·.l) := by rw [← List.flatMap_append, List.take_append_drop]
  rw [this, List.length_append]
  omega
set_option maxRecDepth 20000 in
set_option maxHeartbeats 4000000 in
theorem slConcat (R : Option Addr) (m cR : Nat) (xs : List SliceB) (w : World) (h : Sl w 1 R m (xs.map fun x => [x.v])) (hb : ∀ x ∈ xs, Sl w 1 x.A x.n (x.l.map bCell)) (hm : m ≤ 1024) (hn : (cat xs).length ≤ 33554432) :
    Calls Tryd.prog 41 #[.slice R m cR] w fun e w' => ∃ v, e = .returned v ∧ w'.ownsRow w.heap.size 5 1 v (cat xs).length ((cat xs).flatMap bCell) ∧ Ext Nothing w w' := by
  have hlen := Lib.hid h.len
  go_enter Tryd.func41, Tryd.ntmps41
  go_wp2
  go_loopw [3, 11] (fun v3 ki wr => ∃ t : Nat, t ≤ m ∧ ki = .int .i64 t ∧ v3 = .int .i64 ((cat (xs.take t)).length : Int) ∧ Ext Nothing w wr) (fun _ ki _ => m - (intOf ki).toNat)
  case atStart => exact ⟨0, Nat.zero_le _, rfl, by simp [cat], Ext.refl _ _⟩
  case round =>
    obtain ⟨t, ht, rfl, rfl, hx⟩ := hrel
    have hle := cat_le (xs := xs) (t := t)
    by_cases hlt : t < m
    · obtain ⟨hjn, q, off, hAe, hce⟩ := h.get hx hlt
      have HC := Lib.hid (cat_take hjn)
      have hle2 := cat_le (xs := xs) (t := t + 1)
      have hxl := Lib.hid (hb _ (List.getElem_mem hjn)).len
      have hsum : (cat (xs.take (t + 1))).length = (cat (xs.take t)).length + xs[t].l.length := by rw [HC.out, List.length_append]
      generalize xs[t] = x at hce HC hxl hsum
      subst hAe
      obtain ⟨l, A, n, c⟩ := x
      have c0 : wr.cell? ⟨q, off + t, none⟩ = some (.slice A n c) := by have h9 : wr.cell? ⟨q, off + t * 1 + 0, none⟩ = some (.slice A n c) := hce 0 _ rfl; simpa using h9
      have hk0 : (0 : Int) ≤ (t : Int) := by omega
      have hk1 : (t : Int) < m := by omega
      have HT := Lib.hid hlt
      have hn2 : n = l.length := hxl.out
      have HN2 := Lib.hid hn2
      have hsz : (cat (xs.take t)).length + n ≤ 33554432 := by rw [hn2]; simp only at hsum; omega
      have HS := Lib.hid (show (cat (xs.take (t + 1))).length = (cat (xs.take t)).length + n by rw [hn2]; simpa using hsum)
      clear hsum hn2 hle2 hce hlt hle
      generalize (cat (xs.take t)).length = k at hsz HS ⊢
      have hneg : decide ((k : Int) + (n : Int) < 0) = false := by simp; omega
      go_wp2
      go_roundw
      case rel => exact ⟨t + 1, HT.out, by go_num, by rw [HS.out]; push_cast; rfl, hx⟩
      case measure => have := HT.out; simp [intOf]; omega
    · have hnl : ¬ ((t : Int) < m) := by omega
      have HE := Lib.hid (show (cat (xs.take t)).length = (cat xs).length by rw [List.take_of_length_le (by have := hlen.out; omega)])
      rw [HE.out]
      clear hle
      go_upto_region 10 with (first | go_skip | go_guarded | (go_at_call 57; (with_reducible refine (slGrow (cat xs).length wr hn).mono ?_); rintro e w1 ⟨v1, rfl, ho1, hx1⟩))
      have hxw := hx.tr hx1
      have ho0 : w1.ownsRow w.heap.size 5 1 v1 0 [] := own_base ho1 hx.size
      clear ho1 hx1 hx hnl ht hlt
      go_wp2
      go_loopw [6, 27] (fun v6 ki wr => ∃ t : Nat, t ≤ m ∧ ki = .int .i64 t ∧ wr.ownsRow w.heap.size 5 1 v6 (cat (xs.take t)).length ((cat (xs.take t)).flatMap bCell) ∧ Ext Nothing w wr) (fun _ ki _ => m - (intOf ki).toNat)
      case atStart => exact ⟨0, Nat.zero_le _, rfl, by simpa [cat] using ho0, hxw⟩
      case round =>
        clear ho0 hxw
        obtain ⟨t, ht, rfl, ho, hx⟩ := hrel
        obtain ⟨A6, c6, rfl⟩ := own_slice ho
        have hle := cat_le (xs := xs) (t := t)
        by_cases hlt : t < m
        · obtain ⟨hjn, q, off, hAe, hce⟩ := h.get hx hlt
          have HC := Lib.hid (cat_take hjn)
          have hle2 := cat_le (xs := xs) (t := t + 1)
          have hxb := (hb _ (List.getElem_mem hjn)).ext0 hx
          have hxl := Lib.hid hxb.len
          generalize xs[t] = x at hce HC hxl hxb
          subst hAe
          obtain ⟨l, A, n, c⟩ := x
          have c0 : wr.cell? ⟨q, off + t, none⟩ = some (.slice A n c) := by have h9 : wr.cell? ⟨q, off + t * 1 + 0, none⟩ = some (.slice A n c) := hce 0 _ rfl; simpa using h9
          have hk0 : (0 : Int) ≤ (t : Int) := by omega
          have hk1 : (t : Int) < m := by omega
          have HT := Lib.hid hlt
          have HL := Lib.hid (show (cat (xs.take (t + 1))).length = (cat (xs.take t)).length + n by rw [HC.out, List.length_append]; have h9 : n = l.length := hxl.out; rw [h9])
          have hsz : (cat (xs.take t)).length + n ≤ 33554432 := by have := HL.out; omega
          clear hce hlt hle hle2
          go_wp2_with (at_builtin; refine wpList_appS rfl _ _ 29 rfl w.heap.size SRBytes (.slice A6 (cat (xs.take t)).length c6) _ _ rfl ho A n c (l.map bCell) rfl hxb (bCells_one l) (by omega) hx.size ?_; intro A2 c2 w2 hown hgr)
          have ho2 : w2.ownsRow w.heap.size 5 1 (.slice A2 ((cat (xs.take t)).length + n) c2) (cat (xs.take (t + 1))).length ((cat (xs.take (t + 1))).flatMap bCell) := by
            have h9 := hown
            rw [bFlat, ← List.flatMap_append] at h9
            rw [HL.out, HC.out]
            exact h9
          have hx2 : Ext Nothing w w2 := hx.grown hgr (fun g hg => .inl (own_ge ho hg))
          clear hown hgr ho hx hxb
          go_wp2
          go_roundw
          case rel => exact ⟨t + 1, HT.out, by go_num, ho2, hx2⟩
          case measure => have := HT.out; simp [intOf]; omega
        · have hnl : ¬ ((t : Int) < m) := by omega
          have HE := Lib.hid (show xs.take t = xs from List.take_of_length_le (by have := hlen.out; omega))
          have ho2 : wr.ownsRow w.heap.size 5 1 (.slice A6 (cat (xs.take t)).length c6) (cat xs).length ((cat xs).flatMap bCell) := by have h9 := ho; rw [HE.out] at h9 ⊢; exact h9
          clear ho hle
          go_wp2
          go_ret
          exact ⟨_, rfl, ho2, hx⟩
end Go.Proofs.YtlfpfhdagkkliaaDoor
