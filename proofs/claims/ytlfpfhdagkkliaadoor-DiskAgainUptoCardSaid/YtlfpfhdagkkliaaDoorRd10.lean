/- The law's does: a step on both disks. (printed by wip/gen/rdlaw.py) -/
import Derived.Test.YtlfpfhdagkkliaaDoorRd9
namespace Go.Proofs.YtlfpfhdagkkliaaDoor
set_option linter.unusedVariables false
set_option linter.unusedSimpArgs false
open Go.RowKit

namespace Dk
/-- a step of a law's script -/
def step (d : DiskD) (k : Int) (s t : Str) (data : List UInt8) (n : Int) : DiskD :=
  if k = 0 then (d.write 0 s data).1 else if k = 1 then (d.write 1 s data).1 else if k = 3 then (d.remove s).1 else if k = 4 then (d.rename s t).1 else if k = 5 then d.sync.1 else if k = 6 then (d.cutAt n).1 else if k = 7 then d.crash n else d
theorem step_len (d : DiskD) (k : Int) (s t : Str) (data : List UInt8) (n : Int) : (step d k s t data n).done.length ≤ d.done.length + 1 := by
  unfold step
  repeat' split
  all_goals first | exact write_len .. | exact move_len .. | (have := sync_len d; omega) | (unfold DiskD.cutAt; split <;> simp) | simp [DiskD.crash]
end Dk
/-- a Bool, and a true one where the disks agree -/
def BoolIf (d f : Dk.DiskD) (v : Value) : Prop := ∃ vb, v = .bool vb ∧ (d = f → vb = true)
def OpC.step (x : OpC) (d : Dk.DiskD) : Dk.DiskD := Dk.step d x.kind x.name x.to_ x.data x.n
theorem Dk.read_len {d : Dk.DiskD} (hg : Dk.Good d) (s : Dk.Str) : (d.read s).1.length ≤ 1048576 := by
  unfold Dk.DiskD.read
  split
  · simp
  · split
    · simp
    · rename_i l hl
      have := Dk.find_len hg.files (s := s)
      rw [hl] at this
      exact this
set_option maxRecDepth 20000 in
set_option maxHeartbeats 16000000 in
theorem lawDoes {Ok : Nat → Prop} {b r : Nat} {d f : Dk.DiskD} (x : OpC) (w : World) (h : Both w Ok b r d f) (hdn : d.done.length < 67108864) (hfn : f.done.length < 67108864) (hrd : ∀ w', Ext (BoB b r w) w w' → x.Read w') :
    Calls Tryd.prog 12 #[.pointer (some ⟨b, 0, none⟩), .pointer (some ⟨r, 0, none⟩), .agg #[.int .i64 x.kind, strV x.name, strV x.to_, .slice x.A x.m x.c, .int .i64 x.n]] w fun e w' => ∃ v, e = .returned v ∧ BoolIf d f v ∧ Both w' (fun q => q < w'.heap.size) b r (x.step d) (x.step f) ∧ Ext (BoB b r w) w w' := by
  obtain ⟨kd, s, tt, data, nn, A, m, c⟩ := x
  have h := h.top
  have hg := h.good
  have hR := h.ren
  have hgf := h.good2
  have hr0 := hrd w (Ext.refl _ _)
  have hmd : m = data.length := by simpa using hr0.d.len
  have HMD := Lib.hid hmd
  clear hmd
  have hmm : m ≤ 33554432 := hr0.m
  dsimp only
  go_enter Tryd.func12, Tryd.ntmps12
  go_upto_region 1 with (first | go_skip | go_guarded)
  have hx1 : Ext Nothing w (w.alloc (.cells #[.int .i64 kd, strV s, strV tt, .slice A m c, .int .i64 nn] 31)) := Ext.auto
  have hB1 : Blk (w.alloc (.cells #[.int .i64 kd, strV s, strV tt, .slice A m c, .int .i64 nn] 31)) w.heap.size 31 #[.int .i64 kd, strV s, strV tt, .slice A m c, .int .i64 nn] := Blk.new _ _ _
  obtain ⟨V, hV⟩ : ∃ z, z = w.heap.size := ⟨_, rfl⟩
  have HV := Lib.hid hV
  rw [← hV] at hB1 ⊢
  clear hV
  generalize hW1 : w.alloc (.cells #[.int .i64 kd, strV s, strV tt, .slice A m c, .int .i64 nn] 31) = w1 at hx1 hB1 ⊢
  clear hW1
  have g3 : w1.cell? ⟨V, 3, none⟩ = some (.slice A m c) := hB1.cell 3
  have hs1 : Sl w1 1 A m (data.map bCell) := hr0.d.ext0 hx1
  have hz1 := hx1.size
  clear hr0
  go_upto_region 3 with (first | go_skip | go_guarded | (at_builtin; refine wpList_appA rfl _ _ 29 rfl w1.heap.size SRByte (.slice none 0 0) 0 [] rfl (World.ownsRow_nil _ _ _ _) A m c _ rfl hs1 (one_bytes _) (by omega) (Nat.le_refl _) ?_; intro A5 c5 w5 hown5 hgr5; rw [Nat.zero_add] at hown5 ⊢))
  have hx15 : Ext Nothing w1 w5 := (Ext.refl _ _).grown hgr5 (fun g hg => by simp [Value.ownBlock] at hg)
  have hx05 := hx1.tr hx15
  have hO5 := h.keep0 hx05
  have hB5 := hB1.e0 hx15
  have hown5 : w5.ownsRow w1.heap.size 5 1 (.slice A5 m c5) m (data.flatMap bCell) := by rw [← flat_bytes]; exact hown5
  have hs5 : Sl w5 1 A5 m (data.map bCell) := Sl.of_own (f := bCell) (fun _ => rfl) hown5 HMD.out
  have hK5 : Ext (BoB b r w) w w5 := hx05.mono (fun _ _ e => e.elim)
  have hVn : ¬ BoB b r w5 V := BoB.ty hB5 (by decide) (by decide) (by decide) (by decide)
  clear hx1 hB1 g3 hs1 hgr5 hx15
  have g0 : w5.cell? ⟨V, 0, none⟩ = some (.int .i64 kd) := hB5.cell 0
  have g1 : w5.cell? ⟨V, 1, none⟩ = some (strV s) := hB5.cell 1
  have g2 : w5.cell? ⟨V, 2, none⟩ = some (strV tt) := hB5.cell 2
  have g3 : w5.cell? ⟨V, 3, none⟩ = some (.slice A m c) := hB5.cell 3
  have g4 : w5.cell? ⟨V, 4, none⟩ = some (.int .i64 nn) := hB5.cell 4
  cases hk0 : (kd == 0) with
  | true =>
    obtain rfl : kd = 0 := by simpa using hk0
    go_upto_region 6 with (first | go_skip | go_guarded)
    have hd : Ext Nothing w5 w5.drew := (Ext.refl _ _).drew
    refine zS (S := fun W' => Ext (BoB b r w5) w5 W') (by kernel_rfl) ?_
    have hS : Ext (BoB b r w5) w5 w5.drew := hd.mono (fun _ _ e => e.elim)
    generalize w5.drew = Wd at hd hS ⊢
    refine zT 0 (.pointer (some ⟨b, 0, none⟩)) rfl (by kernel_rfl) (by rfl) hS (fun _ _ _ h => h) (fun W' hS' => by go_simp) ?_
    refine zT 1 (.pointer (some ⟨V, 1, none⟩)) rfl (by kernel_rfl) (by rfl) hS (fun _ _ _ h => h) (fun W' hS' => by go_simp) ?_
    refine zT 2 (strV s) rfl (by kernel_rfl) (by rfl) hS (fun _ _ _ h => h) (fun W' hS' => by have q9 := hS'.cell g1 (fun e => hVn e); go_simp) ?_
    refine zT 3 (.slice A5 m c5) rfl (by kernel_rfl) (by rfl) hS (fun _ _ _ h => h) (fun W' hS' => by go_simp) ?_
    refine zT 5 (.pointer (some ⟨r, 0, none⟩)) rfl (by kernel_rfl) (by rfl) hS (fun _ _ _ h => h) (fun W' hS' => by go_simp) ?_
    refine zT 6 (.pointer (some ⟨V, 1, none⟩)) rfl (by kernel_rfl) (by rfl) hS (fun _ _ _ h => h) (fun W' hS' => by go_simp) ?_
    refine zT 7 (strV s) rfl (by kernel_rfl) (by rfl) hS (fun _ _ _ h => h) (fun W' hS' => by have q9 := hS'.cell g1 (fun e => hVn e); go_simp) ?_
    refine zT 8 (.pointer (some ⟨V, 3, none⟩)) rfl (by kernel_rfl) (by rfl) hS (fun _ _ _ h => h) (fun W' hS' => by go_simp) ?_
    refine zT 9 (.slice A m c) rfl (by kernel_rfl) (by rfl) hS (fun _ _ _ h => h) (fun W' hS' => by have q9 := hS'.cell g3 (fun e => hVn e); go_simp) ?_
    (try simp only [Act.put, zA, zB, zC, zD, zE, zF])
    refine zO 4 (by kernel_rfl) ?_
    have hcall := dkAppend s A5 m c5 data Wd (hO5.disk.keep0 hd) hg hdn (hrd w5 hK5).n1 (hs5.ext0 hd) hmm
    refine wpOp_call rfl (by rfl) ?_ (hcall.mono ?_)
    · go_simp
    rintro e w6 ⟨rfl, h6, hx6⟩
    have hS6 := BoB.trans hS (BoB.od hx6)
    have hRf := (hO5.ref.keep0 hd).offd hx6
    have hr6 := hrd w6 (BoB.trans hK5 hS6)
    clear hcall
    refine ⟨_, rfl, hS6, ?_⟩
    (try simp only [Act.put, zA, zB, zC, zD, zE, zF])
    refine zO 10 (by kernel_rfl) ?_
    have hcall := rAppend s A m c data w6 hRf hgf hR hfn hr6.n1 hr6.d hmm
    refine wpOp_call rfl (by rfl) ?_ (hcall.mono ?_)
    · go_simp
    rintro e w8 ⟨rfl, h8, hx8⟩
    have hK8 := BoB.trans hS6 (BoB.orr hx8)
    clear hcall
    have hO8 : Both w8 (fun q => q < w.heap.size ∨ w5.heap.size ≤ q) b r (d.write 0 s data).1 (f.write 0 s data).1 := ⟨(h6.offr hx8).mono (fun q hq e => by have h9 := hd.size; rcases e with e | e; exact .inl e; exact .inr (by omega)), h8.mono (fun q hq e => by have h9 := hd.size; have h10 := hx6.size; rcases e with e | e; exact .inl e; exact .inr (by omega)), Dk.good_write hg (by omega) s data, Dk.good_write hgf (by omega) s data, Dk.ren_write hR (by omega) s data⟩
    refine ⟨_, rfl, hK8, ?_⟩
    (try simp only [Act.put, zA, zB, zC, zD, zE, zF])
    refine zO 11 (by kernel_rfl) ?_
    refine wpOp_val (v := .bool ((d.write 0 s data).2 == (f.write 0 s data).2)) rfl (by rfl) (by go_simp) ⟨hK8, ?_⟩
    (try simp only [Act.put, zA, zB, zC, zD, zE, zF])
    refine zO 12 (by kernel_rfl) ?_
    refine wpOp_val (v := .bool ((d.write 0 s data).2 == (f.write 0 s data).2)) rfl (by rfl) (by go_simp) ⟨hK8, wpAnyH_done (by kernel_rfl) ?_ _⟩
    (try simp only [Act.put, zA, zB, zC, zD, zE, zF])
    generalize hvb : ((d.write 0 s data).2 == (f.write 0 s data).2) = vb
    have HV1 := Lib.hid (show d = f → vb = true from fun e => by rw [← hvb, e]; simp)
    clear hvb
    clear hd hS hS6 hRf hr6 h6 h8 hx6 hx8
    go_upto_region 28 with (first | go_skip | go_guarded)
    have hown8 := own_ext hown5 hK8 (fun g hg e => by obtain ⟨cs9, h9⟩ := own_blk hown5 hg; exact BoB.ty h9 (by decide) (by decide) (by decide) (by decide) e)
    have HOL := Lib.hid (fun g (hg : (Value.slice A5 m c5).ownBlock = some g) => And.intro (hown5.lt g hg).1 (own_lt hown5 hg))
    have hL0 : 0 < m → ∃ g o cs, A5 = some ⟨g, o, none⟩ ∧ Blk w8 g 5 cs ∧ o + m ≤ cs.size := fun hm0 => by rcases hown8.2 with ⟨_, e⟩ | ⟨g, cap, cur, hv, _, hg9, hnc, _, hcz, _⟩; omega; injection hv with e1 _ _; exact ⟨g, 0, cur, e1, hg9, by omega⟩
    clear hown8 hs5 hO5 hB5 hVn g0 g1 g2 g3 g4
    obtain ⟨wz, hwz⟩ : ∃ z : World, z = w8 := ⟨_, rfl⟩
    have HB9 := Lib.hid hO8
    have HK9 := Lib.hid hK8
    rw [← hwz] at hL0 HB9 HK9 ⊢
    have HL9 := Lib.hid hL0
    clear hwz hO8 hK8
    go_upto_region 29 with (first | go_skip | go_guarded)
    go_loopw [14] (fun ki wr => ∃ t : Nat, t ≤ m ∧ ki = .int .i64 t ∧ (0 < m → ∃ g o cs, A5 = some ⟨g, o, none⟩ ∧ Blk wr g 5 cs ∧ o + m ≤ cs.size) ∧ Ext (fun q => 0 < m ∧ A5.map (·.block) = some q) wz wr) (fun ki _ => m - (intOf ki).toNat)
    case atStart => exact ⟨0, Nat.zero_le _, rfl, hL0, Ext.refl _ _⟩
    case round =>
      obtain ⟨t, ht, rfl, hL, hxl⟩ := hrel
      by_cases hlt : t < m
      · obtain ⟨g, o, cs, hAv, hBg, hsz⟩ := hL (by omega)
        have HAV := Lib.hid hAv
        have k9 : wr.cell? ⟨g, o + t, none⟩ = some (cs[o + t]'(by omega)) := by rw [hBg.cell, Array.getElem?_eq_getElem]
        have f9 : wr.frozen? ⟨g, o + t, none⟩ = false := hBg.frozen _
        generalize cs[o + t] = u9 at k9
        have hk0 : (0 : Int) ≤ (t : Int) := by omega
        have hk1 : (t : Int) < m := by omega
        have HT := Lib.hid hlt
        have hB9 : Blk (wr.setCell ⟨g, o + t, none⟩ (.int .u8 98)) g 5 (cs.setIfInBounds (o + t) (.int .u8 98)) := hBg.set_ (o + t) (.int .u8 98)
        have hxs : Ext (fun q => 0 < m ∧ A5.map (·.block) = some q) wr (wr.setCell ⟨g, o + t, none⟩ (.int .u8 98)) := (Ext.set1 wr g (o + t) (.int .u8 98)).mono (fun q hq e => ⟨by omega, by rw [HAV.out, show q = g from e]; rfl⟩)
        clear hlt hL hBg
        rw [hAv]
        clear hAv
        go_wp2_with (first | go_skip | go_guarded)
        rw [← HAV.out]
        go_roundw
        case rel => exact ⟨t + 1, HT.out, by go_num, fun _ => ⟨g, o, _, HAV.out, hB9, by rw [Array.size_setIfInBounds]; exact hsz⟩, hxl.tr hxs⟩
        case measure => have := HT.out; simp [intOf]; omega
      · have hnl : ¬ ((t : Int) < m) := by omega
        have hKK : Ext (BoB b r w) w wz := BoB.trans hK5 HK9.out
        have hfin : Ext (BoB b r w) w wr := hKK.trans hxl (fun q hq e => by obtain ⟨g, o, cs, e1, _, _⟩ := HL9.out e.1; have e2 := e.2; rw [e1] at e2; injection e2 with e2; have h1 := (HOL.out g (by rw [e1]; rfl)).1; have e2 : g = q := e2; omega)
        have hbo : ∀ d9 f9, Both wz (fun q => q < w.heap.size ∨ w5.heap.size ≤ q) b r d9 f9 → Both wr (fun q => q < w.heap.size ∨ w5.heap.size ≤ q) b r d9 f9 := fun d9 f9 hb9 => by
          by_cases hm0 : 0 < m
          · obtain ⟨g, o, cs, e1, hBg, _⟩ := HL9.out hm0
            have hol := HOL.out g (by rw [e1]; rfl)
            exact hb9.bytes hBg (fun e => by rcases e with e | e <;> omega) (hxl.mono (fun q hq e => by have e2 := e.2; rw [e1] at e2; injection e2 with e2; exact e2.symm))
          · exact hb9.keep0 (hxl.mono (fun q hq e => hm0 e.1))
        go_wp2_with (first | go_skip | go_guarded)
        go_ret
        exact ⟨_, rfl, ⟨_, rfl, fun e => by first | rfl | exact HV1.out e⟩, (hbo _ _ HB9.out).top, hfin⟩
  | false =>
    cases hk1 : (kd == 1) with
    | true =>
      obtain rfl : kd = 1 := by simpa using hk1
      go_upto_region 8 with (first | go_skip | go_guarded)
      have hd : Ext Nothing w5 w5.drew := (Ext.refl _ _).drew
      refine zS (S := fun W' => Ext (BoB b r w5) w5 W') (by kernel_rfl) ?_
      have hS : Ext (BoB b r w5) w5 w5.drew := hd.mono (fun _ _ e => e.elim)
      generalize w5.drew = Wd at hd hS ⊢
      refine zT 0 (.pointer (some ⟨b, 0, none⟩)) rfl (by kernel_rfl) (by rfl) hS (fun _ _ _ h => h) (fun W' hS' => by go_simp) ?_
      refine zT 1 (.pointer (some ⟨V, 1, none⟩)) rfl (by kernel_rfl) (by rfl) hS (fun _ _ _ h => h) (fun W' hS' => by go_simp) ?_
      refine zT 2 (strV s) rfl (by kernel_rfl) (by rfl) hS (fun _ _ _ h => h) (fun W' hS' => by have q9 := hS'.cell g1 (fun e => hVn e); go_simp) ?_
      refine zT 3 (.slice A5 m c5) rfl (by kernel_rfl) (by rfl) hS (fun _ _ _ h => h) (fun W' hS' => by go_simp) ?_
      refine zT 5 (.pointer (some ⟨r, 0, none⟩)) rfl (by kernel_rfl) (by rfl) hS (fun _ _ _ h => h) (fun W' hS' => by go_simp) ?_
      refine zT 6 (.pointer (some ⟨V, 1, none⟩)) rfl (by kernel_rfl) (by rfl) hS (fun _ _ _ h => h) (fun W' hS' => by go_simp) ?_
      refine zT 7 (strV s) rfl (by kernel_rfl) (by rfl) hS (fun _ _ _ h => h) (fun W' hS' => by have q9 := hS'.cell g1 (fun e => hVn e); go_simp) ?_
      refine zT 8 (.pointer (some ⟨V, 3, none⟩)) rfl (by kernel_rfl) (by rfl) hS (fun _ _ _ h => h) (fun W' hS' => by go_simp) ?_
      refine zT 9 (.slice A m c) rfl (by kernel_rfl) (by rfl) hS (fun _ _ _ h => h) (fun W' hS' => by have q9 := hS'.cell g3 (fun e => hVn e); go_simp) ?_
      (try simp only [Act.put, zA, zB, zC, zD, zE, zF])
      refine zO 4 (by kernel_rfl) ?_
      have hcall := dkPut s A5 m c5 data Wd (hO5.disk.keep0 hd) hg hdn (hrd w5 hK5).n1 (hs5.ext0 hd) hmm
      refine wpOp_call rfl (by rfl) ?_ (hcall.mono ?_)
      · go_simp
      rintro e w6 ⟨rfl, h6, hx6⟩
      have hS6 := BoB.trans hS (BoB.od hx6)
      have hRf := (hO5.ref.keep0 hd).offd hx6
      have hr6 := hrd w6 (BoB.trans hK5 hS6)
      clear hcall
      refine ⟨_, rfl, hS6, ?_⟩
      (try simp only [Act.put, zA, zB, zC, zD, zE, zF])
      refine zO 10 (by kernel_rfl) ?_
      have hcall := rPut s A m c data w6 hRf hgf hR hfn hr6.n1 hr6.d hmm
      refine wpOp_call rfl (by rfl) ?_ (hcall.mono ?_)
      · go_simp
      rintro e w8 ⟨rfl, h8, hx8⟩
      have hK8 := BoB.trans hS6 (BoB.orr hx8)
      clear hcall
      have hO8 : Both w8 (fun q => q < w.heap.size ∨ w5.heap.size ≤ q) b r (d.write 1 s data).1 (f.write 1 s data).1 := ⟨(h6.offr hx8).mono (fun q hq e => by have h9 := hd.size; rcases e with e | e; exact .inl e; exact .inr (by omega)), h8.mono (fun q hq e => by have h9 := hd.size; have h10 := hx6.size; rcases e with e | e; exact .inl e; exact .inr (by omega)), Dk.good_write hg (by omega) s data, Dk.good_write hgf (by omega) s data, Dk.ren_write hR (by omega) s data⟩
      refine ⟨_, rfl, hK8, ?_⟩
      (try simp only [Act.put, zA, zB, zC, zD, zE, zF])
      refine zO 11 (by kernel_rfl) ?_
      refine wpOp_val (v := .bool ((d.write 1 s data).2 == (f.write 1 s data).2)) rfl (by rfl) (by go_simp) ⟨hK8, ?_⟩
      (try simp only [Act.put, zA, zB, zC, zD, zE, zF])
      refine zO 12 (by kernel_rfl) ?_
      refine wpOp_val (v := .bool ((d.write 1 s data).2 == (f.write 1 s data).2)) rfl (by rfl) (by go_simp) ⟨hK8, wpAnyH_done (by kernel_rfl) ?_ _⟩
      (try simp only [Act.put, zA, zB, zC, zD, zE, zF])
      generalize hvb : ((d.write 1 s data).2 == (f.write 1 s data).2) = vb
      have HV1 := Lib.hid (show d = f → vb = true from fun e => by rw [← hvb, e]; simp)
      clear hvb
      clear hd hS hS6 hRf hr6 h6 h8 hx6 hx8
      go_upto_region 28 with (first | go_skip | go_guarded)
      have hown8 := own_ext hown5 hK8 (fun g hg e => by obtain ⟨cs9, h9⟩ := own_blk hown5 hg; exact BoB.ty h9 (by decide) (by decide) (by decide) (by decide) e)
      have HOL := Lib.hid (fun g (hg : (Value.slice A5 m c5).ownBlock = some g) => And.intro (hown5.lt g hg).1 (own_lt hown5 hg))
      have hL0 : 0 < m → ∃ g o cs, A5 = some ⟨g, o, none⟩ ∧ Blk w8 g 5 cs ∧ o + m ≤ cs.size := fun hm0 => by rcases hown8.2 with ⟨_, e⟩ | ⟨g, cap, cur, hv, _, hg9, hnc, _, hcz, _⟩; omega; injection hv with e1 _ _; exact ⟨g, 0, cur, e1, hg9, by omega⟩
      clear hown8 hs5 hO5 hB5 hVn g0 g1 g2 g3 g4
      obtain ⟨wz, hwz⟩ : ∃ z : World, z = w8 := ⟨_, rfl⟩
      have HB9 := Lib.hid hO8
      have HK9 := Lib.hid hK8
      rw [← hwz] at hL0 HB9 HK9 ⊢
      have HL9 := Lib.hid hL0
      clear hwz hO8 hK8
      go_upto_region 29 with (first | go_skip | go_guarded)
      go_loopw [14] (fun ki wr => ∃ t : Nat, t ≤ m ∧ ki = .int .i64 t ∧ (0 < m → ∃ g o cs, A5 = some ⟨g, o, none⟩ ∧ Blk wr g 5 cs ∧ o + m ≤ cs.size) ∧ Ext (fun q => 0 < m ∧ A5.map (·.block) = some q) wz wr) (fun ki _ => m - (intOf ki).toNat)
      case atStart => exact ⟨0, Nat.zero_le _, rfl, hL0, Ext.refl _ _⟩
      case round =>
        obtain ⟨t, ht, rfl, hL, hxl⟩ := hrel
        by_cases hlt : t < m
        · obtain ⟨g, o, cs, hAv, hBg, hsz⟩ := hL (by omega)
          have HAV := Lib.hid hAv
          have k9 : wr.cell? ⟨g, o + t, none⟩ = some (cs[o + t]'(by omega)) := by rw [hBg.cell, Array.getElem?_eq_getElem]
          have f9 : wr.frozen? ⟨g, o + t, none⟩ = false := hBg.frozen _
          generalize cs[o + t] = u9 at k9
          have hk0 : (0 : Int) ≤ (t : Int) := by omega
          have hk1 : (t : Int) < m := by omega
          have HT := Lib.hid hlt
          have hB9 : Blk (wr.setCell ⟨g, o + t, none⟩ (.int .u8 98)) g 5 (cs.setIfInBounds (o + t) (.int .u8 98)) := hBg.set_ (o + t) (.int .u8 98)
          have hxs : Ext (fun q => 0 < m ∧ A5.map (·.block) = some q) wr (wr.setCell ⟨g, o + t, none⟩ (.int .u8 98)) := (Ext.set1 wr g (o + t) (.int .u8 98)).mono (fun q hq e => ⟨by omega, by rw [HAV.out, show q = g from e]; rfl⟩)
          clear hlt hL hBg
          rw [hAv]
          clear hAv
          go_wp2_with (first | go_skip | go_guarded)
          rw [← HAV.out]
          go_roundw
          case rel => exact ⟨t + 1, HT.out, by go_num, fun _ => ⟨g, o, _, HAV.out, hB9, by rw [Array.size_setIfInBounds]; exact hsz⟩, hxl.tr hxs⟩
          case measure => have := HT.out; simp [intOf]; omega
        · have hnl : ¬ ((t : Int) < m) := by omega
          have hKK : Ext (BoB b r w) w wz := BoB.trans hK5 HK9.out
          have hfin : Ext (BoB b r w) w wr := hKK.trans hxl (fun q hq e => by obtain ⟨g, o, cs, e1, _, _⟩ := HL9.out e.1; have e2 := e.2; rw [e1] at e2; injection e2 with e2; have h1 := (HOL.out g (by rw [e1]; rfl)).1; have e2 : g = q := e2; omega)
          have hbo : ∀ d9 f9, Both wz (fun q => q < w.heap.size ∨ w5.heap.size ≤ q) b r d9 f9 → Both wr (fun q => q < w.heap.size ∨ w5.heap.size ≤ q) b r d9 f9 := fun d9 f9 hb9 => by
            by_cases hm0 : 0 < m
            · obtain ⟨g, o, cs, e1, hBg, _⟩ := HL9.out hm0
              have hol := HOL.out g (by rw [e1]; rfl)
              exact hb9.bytes hBg (fun e => by rcases e with e | e <;> omega) (hxl.mono (fun q hq e => by have e2 := e.2; rw [e1] at e2; injection e2 with e2; exact e2.symm))
            · exact hb9.keep0 (hxl.mono (fun q hq e => hm0 e.1))
          go_wp2_with (first | go_skip | go_guarded)
          go_ret
          exact ⟨_, rfl, ⟨_, rfl, fun e => by first | rfl | exact HV1.out e⟩, (hbo _ _ HB9.out).top, hfin⟩
    | false =>
      cases hk2 : (kd == 2) with
      | true =>
        obtain rfl : kd = 2 := by simpa using hk2
        have hn1 := (hrd w5 hK5).n1
        go_upto_region 11 with (first | go_skip | go_guarded | (go_at_call 23; (with_reducible refine (dkRead s w5 hO5.disk hg hn1).mono ?_); rintro e w6 ⟨v6, rfl, hv6, hx6⟩))
        obtain ⟨A6, n6, c6, rfl, ⟨hs6, hc6⟩, hb6⟩ := hv6
        have g16 := hx6.c0 g1
        go_upto_region 12 with (first | go_skip | go_guarded | (go_at_call 27; (with_reducible refine (rRead s w6 (hO5.ref.keep0 hx6) hgf hR hfn hn1).mono ?_); rintro e w7 ⟨v7, rfl, hv7, hx7⟩))
        obtain ⟨A7, n7, c7, rfl, ⟨hs7, _⟩, _⟩ := hv7
        have hs67 := hs6.ext0 hx7
        have hrl : (d.read s).1.length ≤ 1048576 := Dk.read_len hg s
        have hn6 : n6 = (d.read s).1.length := by simpa using hs6.1
        have hn6l : n6 < 67108864 := by omega
        have hn6m : n6 ≤ 33554432 := by omega
        clear hn6
        have hcall := rSame A6 n6 c6 _ A7 n7 c7 _ w7 hs67 hs7 hn6l
        cases hcd : ((d.read s).2 == (f.read s).2) with
        | true =>
          go_upto_region 13 with (first | go_skip | go_guarded | (go_at_call 24; (refine hcall.mono ?_); rintro e w9 ⟨rfl, hx9⟩))
          have hx59 := (hx6.tr hx7).tr hx9
          clear hcd
          generalize hvb : decide ((d.read s).1 = (f.read s).1) = vb
          have HV1 := Lib.hid (show d = f → vb = true from fun e => by rw [← hvb, e]; simp)
          clear hvb
          have hL0 : 0 < n6 → ∃ g o cs, A6 = some ⟨g, o, none⟩ ∧ Blk w9 g 5 cs ∧ o + n6 ≤ cs.size := fun hm0 => by obtain ⟨hj, q, o, hA, _⟩ := hs6.get (Ext.refl _ _) (k := n6 - 1) (by omega); obtain ⟨_, cs, hBl⟩ := hb6 q (by rw [hA]; rfl) (fun e => by rw [e] at hj; simp at hj); refine ⟨q, o, cs, hA, (hBl.e0 hx7).e0 hx9, ?_⟩; obtain ⟨_, q2, o2, hA2, hc2⟩ := hs6.get (Ext.refl _ _) (k := n6 - 1) (by omega); rw [hA] at hA2; injection hA2 with hA2; injection hA2 with e1 e2; subst e1 e2; have h9 := hc2 0 _ rfl; rw [hBl.cell] at h9; have h10 := (Array.getElem?_eq_some_iff.1 h9).1; omega
          have hW9 : ∀ g, A6.map (·.block) = some g → 0 < n6 → w5.heap.size ≤ g := fun g hg9 hm0 => by obtain ⟨hj, q, o, hA, _⟩ := hs6.get (Ext.refl _ _) (k := n6 - 1) (by omega); exact (hb6 g hg9 (fun e => by rw [e] at hj; simp at hj)).1
          clear hcall hs7 hs67 hx6 hx7 hx9 g16
          have HL8 := Lib.hid hL0
          have HG8 := Lib.hid hW9
          have HX8 := Lib.hid hx59
          clear hx59 hW9 hs6 hc6 hb6
          obtain ⟨wy, hwy⟩ : ∃ z : World, z = w9 := ⟨_, rfl⟩
          rw [← hwy] at hL0 HL8 HX8 ⊢
          clear hwy
          go_upto_region 14 with (first | go_skip | go_guarded)
          go_loopw [13] (fun ki wr => ∃ t : Nat, t ≤ n6 ∧ ki = .int .i64 t ∧ (0 < n6 → ∃ g o cs, A6 = some ⟨g, o, none⟩ ∧ Blk wr g 5 cs ∧ o + n6 ≤ cs.size) ∧ Ext (fun q => 0 < n6 ∧ A6.map (·.block) = some q) wy wr) (fun ki _ => n6 - (intOf ki).toNat)
          case atStart => exact ⟨0, Nat.zero_le _, rfl, hL0, Ext.refl _ _⟩
          case round =>
            obtain ⟨t, ht, rfl, hL, hxl⟩ := hrel
            by_cases hlt : t < n6
            · obtain ⟨g, o, cs, hAv, hBg, hsz⟩ := hL (by omega)
              have HAV := Lib.hid hAv
              have k9 : wr.cell? ⟨g, o + t, none⟩ = some (cs[o + t]'(by omega)) := by rw [hBg.cell, Array.getElem?_eq_getElem]
              have f9 : wr.frozen? ⟨g, o + t, none⟩ = false := hBg.frozen _
              generalize cs[o + t] = u9 at k9
              have hk0 : (0 : Int) ≤ (t : Int) := by omega
              have hk1 : (t : Int) < n6 := by omega
              have HT := Lib.hid hlt
              have hB9 : Blk (wr.setCell ⟨g, o + t, none⟩ (.int .u8 99)) g 5 (cs.setIfInBounds (o + t) (.int .u8 99)) := hBg.set_ (o + t) (.int .u8 99)
              have hxs : Ext (fun q => 0 < n6 ∧ A6.map (·.block) = some q) wr (wr.setCell ⟨g, o + t, none⟩ (.int .u8 99)) := (Ext.set1 wr g (o + t) (.int .u8 99)).mono (fun q hq e => ⟨by omega, by rw [HAV.out, show q = g from e]; rfl⟩)
              clear hlt hL hBg
              rw [hAv]
              clear hAv
              go_wp2_with (first | go_skip | go_guarded)
              rw [← HAV.out]
              go_roundw
              case rel => exact ⟨t + 1, HT.out, by go_num, fun _ => ⟨g, o, _, HAV.out, hB9, by rw [Array.size_setIfInBounds]; exact hsz⟩, hxl.tr hxs⟩
              case measure => have := HT.out; simp [intOf]; omega
            · have hnl : ¬ ((t : Int) < n6) := by omega
              have hx5r : Ext Nothing w5 wr := HX8.out.trans hxl (fun q hq e => by have := HG8.out q e.2 e.1; omega)
              have hK8 : Ext (BoB b r w5) w5 wr := hx5r.mono (fun _ _ e => e.elim)
              have hO8 : Both wr (fun q => q < w.heap.size ∨ w5.heap.size ≤ q) b r d f := (hO5.keep0 hx5r).mono (fun q hq e => .inl e)
              clear hx5r hL0 hL hxl
              go_upto_region 28 with (first | go_skip | go_guarded)
              have hown8 := own_ext hown5 hK8 (fun g hg e => by obtain ⟨cs9, h9⟩ := own_blk hown5 hg; exact BoB.ty h9 (by decide) (by decide) (by decide) (by decide) e)
              have HOL := Lib.hid (fun g (hg : (Value.slice A5 m c5).ownBlock = some g) => And.intro (hown5.lt g hg).1 (own_lt hown5 hg))
              have hL0 : 0 < m → ∃ g o cs, A5 = some ⟨g, o, none⟩ ∧ Blk wr g 5 cs ∧ o + m ≤ cs.size := fun hm0 => by rcases hown8.2 with ⟨_, e⟩ | ⟨g, cap, cur, hv, _, hg9, hnc, _, hcz, _⟩; omega; injection hv with e1 _ _; exact ⟨g, 0, cur, e1, hg9, by omega⟩
              clear hown8 hs5 hO5 hB5 hVn g0 g1 g2 g3 g4
              obtain ⟨wz, hwz⟩ : ∃ z : World, z = wr := ⟨_, rfl⟩
              have HB9 := Lib.hid hO8
              have HK9 := Lib.hid hK8
              rw [← hwz] at hL0 HB9 HK9 ⊢
              have HL9 := Lib.hid hL0
              clear hwz hO8 hK8
              go_upto_region 29 with (first | go_skip | go_guarded)
              go_loopw [14] (fun ki wr => ∃ t : Nat, t ≤ m ∧ ki = .int .i64 t ∧ (0 < m → ∃ g o cs, A5 = some ⟨g, o, none⟩ ∧ Blk wr g 5 cs ∧ o + m ≤ cs.size) ∧ Ext (fun q => 0 < m ∧ A5.map (·.block) = some q) wz wr) (fun ki _ => m - (intOf ki).toNat)
              case atStart => exact ⟨0, Nat.zero_le _, rfl, hL0, Ext.refl _ _⟩
              case round =>
                obtain ⟨t, ht, rfl, hL, hxl⟩ := hrel
                by_cases hlt : t < m
                · obtain ⟨g, o, cs, hAv, hBg, hsz⟩ := hL (by omega)
                  have HAV := Lib.hid hAv
                  have k9 : wr.cell? ⟨g, o + t, none⟩ = some (cs[o + t]'(by omega)) := by rw [hBg.cell, Array.getElem?_eq_getElem]
                  have f9 : wr.frozen? ⟨g, o + t, none⟩ = false := hBg.frozen _
                  generalize cs[o + t] = u9 at k9
                  have hk0 : (0 : Int) ≤ (t : Int) := by omega
                  have hk1 : (t : Int) < m := by omega
                  have HT := Lib.hid hlt
                  have hB9 : Blk (wr.setCell ⟨g, o + t, none⟩ (.int .u8 98)) g 5 (cs.setIfInBounds (o + t) (.int .u8 98)) := hBg.set_ (o + t) (.int .u8 98)
                  have hxs : Ext (fun q => 0 < m ∧ A5.map (·.block) = some q) wr (wr.setCell ⟨g, o + t, none⟩ (.int .u8 98)) := (Ext.set1 wr g (o + t) (.int .u8 98)).mono (fun q hq e => ⟨by omega, by rw [HAV.out, show q = g from e]; rfl⟩)
                  clear hlt hL hBg
                  rw [hAv]
                  clear hAv
                  go_wp2_with (first | go_skip | go_guarded)
                  rw [← HAV.out]
                  go_roundw
                  case rel => exact ⟨t + 1, HT.out, by go_num, fun _ => ⟨g, o, _, HAV.out, hB9, by rw [Array.size_setIfInBounds]; exact hsz⟩, hxl.tr hxs⟩
                  case measure => have := HT.out; simp [intOf]; omega
                · have hnl : ¬ ((t : Int) < m) := by omega
                  have hKK : Ext (BoB b r w) w wz := BoB.trans hK5 HK9.out
                  have hfin : Ext (BoB b r w) w wr := hKK.trans hxl (fun q hq e => by obtain ⟨g, o, cs, e1, _, _⟩ := HL9.out e.1; have e2 := e.2; rw [e1] at e2; injection e2 with e2; have h1 := (HOL.out g (by rw [e1]; rfl)).1; have e2 : g = q := e2; omega)
                  have hbo : ∀ d9 f9, Both wz (fun q => q < w.heap.size ∨ w5.heap.size ≤ q) b r d9 f9 → Both wr (fun q => q < w.heap.size ∨ w5.heap.size ≤ q) b r d9 f9 := fun d9 f9 hb9 => by
                    by_cases hm0 : 0 < m
                    · obtain ⟨g, o, cs, e1, hBg, _⟩ := HL9.out hm0
                      have hol := HOL.out g (by rw [e1]; rfl)
                      exact hb9.bytes hBg (fun e => by rcases e with e | e <;> omega) (hxl.mono (fun q hq e => by have e2 := e.2; rw [e1] at e2; injection e2 with e2; exact e2.symm))
                    · exact hb9.keep0 (hxl.mono (fun q hq e => hm0 e.1))
                  go_wp2_with (first | go_skip | go_guarded)
                  go_ret
                  exact ⟨_, rfl, ⟨_, rfl, fun e => by first | rfl | exact HV1.out e⟩, (hbo _ _ HB9.out).top, hfin⟩
        | false =>
          have HV1 := Lib.hid (show d = f → false = true from fun e => by rw [e] at hcd; simp at hcd)
          go_upto_region 13 with (first | go_skip | go_guarded)
          clear hcd
          obtain ⟨w9, hw9⟩ : ∃ z : World, z = w7 := ⟨_, rfl⟩
          rw [← hw9] at hx7 ⊢
          have hx59 := hx6.tr hx7
          have hL0 : 0 < n6 → ∃ g o cs, A6 = some ⟨g, o, none⟩ ∧ Blk w9 g 5 cs ∧ o + n6 ≤ cs.size := fun hm0 => by obtain ⟨hj, q, o, hA, _⟩ := hs6.get (Ext.refl _ _) (k := n6 - 1) (by omega); obtain ⟨_, cs, hBl⟩ := hb6 q (by rw [hA]; rfl) (fun e => by rw [e] at hj; simp at hj); refine ⟨q, o, cs, hA, hBl.e0 hx7, ?_⟩; obtain ⟨_, q2, o2, hA2, hc2⟩ := hs6.get (Ext.refl _ _) (k := n6 - 1) (by omega); rw [hA] at hA2; injection hA2 with hA2; injection hA2 with e1 e2; subst e1 e2; have h9 := hc2 0 _ rfl; rw [hBl.cell] at h9; have h10 := (Array.getElem?_eq_some_iff.1 h9).1; omega
          have hW9 : ∀ g, A6.map (·.block) = some g → 0 < n6 → w5.heap.size ≤ g := fun g hg9 hm0 => by obtain ⟨hj, q, o, hA, _⟩ := hs6.get (Ext.refl _ _) (k := n6 - 1) (by omega); exact (hb6 g hg9 (fun e => by rw [e] at hj; simp at hj)).1
          clear hcall hs7 hs67 hx6 hx7 g16
          have HL8 := Lib.hid hL0
          have HG8 := Lib.hid hW9
          have HX8 := Lib.hid hx59
          clear hx59 hW9 hs6 hc6 hb6
          obtain ⟨wy, hwy⟩ : ∃ z : World, z = w9 := ⟨_, rfl⟩
          rw [← hwy] at hL0 HL8 HX8 ⊢
          clear hwy
          go_upto_region 14 with (first | go_skip | go_guarded)
          go_loopw [13] (fun ki wr => ∃ t : Nat, t ≤ n6 ∧ ki = .int .i64 t ∧ (0 < n6 → ∃ g o cs, A6 = some ⟨g, o, none⟩ ∧ Blk wr g 5 cs ∧ o + n6 ≤ cs.size) ∧ Ext (fun q => 0 < n6 ∧ A6.map (·.block) = some q) wy wr) (fun ki _ => n6 - (intOf ki).toNat)
          case atStart => exact ⟨0, Nat.zero_le _, rfl, hL0, Ext.refl _ _⟩
          case round =>
            obtain ⟨t, ht, rfl, hL, hxl⟩ := hrel
            by_cases hlt : t < n6
            · obtain ⟨g, o, cs, hAv, hBg, hsz⟩ := hL (by omega)
              have HAV := Lib.hid hAv
              have k9 : wr.cell? ⟨g, o + t, none⟩ = some (cs[o + t]'(by omega)) := by rw [hBg.cell, Array.getElem?_eq_getElem]
              have f9 : wr.frozen? ⟨g, o + t, none⟩ = false := hBg.frozen _
              generalize cs[o + t] = u9 at k9
              have hk0 : (0 : Int) ≤ (t : Int) := by omega
              have hk1 : (t : Int) < n6 := by omega
              have HT := Lib.hid hlt
              have hB9 : Blk (wr.setCell ⟨g, o + t, none⟩ (.int .u8 99)) g 5 (cs.setIfInBounds (o + t) (.int .u8 99)) := hBg.set_ (o + t) (.int .u8 99)
              have hxs : Ext (fun q => 0 < n6 ∧ A6.map (·.block) = some q) wr (wr.setCell ⟨g, o + t, none⟩ (.int .u8 99)) := (Ext.set1 wr g (o + t) (.int .u8 99)).mono (fun q hq e => ⟨by omega, by rw [HAV.out, show q = g from e]; rfl⟩)
              clear hlt hL hBg
              rw [hAv]
              clear hAv
              go_wp2_with (first | go_skip | go_guarded)
              rw [← HAV.out]
              go_roundw
              case rel => exact ⟨t + 1, HT.out, by go_num, fun _ => ⟨g, o, _, HAV.out, hB9, by rw [Array.size_setIfInBounds]; exact hsz⟩, hxl.tr hxs⟩
              case measure => have := HT.out; simp [intOf]; omega
            · have hnl : ¬ ((t : Int) < n6) := by omega
              have hx5r : Ext Nothing w5 wr := HX8.out.trans hxl (fun q hq e => by have := HG8.out q e.2 e.1; omega)
              have hK8 : Ext (BoB b r w5) w5 wr := hx5r.mono (fun _ _ e => e.elim)
              have hO8 : Both wr (fun q => q < w.heap.size ∨ w5.heap.size ≤ q) b r d f := (hO5.keep0 hx5r).mono (fun q hq e => .inl e)
              clear hx5r hL0 hL hxl
              go_upto_region 28 with (first | go_skip | go_guarded)
              have hown8 := own_ext hown5 hK8 (fun g hg e => by obtain ⟨cs9, h9⟩ := own_blk hown5 hg; exact BoB.ty h9 (by decide) (by decide) (by decide) (by decide) e)
              have HOL := Lib.hid (fun g (hg : (Value.slice A5 m c5).ownBlock = some g) => And.intro (hown5.lt g hg).1 (own_lt hown5 hg))
              have hL0 : 0 < m → ∃ g o cs, A5 = some ⟨g, o, none⟩ ∧ Blk wr g 5 cs ∧ o + m ≤ cs.size := fun hm0 => by rcases hown8.2 with ⟨_, e⟩ | ⟨g, cap, cur, hv, _, hg9, hnc, _, hcz, _⟩; omega; injection hv with e1 _ _; exact ⟨g, 0, cur, e1, hg9, by omega⟩
              clear hown8 hs5 hO5 hB5 hVn g0 g1 g2 g3 g4
              obtain ⟨wz, hwz⟩ : ∃ z : World, z = wr := ⟨_, rfl⟩
              have HB9 := Lib.hid hO8
              have HK9 := Lib.hid hK8
              rw [← hwz] at hL0 HB9 HK9 ⊢
              have HL9 := Lib.hid hL0
              clear hwz hO8 hK8
              go_upto_region 29 with (first | go_skip | go_guarded)
              go_loopw [14] (fun ki wr => ∃ t : Nat, t ≤ m ∧ ki = .int .i64 t ∧ (0 < m → ∃ g o cs, A5 = some ⟨g, o, none⟩ ∧ Blk wr g 5 cs ∧ o + m ≤ cs.size) ∧ Ext (fun q => 0 < m ∧ A5.map (·.block) = some q) wz wr) (fun ki _ => m - (intOf ki).toNat)
              case atStart => exact ⟨0, Nat.zero_le _, rfl, hL0, Ext.refl _ _⟩
              case round =>
                obtain ⟨t, ht, rfl, hL, hxl⟩ := hrel
                by_cases hlt : t < m
                · obtain ⟨g, o, cs, hAv, hBg, hsz⟩ := hL (by omega)
                  have HAV := Lib.hid hAv
                  have k9 : wr.cell? ⟨g, o + t, none⟩ = some (cs[o + t]'(by omega)) := by rw [hBg.cell, Array.getElem?_eq_getElem]
                  have f9 : wr.frozen? ⟨g, o + t, none⟩ = false := hBg.frozen _
                  generalize cs[o + t] = u9 at k9
                  have hk0 : (0 : Int) ≤ (t : Int) := by omega
                  have hk1 : (t : Int) < m := by omega
                  have HT := Lib.hid hlt
                  have hB9 : Blk (wr.setCell ⟨g, o + t, none⟩ (.int .u8 98)) g 5 (cs.setIfInBounds (o + t) (.int .u8 98)) := hBg.set_ (o + t) (.int .u8 98)
                  have hxs : Ext (fun q => 0 < m ∧ A5.map (·.block) = some q) wr (wr.setCell ⟨g, o + t, none⟩ (.int .u8 98)) := (Ext.set1 wr g (o + t) (.int .u8 98)).mono (fun q hq e => ⟨by omega, by rw [HAV.out, show q = g from e]; rfl⟩)
                  clear hlt hL hBg
                  rw [hAv]
                  clear hAv
                  go_wp2_with (first | go_skip | go_guarded)
                  rw [← HAV.out]
                  go_roundw
                  case rel => exact ⟨t + 1, HT.out, by go_num, fun _ => ⟨g, o, _, HAV.out, hB9, by rw [Array.size_setIfInBounds]; exact hsz⟩, hxl.tr hxs⟩
                  case measure => have := HT.out; simp [intOf]; omega
                · have hnl : ¬ ((t : Int) < m) := by omega
                  have hKK : Ext (BoB b r w) w wz := BoB.trans hK5 HK9.out
                  have hfin : Ext (BoB b r w) w wr := hKK.trans hxl (fun q hq e => by obtain ⟨g, o, cs, e1, _, _⟩ := HL9.out e.1; have e2 := e.2; rw [e1] at e2; injection e2 with e2; have h1 := (HOL.out g (by rw [e1]; rfl)).1; have e2 : g = q := e2; omega)
                  have hbo : ∀ d9 f9, Both wz (fun q => q < w.heap.size ∨ w5.heap.size ≤ q) b r d9 f9 → Both wr (fun q => q < w.heap.size ∨ w5.heap.size ≤ q) b r d9 f9 := fun d9 f9 hb9 => by
                    by_cases hm0 : 0 < m
                    · obtain ⟨g, o, cs, e1, hBg, _⟩ := HL9.out hm0
                      have hol := HOL.out g (by rw [e1]; rfl)
                      exact hb9.bytes hBg (fun e => by rcases e with e | e <;> omega) (hxl.mono (fun q hq e => by have e2 := e.2; rw [e1] at e2; injection e2 with e2; exact e2.symm))
                    · exact hb9.keep0 (hxl.mono (fun q hq e => hm0 e.1))
                  go_wp2_with (first | go_skip | go_guarded)
                  go_ret
                  exact ⟨_, rfl, ⟨_, rfl, fun e => by first | rfl | exact HV1.out e⟩, (hbo _ _ HB9.out).top, hfin⟩
      | false =>
        cases hk3 : (kd == 3) with
        | true =>
          obtain rfl : kd = 3 := by simpa using hk3
          go_upto_region 18 with (first | go_skip | go_guarded)
          have hd : Ext Nothing w5 w5.drew := (Ext.refl _ _).drew
          refine zS (S := fun W' => Ext (BoB b r w5) w5 W') (by kernel_rfl) ?_
          have hS : Ext (BoB b r w5) w5 w5.drew := hd.mono (fun _ _ e => e.elim)
          generalize w5.drew = Wd at hd hS ⊢
          refine zT 0 (.pointer (some ⟨b, 0, none⟩)) rfl (by kernel_rfl) (by rfl) hS (fun _ _ _ h => h) (fun W' hS' => by go_simp) ?_
          refine zT 1 (.pointer (some ⟨V, 1, none⟩)) rfl (by kernel_rfl) (by rfl) hS (fun _ _ _ h => h) (fun W' hS' => by go_simp) ?_
          refine zT 2 (strV s) rfl (by kernel_rfl) (by rfl) hS (fun _ _ _ h => h) (fun W' hS' => by have q9 := hS'.cell g1 (fun e => hVn e); go_simp) ?_
          refine zT 4 (.pointer (some ⟨r, 0, none⟩)) rfl (by kernel_rfl) (by rfl) hS (fun _ _ _ h => h) (fun W' hS' => by go_simp) ?_
          refine zT 5 (.pointer (some ⟨V, 1, none⟩)) rfl (by kernel_rfl) (by rfl) hS (fun _ _ _ h => h) (fun W' hS' => by go_simp) ?_
          refine zT 6 (strV s) rfl (by kernel_rfl) (by rfl) hS (fun _ _ _ h => h) (fun W' hS' => by have q9 := hS'.cell g1 (fun e => hVn e); go_simp) ?_
          (try simp only [Act.put, zA, zB, zC, zD, zE, zF])
          refine zO 3 (by kernel_rfl) ?_
          have hcall := dkRemove s Wd (hO5.disk.keep0 hd) hg hdn (hrd w5 hK5).n1
          refine wpOp_call rfl (by rfl) ?_ (hcall.mono ?_)
          · go_simp
          rintro e w6 ⟨rfl, h6, hx6⟩
          have hS6 := BoB.trans hS (BoB.od hx6)
          have hRf := (hO5.ref.keep0 hd).offd hx6
          have hr6 := hrd w6 (BoB.trans hK5 hS6)
          clear hcall
          refine ⟨_, rfl, hS6, ?_⟩
          (try simp only [Act.put, zA, zB, zC, zD, zE, zF])
          refine zO 7 (by kernel_rfl) ?_
          have hcall := rRemove s w6 hRf hgf hR hfn hr6.n1
          refine wpOp_call rfl (by rfl) ?_ (hcall.mono ?_)
          · go_simp
          rintro e w8 ⟨rfl, h8, hx8⟩
          have hK8 := BoB.trans hS6 (BoB.orr hx8)
          clear hcall
          have hO8 : Both w8 (fun q => q < w.heap.size ∨ w5.heap.size ≤ q) b r (d.remove s).1 (f.remove s).1 := ⟨(h6.offr hx8).mono (fun q hq e => by have h9 := hd.size; rcases e with e | e; exact .inl e; exact .inr (by omega)), h8.mono (fun q hq e => by have h9 := hd.size; have h10 := hx6.size; rcases e with e | e; exact .inl e; exact .inr (by omega)), Dk.good_move hg (.inl ⟨rfl, rfl⟩) rfl, Dk.good_move hgf (.inl ⟨rfl, rfl⟩) rfl, Dk.ren_move hR _ _⟩
          refine ⟨_, rfl, hK8, ?_⟩
          (try simp only [Act.put, zA, zB, zC, zD, zE, zF])
          refine zO 8 (by kernel_rfl) ?_
          refine wpOp_val (v := .bool ((d.remove s).2 == (f.remove s).2)) rfl (by rfl) (by go_simp) ⟨hK8, ?_⟩
          (try simp only [Act.put, zA, zB, zC, zD, zE, zF])
          refine zO 9 (by kernel_rfl) ?_
          refine wpOp_val (v := .bool ((d.remove s).2 == (f.remove s).2)) rfl (by rfl) (by go_simp) ⟨hK8, wpAnyH_done (by kernel_rfl) ?_ _⟩
          (try simp only [Act.put, zA, zB, zC, zD, zE, zF])
          generalize hvb : ((d.remove s).2 == (f.remove s).2) = vb
          have HV1 := Lib.hid (show d = f → vb = true from fun e => by rw [← hvb, e]; simp)
          clear hvb
          clear hd hS hS6 hRf hr6 h6 h8 hx6 hx8
          go_upto_region 28 with (first | go_skip | go_guarded)
          have hown8 := own_ext hown5 hK8 (fun g hg e => by obtain ⟨cs9, h9⟩ := own_blk hown5 hg; exact BoB.ty h9 (by decide) (by decide) (by decide) (by decide) e)
          have HOL := Lib.hid (fun g (hg : (Value.slice A5 m c5).ownBlock = some g) => And.intro (hown5.lt g hg).1 (own_lt hown5 hg))
          have hL0 : 0 < m → ∃ g o cs, A5 = some ⟨g, o, none⟩ ∧ Blk w8 g 5 cs ∧ o + m ≤ cs.size := fun hm0 => by rcases hown8.2 with ⟨_, e⟩ | ⟨g, cap, cur, hv, _, hg9, hnc, _, hcz, _⟩; omega; injection hv with e1 _ _; exact ⟨g, 0, cur, e1, hg9, by omega⟩
          clear hown8 hs5 hO5 hB5 hVn g0 g1 g2 g3 g4
          obtain ⟨wz, hwz⟩ : ∃ z : World, z = w8 := ⟨_, rfl⟩
          have HB9 := Lib.hid hO8
          have HK9 := Lib.hid hK8
          rw [← hwz] at hL0 HB9 HK9 ⊢
          have HL9 := Lib.hid hL0
          clear hwz hO8 hK8
          go_upto_region 29 with (first | go_skip | go_guarded)
          go_loopw [14] (fun ki wr => ∃ t : Nat, t ≤ m ∧ ki = .int .i64 t ∧ (0 < m → ∃ g o cs, A5 = some ⟨g, o, none⟩ ∧ Blk wr g 5 cs ∧ o + m ≤ cs.size) ∧ Ext (fun q => 0 < m ∧ A5.map (·.block) = some q) wz wr) (fun ki _ => m - (intOf ki).toNat)
          case atStart => exact ⟨0, Nat.zero_le _, rfl, hL0, Ext.refl _ _⟩
          case round =>
            obtain ⟨t, ht, rfl, hL, hxl⟩ := hrel
            by_cases hlt : t < m
            · obtain ⟨g, o, cs, hAv, hBg, hsz⟩ := hL (by omega)
              have HAV := Lib.hid hAv
              have k9 : wr.cell? ⟨g, o + t, none⟩ = some (cs[o + t]'(by omega)) := by rw [hBg.cell, Array.getElem?_eq_getElem]
              have f9 : wr.frozen? ⟨g, o + t, none⟩ = false := hBg.frozen _
              generalize cs[o + t] = u9 at k9
              have hk0 : (0 : Int) ≤ (t : Int) := by omega
              have hk1 : (t : Int) < m := by omega
              have HT := Lib.hid hlt
              have hB9 : Blk (wr.setCell ⟨g, o + t, none⟩ (.int .u8 98)) g 5 (cs.setIfInBounds (o + t) (.int .u8 98)) := hBg.set_ (o + t) (.int .u8 98)
              have hxs : Ext (fun q => 0 < m ∧ A5.map (·.block) = some q) wr (wr.setCell ⟨g, o + t, none⟩ (.int .u8 98)) := (Ext.set1 wr g (o + t) (.int .u8 98)).mono (fun q hq e => ⟨by omega, by rw [HAV.out, show q = g from e]; rfl⟩)
              clear hlt hL hBg
              rw [hAv]
              clear hAv
              go_wp2_with (first | go_skip | go_guarded)
              rw [← HAV.out]
              go_roundw
              case rel => exact ⟨t + 1, HT.out, by go_num, fun _ => ⟨g, o, _, HAV.out, hB9, by rw [Array.size_setIfInBounds]; exact hsz⟩, hxl.tr hxs⟩
              case measure => have := HT.out; simp [intOf]; omega
            · have hnl : ¬ ((t : Int) < m) := by omega
              have hKK : Ext (BoB b r w) w wz := BoB.trans hK5 HK9.out
              have hfin : Ext (BoB b r w) w wr := hKK.trans hxl (fun q hq e => by obtain ⟨g, o, cs, e1, _, _⟩ := HL9.out e.1; have e2 := e.2; rw [e1] at e2; injection e2 with e2; have h1 := (HOL.out g (by rw [e1]; rfl)).1; have e2 : g = q := e2; omega)
              have hbo : ∀ d9 f9, Both wz (fun q => q < w.heap.size ∨ w5.heap.size ≤ q) b r d9 f9 → Both wr (fun q => q < w.heap.size ∨ w5.heap.size ≤ q) b r d9 f9 := fun d9 f9 hb9 => by
                by_cases hm0 : 0 < m
                · obtain ⟨g, o, cs, e1, hBg, _⟩ := HL9.out hm0
                  have hol := HOL.out g (by rw [e1]; rfl)
                  exact hb9.bytes hBg (fun e => by rcases e with e | e <;> omega) (hxl.mono (fun q hq e => by have e2 := e.2; rw [e1] at e2; injection e2 with e2; exact e2.symm))
                · exact hb9.keep0 (hxl.mono (fun q hq e => hm0 e.1))
              go_wp2_with (first | go_skip | go_guarded)
              go_ret
              exact ⟨_, rfl, ⟨_, rfl, fun e => by first | rfl | exact HV1.out e⟩, (hbo _ _ HB9.out).top, hfin⟩
        | false =>
          cases hk4 : (kd == 4) with
          | true =>
            obtain rfl : kd = 4 := by simpa using hk4
            go_upto_region 20 with (first | go_skip | go_guarded)
            have hd : Ext Nothing w5 w5.drew := (Ext.refl _ _).drew
            refine zS (S := fun W' => Ext (BoB b r w5) w5 W') (by kernel_rfl) ?_
            have hS : Ext (BoB b r w5) w5 w5.drew := hd.mono (fun _ _ e => e.elim)
            generalize w5.drew = Wd at hd hS ⊢
            refine zT 0 (.pointer (some ⟨b, 0, none⟩)) rfl (by kernel_rfl) (by rfl) hS (fun _ _ _ h => h) (fun W' hS' => by go_simp) ?_
            refine zT 1 (.pointer (some ⟨V, 1, none⟩)) rfl (by kernel_rfl) (by rfl) hS (fun _ _ _ h => h) (fun W' hS' => by go_simp) ?_
            refine zT 2 (strV s) rfl (by kernel_rfl) (by rfl) hS (fun _ _ _ h => h) (fun W' hS' => by have q9 := hS'.cell g1 (fun e => hVn e); go_simp) ?_
            refine zT 3 (.pointer (some ⟨V, 2, none⟩)) rfl (by kernel_rfl) (by rfl) hS (fun _ _ _ h => h) (fun W' hS' => by go_simp) ?_
            refine zT 4 (strV tt) rfl (by kernel_rfl) (by rfl) hS (fun _ _ _ h => h) (fun W' hS' => by have q9 := hS'.cell g2 (fun e => hVn e); go_simp) ?_
            refine zT 6 (.pointer (some ⟨r, 0, none⟩)) rfl (by kernel_rfl) (by rfl) hS (fun _ _ _ h => h) (fun W' hS' => by go_simp) ?_
            refine zT 7 (.pointer (some ⟨V, 1, none⟩)) rfl (by kernel_rfl) (by rfl) hS (fun _ _ _ h => h) (fun W' hS' => by go_simp) ?_
            refine zT 8 (strV s) rfl (by kernel_rfl) (by rfl) hS (fun _ _ _ h => h) (fun W' hS' => by have q9 := hS'.cell g1 (fun e => hVn e); go_simp) ?_
            refine zT 9 (.pointer (some ⟨V, 2, none⟩)) rfl (by kernel_rfl) (by rfl) hS (fun _ _ _ h => h) (fun W' hS' => by go_simp) ?_
            refine zT 10 (strV tt) rfl (by kernel_rfl) (by rfl) hS (fun _ _ _ h => h) (fun W' hS' => by have q9 := hS'.cell g2 (fun e => hVn e); go_simp) ?_
            (try simp only [Act.put, zA, zB, zC, zD, zE, zF])
            refine zO 5 (by kernel_rfl) ?_
            have hcall := dkRename s tt Wd (hO5.disk.keep0 hd) hg hdn (hrd w5 hK5).n1 (hrd w5 hK5).n2
            refine wpOp_call rfl (by rfl) ?_ (hcall.mono ?_)
            · go_simp
            rintro e w6 ⟨rfl, h6, hx6⟩
            have hS6 := BoB.trans hS (BoB.od hx6)
            have hRf := (hO5.ref.keep0 hd).offd hx6
            have hr6 := hrd w6 (BoB.trans hK5 hS6)
            clear hcall
            refine ⟨_, rfl, hS6, ?_⟩
            (try simp only [Act.put, zA, zB, zC, zD, zE, zF])
            refine zO 11 (by kernel_rfl) ?_
            have hcall := rRename s tt w6 hRf hgf hR hfn hr6.n1 hr6.n2
            refine wpOp_call rfl (by rfl) ?_ (hcall.mono ?_)
            · go_simp
            rintro e w8 ⟨rfl, h8, hx8⟩
            have hK8 := BoB.trans hS6 (BoB.orr hx8)
            clear hcall
            have hO8 : Both w8 (fun q => q < w.heap.size ∨ w5.heap.size ≤ q) b r (d.rename s tt).1 (f.rename s tt).1 := ⟨(h6.offr hx8).mono (fun q hq e => by have h9 := hd.size; rcases e with e | e; exact .inl e; exact .inr (by omega)), h8.mono (fun q hq e => by have h9 := hd.size; have h10 := hx6.size; rcases e with e | e; exact .inl e; exact .inr (by omega)), Dk.good_move hg (.inr ⟨rfl, rfl⟩) rfl, Dk.good_move hgf (.inr ⟨rfl, rfl⟩) rfl, Dk.ren_move hR _ _⟩
            refine ⟨_, rfl, hK8, ?_⟩
            (try simp only [Act.put, zA, zB, zC, zD, zE, zF])
            refine zO 12 (by kernel_rfl) ?_
            refine wpOp_val (v := .bool ((d.rename s tt).2 == (f.rename s tt).2)) rfl (by rfl) (by go_simp) ⟨hK8, ?_⟩
            (try simp only [Act.put, zA, zB, zC, zD, zE, zF])
            refine zO 13 (by kernel_rfl) ?_
            refine wpOp_val (v := .bool ((d.rename s tt).2 == (f.rename s tt).2)) rfl (by rfl) (by go_simp) ⟨hK8, wpAnyH_done (by kernel_rfl) ?_ _⟩
            (try simp only [Act.put, zA, zB, zC, zD, zE, zF])
            generalize hvb : ((d.rename s tt).2 == (f.rename s tt).2) = vb
            have HV1 := Lib.hid (show d = f → vb = true from fun e => by rw [← hvb, e]; simp)
            clear hvb
            clear hd hS hS6 hRf hr6 h6 h8 hx6 hx8
            go_upto_region 28 with (first | go_skip | go_guarded)
            have hown8 := own_ext hown5 hK8 (fun g hg e => by obtain ⟨cs9, h9⟩ := own_blk hown5 hg; exact BoB.ty h9 (by decide) (by decide) (by decide) (by decide) e)
            have HOL := Lib.hid (fun g (hg : (Value.slice A5 m c5).ownBlock = some g) => And.intro (hown5.lt g hg).1 (own_lt hown5 hg))
            have hL0 : 0 < m → ∃ g o cs, A5 = some ⟨g, o, none⟩ ∧ Blk w8 g 5 cs ∧ o + m ≤ cs.size := fun hm0 => by rcases hown8.2 with ⟨_, e⟩ | ⟨g, cap, cur, hv, _, hg9, hnc, _, hcz, _⟩; omega; injection hv with e1 _ _; exact ⟨g, 0, cur, e1, hg9, by omega⟩
            clear hown8 hs5 hO5 hB5 hVn g0 g1 g2 g3 g4
            obtain ⟨wz, hwz⟩ : ∃ z : World, z = w8 := ⟨_, rfl⟩
            have HB9 := Lib.hid hO8
            have HK9 := Lib.hid hK8
            rw [← hwz] at hL0 HB9 HK9 ⊢
            have HL9 := Lib.hid hL0
            clear hwz hO8 hK8
            go_upto_region 29 with (first | go_skip | go_guarded)
            go_loopw [14] (fun ki wr => ∃ t : Nat, t ≤ m ∧ ki = .int .i64 t ∧ (0 < m → ∃ g o cs, A5 = some ⟨g, o, none⟩ ∧ Blk wr g 5 cs ∧ o + m ≤ cs.size) ∧ Ext (fun q => 0 < m ∧ A5.map (·.block) = some q) wz wr) (fun ki _ => m - (intOf ki).toNat)
            case atStart => exact ⟨0, Nat.zero_le _, rfl, hL0, Ext.refl _ _⟩
            case round =>
              obtain ⟨t, ht, rfl, hL, hxl⟩ := hrel
              by_cases hlt : t < m
              · obtain ⟨g, o, cs, hAv, hBg, hsz⟩ := hL (by omega)
                have HAV := Lib.hid hAv
                have k9 : wr.cell? ⟨g, o + t, none⟩ = some (cs[o + t]'(by omega)) := by rw [hBg.cell, Array.getElem?_eq_getElem]
                have f9 : wr.frozen? ⟨g, o + t, none⟩ = false := hBg.frozen _
                generalize cs[o + t] = u9 at k9
                have hk0 : (0 : Int) ≤ (t : Int) := by omega
                have hk1 : (t : Int) < m := by omega
                have HT := Lib.hid hlt
                have hB9 : Blk (wr.setCell ⟨g, o + t, none⟩ (.int .u8 98)) g 5 (cs.setIfInBounds (o + t) (.int .u8 98)) := hBg.set_ (o + t) (.int .u8 98)
                have hxs : Ext (fun q => 0 < m ∧ A5.map (·.block) = some q) wr (wr.setCell ⟨g, o + t, none⟩ (.int .u8 98)) := (Ext.set1 wr g (o + t) (.int .u8 98)).mono (fun q hq e => ⟨by omega, by rw [HAV.out, show q = g from e]; rfl⟩)
                clear hlt hL hBg
                rw [hAv]
                clear hAv
                go_wp2_with (first | go_skip | go_guarded)
                rw [← HAV.out]
                go_roundw
                case rel => exact ⟨t + 1, HT.out, by go_num, fun _ => ⟨g, o, _, HAV.out, hB9, by rw [Array.size_setIfInBounds]; exact hsz⟩, hxl.tr hxs⟩
                case measure => have := HT.out; simp [intOf]; omega
              · have hnl : ¬ ((t : Int) < m) := by omega
                have hKK : Ext (BoB b r w) w wz := BoB.trans hK5 HK9.out
                have hfin : Ext (BoB b r w) w wr := hKK.trans hxl (fun q hq e => by obtain ⟨g, o, cs, e1, _, _⟩ := HL9.out e.1; have e2 := e.2; rw [e1] at e2; injection e2 with e2; have h1 := (HOL.out g (by rw [e1]; rfl)).1; have e2 : g = q := e2; omega)
                have hbo : ∀ d9 f9, Both wz (fun q => q < w.heap.size ∨ w5.heap.size ≤ q) b r d9 f9 → Both wr (fun q => q < w.heap.size ∨ w5.heap.size ≤ q) b r d9 f9 := fun d9 f9 hb9 => by
                  by_cases hm0 : 0 < m
                  · obtain ⟨g, o, cs, e1, hBg, _⟩ := HL9.out hm0
                    have hol := HOL.out g (by rw [e1]; rfl)
                    exact hb9.bytes hBg (fun e => by rcases e with e | e <;> omega) (hxl.mono (fun q hq e => by have e2 := e.2; rw [e1] at e2; injection e2 with e2; exact e2.symm))
                  · exact hb9.keep0 (hxl.mono (fun q hq e => hm0 e.1))
                go_wp2_with (first | go_skip | go_guarded)
                go_ret
                exact ⟨_, rfl, ⟨_, rfl, fun e => by first | rfl | exact HV1.out e⟩, (hbo _ _ HB9.out).top, hfin⟩
          | false =>
            cases hk5 : (kd == 5) with
            | true =>
              obtain rfl : kd = 5 := by simpa using hk5
              go_upto_region 28 with (first | go_skip | go_guarded | (go_at_call 20; (with_reducible refine (dkSync w5 hO5.disk).mono ?_); rintro e w6 ⟨rfl, h6, hx6⟩) | (go_at_call 30; (with_reducible refine (rSync w6 (hO5.ref.offd hx6) hgf hR hfn).mono ?_); rintro e w8 ⟨rfl, h8, hx8⟩))
              have hK8 := BoB.trans (BoB.od hx6) (BoB.orr hx8)
              have hO8 : Both w8 (fun q => q < w.heap.size ∨ w5.heap.size ≤ q) b r d.sync.1 f.sync.1 := ⟨(h6.offr hx8).mono (fun q hq e => .inl e), h8.mono (fun q hq e => by have h10 := hx6.size; rcases e with e | e; exact .inl e; exact .inr (by omega)), Dk.good_sync hg, Dk.good_sync hgf, Dk.ren_sync hR⟩
              clear h6 h8 hx6 hx8
              generalize hvb : (d.sync.2 == f.sync.2) = vb
              have HV1 := Lib.hid (show d = f → vb = true from fun e => by rw [← hvb, e]; simp)
              clear hvb
              have hown8 := own_ext hown5 hK8 (fun g hg e => by obtain ⟨cs9, h9⟩ := own_blk hown5 hg; exact BoB.ty h9 (by decide) (by decide) (by decide) (by decide) e)
              have HOL := Lib.hid (fun g (hg : (Value.slice A5 m c5).ownBlock = some g) => And.intro (hown5.lt g hg).1 (own_lt hown5 hg))
              have hL0 : 0 < m → ∃ g o cs, A5 = some ⟨g, o, none⟩ ∧ Blk w8 g 5 cs ∧ o + m ≤ cs.size := fun hm0 => by rcases hown8.2 with ⟨_, e⟩ | ⟨g, cap, cur, hv, _, hg9, hnc, _, hcz, _⟩; omega; injection hv with e1 _ _; exact ⟨g, 0, cur, e1, hg9, by omega⟩
              clear hown8 hs5 hO5 hB5 hVn g0 g1 g2 g3 g4
              obtain ⟨wz, hwz⟩ : ∃ z : World, z = w8 := ⟨_, rfl⟩
              have HB9 := Lib.hid hO8
              have HK9 := Lib.hid hK8
              rw [← hwz] at hL0 HB9 HK9 ⊢
              have HL9 := Lib.hid hL0
              clear hwz hO8 hK8
              go_upto_region 29 with (first | go_skip | go_guarded)
              go_loopw [14] (fun ki wr => ∃ t : Nat, t ≤ m ∧ ki = .int .i64 t ∧ (0 < m → ∃ g o cs, A5 = some ⟨g, o, none⟩ ∧ Blk wr g 5 cs ∧ o + m ≤ cs.size) ∧ Ext (fun q => 0 < m ∧ A5.map (·.block) = some q) wz wr) (fun ki _ => m - (intOf ki).toNat)
              case atStart => exact ⟨0, Nat.zero_le _, rfl, hL0, Ext.refl _ _⟩
              case round =>
                obtain ⟨t, ht, rfl, hL, hxl⟩ := hrel
                by_cases hlt : t < m
                · obtain ⟨g, o, cs, hAv, hBg, hsz⟩ := hL (by omega)
                  have HAV := Lib.hid hAv
                  have k9 : wr.cell? ⟨g, o + t, none⟩ = some (cs[o + t]'(by omega)) := by rw [hBg.cell, Array.getElem?_eq_getElem]
                  have f9 : wr.frozen? ⟨g, o + t, none⟩ = false := hBg.frozen _
                  generalize cs[o + t] = u9 at k9
                  have hk0 : (0 : Int) ≤ (t : Int) := by omega
                  have hk1 : (t : Int) < m := by omega
                  have HT := Lib.hid hlt
                  have hB9 : Blk (wr.setCell ⟨g, o + t, none⟩ (.int .u8 98)) g 5 (cs.setIfInBounds (o + t) (.int .u8 98)) := hBg.set_ (o + t) (.int .u8 98)
                  have hxs : Ext (fun q => 0 < m ∧ A5.map (·.block) = some q) wr (wr.setCell ⟨g, o + t, none⟩ (.int .u8 98)) := (Ext.set1 wr g (o + t) (.int .u8 98)).mono (fun q hq e => ⟨by omega, by rw [HAV.out, show q = g from e]; rfl⟩)
                  clear hlt hL hBg
                  rw [hAv]
                  clear hAv
                  go_wp2_with (first | go_skip | go_guarded)
                  rw [← HAV.out]
                  go_roundw
                  case rel => exact ⟨t + 1, HT.out, by go_num, fun _ => ⟨g, o, _, HAV.out, hB9, by rw [Array.size_setIfInBounds]; exact hsz⟩, hxl.tr hxs⟩
                  case measure => have := HT.out; simp [intOf]; omega
                · have hnl : ¬ ((t : Int) < m) := by omega
                  have hKK : Ext (BoB b r w) w wz := BoB.trans hK5 HK9.out
                  have hfin : Ext (BoB b r w) w wr := hKK.trans hxl (fun q hq e => by obtain ⟨g, o, cs, e1, _, _⟩ := HL9.out e.1; have e2 := e.2; rw [e1] at e2; injection e2 with e2; have h1 := (HOL.out g (by rw [e1]; rfl)).1; have e2 : g = q := e2; omega)
                  have hbo : ∀ d9 f9, Both wz (fun q => q < w.heap.size ∨ w5.heap.size ≤ q) b r d9 f9 → Both wr (fun q => q < w.heap.size ∨ w5.heap.size ≤ q) b r d9 f9 := fun d9 f9 hb9 => by
                    by_cases hm0 : 0 < m
                    · obtain ⟨g, o, cs, e1, hBg, _⟩ := HL9.out hm0
                      have hol := HOL.out g (by rw [e1]; rfl)
                      exact hb9.bytes hBg (fun e => by rcases e with e | e <;> omega) (hxl.mono (fun q hq e => by have e2 := e.2; rw [e1] at e2; injection e2 with e2; exact e2.symm))
                    · exact hb9.keep0 (hxl.mono (fun q hq e => hm0 e.1))
                  go_wp2_with (first | go_skip | go_guarded)
                  go_ret
                  exact ⟨_, rfl, ⟨_, rfl, fun e => by first | rfl | exact HV1.out e⟩, (hbo _ _ HB9.out).top, hfin⟩
            | false =>
              cases hk6 : (kd == 6) with
              | true =>
                obtain rfl : kd = 6 := by simpa using hk6
                go_upto_region 24 with (first | go_skip | go_guarded)
                have hd : Ext Nothing w5 w5.drew := (Ext.refl _ _).drew
                refine zS (S := fun W' => Ext (BoB b r w5) w5 W') (by kernel_rfl) ?_
                have hS : Ext (BoB b r w5) w5 w5.drew := hd.mono (fun _ _ e => e.elim)
                generalize w5.drew = Wd at hd hS ⊢
                refine zT 0 (.pointer (some ⟨b, 0, none⟩)) rfl (by kernel_rfl) (by rfl) hS (fun _ _ _ h => h) (fun W' hS' => by go_simp) ?_
                refine zT 1 (.pointer (some ⟨V, 4, none⟩)) rfl (by kernel_rfl) (by rfl) hS (fun _ _ _ h => h) (fun W' hS' => by go_simp) ?_
                refine zT 2 (.int .i64 nn) rfl (by kernel_rfl) (by rfl) hS (fun _ _ _ h => h) (fun W' hS' => by have q9 := hS'.cell g4 (fun e => hVn e); go_simp) ?_
                refine zT 4 (.pointer (some ⟨r, 0, none⟩)) rfl (by kernel_rfl) (by rfl) hS (fun _ _ _ h => h) (fun W' hS' => by go_simp) ?_
                refine zT 5 (.pointer (some ⟨V, 4, none⟩)) rfl (by kernel_rfl) (by rfl) hS (fun _ _ _ h => h) (fun W' hS' => by go_simp) ?_
                refine zT 6 (.int .i64 nn) rfl (by kernel_rfl) (by rfl) hS (fun _ _ _ h => h) (fun W' hS' => by have q9 := hS'.cell g4 (fun e => hVn e); go_simp) ?_
                (try simp only [Act.put, zA, zB, zC, zD, zE, zF])
                refine zO 3 (by kernel_rfl) ?_
                have hcall := dkCut nn Wd (hO5.disk.keep0 hd)
                refine wpOp_call rfl (by rfl) ?_ (hcall.mono ?_)
                · go_simp
                rintro e w6 ⟨rfl, h6, hx6⟩
                have hS6 := BoB.trans hS (BoB.od hx6)
                have hRf := (hO5.ref.keep0 hd).offd hx6
                have hr6 := hrd w6 (BoB.trans hK5 hS6)
                clear hcall
                refine ⟨_, rfl, hS6, ?_⟩
                (try simp only [Act.put, zA, zB, zC, zD, zE, zF])
                refine zO 7 (by kernel_rfl) ?_
                have hcall := rCut nn w6 hRf
                refine wpOp_call rfl (by rfl) ?_ (hcall.mono ?_)
                · go_simp
                rintro e w8 ⟨rfl, h8, hx8⟩
                have hK8 := BoB.trans hS6 (BoB.orr hx8)
                clear hcall
                have hO8 : Both w8 (fun q => q < w.heap.size ∨ w5.heap.size ≤ q) b r (d.cutAt nn).1 (f.cutAt nn).1 := ⟨(h6.offr hx8).mono (fun q hq e => .inl e), h8.mono (fun q hq e => .inl e), Dk.good_cut hg nn, Dk.good_cut hgf nn, Dk.ren_cut hR nn⟩
                refine ⟨_, rfl, hK8, ?_⟩
                (try simp only [Act.put, zA, zB, zC, zD, zE, zF])
                refine zO 8 (by kernel_rfl) ?_
                refine wpOp_val (v := .bool ((d.cutAt nn).2 == (f.cutAt nn).2)) rfl (by rfl) (by go_simp) ⟨hK8, ?_⟩
                (try simp only [Act.put, zA, zB, zC, zD, zE, zF])
                refine zO 9 (by kernel_rfl) ?_
                refine wpOp_val (v := .bool ((d.cutAt nn).2 == (f.cutAt nn).2)) rfl (by rfl) (by go_simp) ⟨hK8, wpAnyH_done (by kernel_rfl) ?_ _⟩
                (try simp only [Act.put, zA, zB, zC, zD, zE, zF])
                generalize hvb : ((d.cutAt nn).2 == (f.cutAt nn).2) = vb
                have HV1 := Lib.hid (show d = f → vb = true from fun e => by rw [← hvb, e]; simp)
                clear hvb
                clear hd hS hS6 hRf hr6 h6 h8 hx6 hx8
                go_upto_region 28 with (first | go_skip | go_guarded)
                have hown8 := own_ext hown5 hK8 (fun g hg e => by obtain ⟨cs9, h9⟩ := own_blk hown5 hg; exact BoB.ty h9 (by decide) (by decide) (by decide) (by decide) e)
                have HOL := Lib.hid (fun g (hg : (Value.slice A5 m c5).ownBlock = some g) => And.intro (hown5.lt g hg).1 (own_lt hown5 hg))
                have hL0 : 0 < m → ∃ g o cs, A5 = some ⟨g, o, none⟩ ∧ Blk w8 g 5 cs ∧ o + m ≤ cs.size := fun hm0 => by rcases hown8.2 with ⟨_, e⟩ | ⟨g, cap, cur, hv, _, hg9, hnc, _, hcz, _⟩; omega; injection hv with e1 _ _; exact ⟨g, 0, cur, e1, hg9, by omega⟩
                clear hown8 hs5 hO5 hB5 hVn g0 g1 g2 g3 g4
                obtain ⟨wz, hwz⟩ : ∃ z : World, z = w8 := ⟨_, rfl⟩
                have HB9 := Lib.hid hO8
                have HK9 := Lib.hid hK8
                rw [← hwz] at hL0 HB9 HK9 ⊢
                have HL9 := Lib.hid hL0
                clear hwz hO8 hK8
                go_upto_region 29 with (first | go_skip | go_guarded)
                go_loopw [14] (fun ki wr => ∃ t : Nat, t ≤ m ∧ ki = .int .i64 t ∧ (0 < m → ∃ g o cs, A5 = some ⟨g, o, none⟩ ∧ Blk wr g 5 cs ∧ o + m ≤ cs.size) ∧ Ext (fun q => 0 < m ∧ A5.map (·.block) = some q) wz wr) (fun ki _ => m - (intOf ki).toNat)
                case atStart => exact ⟨0, Nat.zero_le _, rfl, hL0, Ext.refl _ _⟩
                case round =>
                  obtain ⟨t, ht, rfl, hL, hxl⟩ := hrel
                  by_cases hlt : t < m
                  · obtain ⟨g, o, cs, hAv, hBg, hsz⟩ := hL (by omega)
                    have HAV := Lib.hid hAv
                    have k9 : wr.cell? ⟨g, o + t, none⟩ = some (cs[o + t]'(by omega)) := by rw [hBg.cell, Array.getElem?_eq_getElem]
                    have f9 : wr.frozen? ⟨g, o + t, none⟩ = false := hBg.frozen _
                    generalize cs[o + t] = u9 at k9
                    have hk0 : (0 : Int) ≤ (t : Int) := by omega
                    have hk1 : (t : Int) < m := by omega
                    have HT := Lib.hid hlt
                    have hB9 : Blk (wr.setCell ⟨g, o + t, none⟩ (.int .u8 98)) g 5 (cs.setIfInBounds (o + t) (.int .u8 98)) := hBg.set_ (o + t) (.int .u8 98)
                    have hxs : Ext (fun q => 0 < m ∧ A5.map (·.block) = some q) wr (wr.setCell ⟨g, o + t, none⟩ (.int .u8 98)) := (Ext.set1 wr g (o + t) (.int .u8 98)).mono (fun q hq e => ⟨by omega, by rw [HAV.out, show q = g from e]; rfl⟩)
                    clear hlt hL hBg
                    rw [hAv]
                    clear hAv
                    go_wp2_with (first | go_skip | go_guarded)
                    rw [← HAV.out]
                    go_roundw
                    case rel => exact ⟨t + 1, HT.out, by go_num, fun _ => ⟨g, o, _, HAV.out, hB9, by rw [Array.size_setIfInBounds]; exact hsz⟩, hxl.tr hxs⟩
                    case measure => have := HT.out; simp [intOf]; omega
                  · have hnl : ¬ ((t : Int) < m) := by omega
                    have hKK : Ext (BoB b r w) w wz := BoB.trans hK5 HK9.out
                    have hfin : Ext (BoB b r w) w wr := hKK.trans hxl (fun q hq e => by obtain ⟨g, o, cs, e1, _, _⟩ := HL9.out e.1; have e2 := e.2; rw [e1] at e2; injection e2 with e2; have h1 := (HOL.out g (by rw [e1]; rfl)).1; have e2 : g = q := e2; omega)
                    have hbo : ∀ d9 f9, Both wz (fun q => q < w.heap.size ∨ w5.heap.size ≤ q) b r d9 f9 → Both wr (fun q => q < w.heap.size ∨ w5.heap.size ≤ q) b r d9 f9 := fun d9 f9 hb9 => by
                      by_cases hm0 : 0 < m
                      · obtain ⟨g, o, cs, e1, hBg, _⟩ := HL9.out hm0
                        have hol := HOL.out g (by rw [e1]; rfl)
                        exact hb9.bytes hBg (fun e => by rcases e with e | e <;> omega) (hxl.mono (fun q hq e => by have e2 := e.2; rw [e1] at e2; injection e2 with e2; exact e2.symm))
                      · exact hb9.keep0 (hxl.mono (fun q hq e => hm0 e.1))
                    go_wp2_with (first | go_skip | go_guarded)
                    go_ret
                    exact ⟨_, rfl, ⟨_, rfl, fun e => by first | rfl | exact HV1.out e⟩, (hbo _ _ HB9.out).top, hfin⟩
              | false =>
                cases hk7 : (kd == 7) with
                | true =>
                  obtain rfl : kd = 7 := by simpa using hk7
                  have hn64 := (hrd w5 hK5).n
                  go_upto_region 27 with (first | go_skip | go_guarded | (go_at_call 21; (with_reducible refine (dkCrash nn w5 hO5.disk hg hdn hn64).mono ?_); rintro e w6 ⟨rfl, h6, hx6⟩))
                  have g46 : w6.cell? ⟨V, 4, none⟩ = some (.int .i64 nn) := hx6.cell g4 (fun e => hVn (.inl e))
                  go_upto_region 28 with (first | go_skip | go_guarded | (go_at_call 32; (with_reducible refine (rCrash nn w6 (hO5.ref.offd hx6) hgf hR hfn hn64).mono ?_); rintro e w8 ⟨rfl, h8, hx8⟩))
                  have hK8 := BoB.trans (BoB.od hx6) (BoB.orr hx8)
                  have hO8 : Both w8 (fun q => q < w.heap.size ∨ w5.heap.size ≤ q) b r (d.crash nn) (f.crash nn) := ⟨(h6.offr hx8).mono (fun q hq e => by rcases e with e | e; exact .inl e; exact .inr (by omega)), h8.mono (fun q hq e => by have h10 := hx6.size; rcases e with e | e; exact .inl e; exact .inr (by omega)), Dk.good_crash hg nn, Dk.good_crash hgf nn, Dk.ren_crash f nn⟩
                  clear h6 h8 hx6 hx8 g46
                  have HV1 := Lib.hid (show d = f → true = true from fun _ => rfl)
                  have hown8 := own_ext hown5 hK8 (fun g hg e => by obtain ⟨cs9, h9⟩ := own_blk hown5 hg; exact BoB.ty h9 (by decide) (by decide) (by decide) (by decide) e)
                  have HOL := Lib.hid (fun g (hg : (Value.slice A5 m c5).ownBlock = some g) => And.intro (hown5.lt g hg).1 (own_lt hown5 hg))
                  have hL0 : 0 < m → ∃ g o cs, A5 = some ⟨g, o, none⟩ ∧ Blk w8 g 5 cs ∧ o + m ≤ cs.size := fun hm0 => by rcases hown8.2 with ⟨_, e⟩ | ⟨g, cap, cur, hv, _, hg9, hnc, _, hcz, _⟩; omega; injection hv with e1 _ _; exact ⟨g, 0, cur, e1, hg9, by omega⟩
                  clear hown8 hs5 hO5 hB5 hVn g0 g1 g2 g3 g4
                  obtain ⟨wz, hwz⟩ : ∃ z : World, z = w8 := ⟨_, rfl⟩
                  have HB9 := Lib.hid hO8
                  have HK9 := Lib.hid hK8
                  rw [← hwz] at hL0 HB9 HK9 ⊢
                  have HL9 := Lib.hid hL0
                  clear hwz hO8 hK8
                  go_upto_region 29 with (first | go_skip | go_guarded)
                  go_loopw [14] (fun ki wr => ∃ t : Nat, t ≤ m ∧ ki = .int .i64 t ∧ (0 < m → ∃ g o cs, A5 = some ⟨g, o, none⟩ ∧ Blk wr g 5 cs ∧ o + m ≤ cs.size) ∧ Ext (fun q => 0 < m ∧ A5.map (·.block) = some q) wz wr) (fun ki _ => m - (intOf ki).toNat)
                  case atStart => exact ⟨0, Nat.zero_le _, rfl, hL0, Ext.refl _ _⟩
                  case round =>
                    obtain ⟨t, ht, rfl, hL, hxl⟩ := hrel
                    by_cases hlt : t < m
                    · obtain ⟨g, o, cs, hAv, hBg, hsz⟩ := hL (by omega)
                      have HAV := Lib.hid hAv
                      have k9 : wr.cell? ⟨g, o + t, none⟩ = some (cs[o + t]'(by omega)) := by rw [hBg.cell, Array.getElem?_eq_getElem]
                      have f9 : wr.frozen? ⟨g, o + t, none⟩ = false := hBg.frozen _
                      generalize cs[o + t] = u9 at k9
                      have hk0 : (0 : Int) ≤ (t : Int) := by omega
                      have hk1 : (t : Int) < m := by omega
                      have HT := Lib.hid hlt
                      have hB9 : Blk (wr.setCell ⟨g, o + t, none⟩ (.int .u8 98)) g 5 (cs.setIfInBounds (o + t) (.int .u8 98)) := hBg.set_ (o + t) (.int .u8 98)
                      have hxs : Ext (fun q => 0 < m ∧ A5.map (·.block) = some q) wr (wr.setCell ⟨g, o + t, none⟩ (.int .u8 98)) := (Ext.set1 wr g (o + t) (.int .u8 98)).mono (fun q hq e => ⟨by omega, by rw [HAV.out, show q = g from e]; rfl⟩)
                      clear hlt hL hBg
                      rw [hAv]
                      clear hAv
                      go_wp2_with (first | go_skip | go_guarded)
                      rw [← HAV.out]
                      go_roundw
                      case rel => exact ⟨t + 1, HT.out, by go_num, fun _ => ⟨g, o, _, HAV.out, hB9, by rw [Array.size_setIfInBounds]; exact hsz⟩, hxl.tr hxs⟩
                      case measure => have := HT.out; simp [intOf]; omega
                    · have hnl : ¬ ((t : Int) < m) := by omega
                      have hKK : Ext (BoB b r w) w wz := BoB.trans hK5 HK9.out
                      have hfin : Ext (BoB b r w) w wr := hKK.trans hxl (fun q hq e => by obtain ⟨g, o, cs, e1, _, _⟩ := HL9.out e.1; have e2 := e.2; rw [e1] at e2; injection e2 with e2; have h1 := (HOL.out g (by rw [e1]; rfl)).1; have e2 : g = q := e2; omega)
                      have hbo : ∀ d9 f9, Both wz (fun q => q < w.heap.size ∨ w5.heap.size ≤ q) b r d9 f9 → Both wr (fun q => q < w.heap.size ∨ w5.heap.size ≤ q) b r d9 f9 := fun d9 f9 hb9 => by
                        by_cases hm0 : 0 < m
                        · obtain ⟨g, o, cs, e1, hBg, _⟩ := HL9.out hm0
                          have hol := HOL.out g (by rw [e1]; rfl)
                          exact hb9.bytes hBg (fun e => by rcases e with e | e <;> omega) (hxl.mono (fun q hq e => by have e2 := e.2; rw [e1] at e2; injection e2 with e2; exact e2.symm))
                        · exact hb9.keep0 (hxl.mono (fun q hq e => hm0 e.1))
                      go_wp2_with (first | go_skip | go_guarded)
                      go_ret
                      exact ⟨_, rfl, ⟨_, rfl, fun e => by first | rfl | exact HV1.out e⟩, (hbo _ _ HB9.out).top, hfin⟩
                | false =>
                  have HNS := Lib.hid (show ∀ d, OpC.step ⟨kd, s, tt, data, nn, A, m, c⟩ d = d by intro d; unfold OpC.step Dk.step; simp only; rw [if_neg (by simpa using hk0), if_neg (by simpa using hk1), if_neg (by simpa using hk3), if_neg (by simpa using hk4), if_neg (by simpa using hk5), if_neg (by simpa using hk6), if_neg (by simpa using hk7)])
                  go_upto_region 28 with (first | go_skip | go_guarded)
                  obtain ⟨w8, hw8⟩ : ∃ z : World, z = w5 := ⟨_, rfl⟩
                  have hK8 : Ext (BoB b r w5) w5 w8 := by rw [hw8]; exact Ext.refl _ _
                  have hO8 : Both w8 (fun q => q < w.heap.size ∨ w5.heap.size ≤ q) b r (OpC.step ⟨kd, s, tt, data, nn, A, m, c⟩ d) (OpC.step ⟨kd, s, tt, data, nn, A, m, c⟩ f) := by rw [HNS.out, HNS.out, hw8]; exact hO5.mono (fun q hq e => .inl e)
                  rw [← hw8]
                  clear hw8
                  have HV1 := Lib.hid (show d = f → true = true from fun _ => rfl)
                  have hown8 := own_ext hown5 hK8 (fun g hg e => by obtain ⟨cs9, h9⟩ := own_blk hown5 hg; exact BoB.ty h9 (by decide) (by decide) (by decide) (by decide) e)
                  have HOL := Lib.hid (fun g (hg : (Value.slice A5 m c5).ownBlock = some g) => And.intro (hown5.lt g hg).1 (own_lt hown5 hg))
                  have hL0 : 0 < m → ∃ g o cs, A5 = some ⟨g, o, none⟩ ∧ Blk w8 g 5 cs ∧ o + m ≤ cs.size := fun hm0 => by rcases hown8.2 with ⟨_, e⟩ | ⟨g, cap, cur, hv, _, hg9, hnc, _, hcz, _⟩; omega; injection hv with e1 _ _; exact ⟨g, 0, cur, e1, hg9, by omega⟩
                  clear hown8 hs5 hO5 hB5 hVn g0 g1 g2 g3 g4
                  obtain ⟨wz, hwz⟩ : ∃ z : World, z = w8 := ⟨_, rfl⟩
                  have HB9 := Lib.hid hO8
                  have HK9 := Lib.hid hK8
                  rw [← hwz] at hL0 HB9 HK9 ⊢
                  have HL9 := Lib.hid hL0
                  clear hwz hO8 hK8
                  go_upto_region 29 with (first | go_skip | go_guarded)
                  go_loopw [14] (fun ki wr => ∃ t : Nat, t ≤ m ∧ ki = .int .i64 t ∧ (0 < m → ∃ g o cs, A5 = some ⟨g, o, none⟩ ∧ Blk wr g 5 cs ∧ o + m ≤ cs.size) ∧ Ext (fun q => 0 < m ∧ A5.map (·.block) = some q) wz wr) (fun ki _ => m - (intOf ki).toNat)
                  case atStart => exact ⟨0, Nat.zero_le _, rfl, hL0, Ext.refl _ _⟩
                  case round =>
                    obtain ⟨t, ht, rfl, hL, hxl⟩ := hrel
                    by_cases hlt : t < m
                    · obtain ⟨g, o, cs, hAv, hBg, hsz⟩ := hL (by omega)
                      have HAV := Lib.hid hAv
                      have k9 : wr.cell? ⟨g, o + t, none⟩ = some (cs[o + t]'(by omega)) := by rw [hBg.cell, Array.getElem?_eq_getElem]
                      have f9 : wr.frozen? ⟨g, o + t, none⟩ = false := hBg.frozen _
                      generalize cs[o + t] = u9 at k9
                      have hk0 : (0 : Int) ≤ (t : Int) := by omega
                      have hk1 : (t : Int) < m := by omega
                      have HT := Lib.hid hlt
                      have hB9 : Blk (wr.setCell ⟨g, o + t, none⟩ (.int .u8 98)) g 5 (cs.setIfInBounds (o + t) (.int .u8 98)) := hBg.set_ (o + t) (.int .u8 98)
                      have hxs : Ext (fun q => 0 < m ∧ A5.map (·.block) = some q) wr (wr.setCell ⟨g, o + t, none⟩ (.int .u8 98)) := (Ext.set1 wr g (o + t) (.int .u8 98)).mono (fun q hq e => ⟨by omega, by rw [HAV.out, show q = g from e]; rfl⟩)
                      clear hlt hL hBg
                      rw [hAv]
                      clear hAv
                      go_wp2_with (first | go_skip | go_guarded)
                      rw [← HAV.out]
                      go_roundw
                      case rel => exact ⟨t + 1, HT.out, by go_num, fun _ => ⟨g, o, _, HAV.out, hB9, by rw [Array.size_setIfInBounds]; exact hsz⟩, hxl.tr hxs⟩
                      case measure => have := HT.out; simp [intOf]; omega
                    · have hnl : ¬ ((t : Int) < m) := by omega
                      have hKK : Ext (BoB b r w) w wz := BoB.trans hK5 HK9.out
                      have hfin : Ext (BoB b r w) w wr := hKK.trans hxl (fun q hq e => by obtain ⟨g, o, cs, e1, _, _⟩ := HL9.out e.1; have e2 := e.2; rw [e1] at e2; injection e2 with e2; have h1 := (HOL.out g (by rw [e1]; rfl)).1; have e2 : g = q := e2; omega)
                      have hbo : ∀ d9 f9, Both wz (fun q => q < w.heap.size ∨ w5.heap.size ≤ q) b r d9 f9 → Both wr (fun q => q < w.heap.size ∨ w5.heap.size ≤ q) b r d9 f9 := fun d9 f9 hb9 => by
                        by_cases hm0 : 0 < m
                        · obtain ⟨g, o, cs, e1, hBg, _⟩ := HL9.out hm0
                          have hol := HOL.out g (by rw [e1]; rfl)
                          exact hb9.bytes hBg (fun e => by rcases e with e | e <;> omega) (hxl.mono (fun q hq e => by have e2 := e.2; rw [e1] at e2; injection e2 with e2; exact e2.symm))
                        · exact hb9.keep0 (hxl.mono (fun q hq e => hm0 e.1))
                      go_wp2_with (first | go_skip | go_guarded)
                      go_ret
                      exact ⟨_, rfl, ⟨_, rfl, fun e => by first | rfl | exact HV1.out e⟩, (hbo _ _ HB9.out).top, hfin⟩
end Go.Proofs.YtlfpfhdagkkliaaDoor
