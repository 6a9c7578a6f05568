/- DiskCuts: a disk that is cut does just so many operations more. (printed by wip/gen/dkcuts.py) -/
import Derived.Test.YtlfpfhdagkkliaaDoorDk19
import Derived.Test.YtlfpfhdagkkliaaDoorDkL
namespace Go.Proofs.YtlfpfhdagkkliaaDoor
set_option linter.unusedVariables false
open Go.RowKit

/-- a step of a law's script, and where its bytes lie -/
structure OpC where
  kind : Int
  name : Dk.Str
  to_ : Dk.Str
  data : List UInt8
  n : Int
  A : Option Addr
  m : Nat
  c : Nat
def OpC.cells (x : OpC) : List Value := [.int .i64 x.kind, strV x.name, strV x.to_, .slice x.A x.m x.c, .int .i64 x.n]
structure OpC.Read (w : World) (x : OpC) : Prop where
  k : In64 x.kind
  n1 : x.name.length ≤ maxLen
  n2 : x.to_.length ≤ maxLen
  d : Sl w 1 x.A x.m (x.data.map bCell)
  m : x.m ≤ 33554432
  n : In64 x.n
theorem OpC.Read.e0 {w w' : World} {x : OpC} (h : x.Read w) (hx : Ext Nothing w w') : x.Read w' := ⟨h.k, h.n1, h.n2, h.d.ext0 hx, h.m, h.n⟩
namespace Dk
/-- a step of DiskCuts -/
def cutStep (d : DiskD) (k : Int) (s t : Str) (data : List UInt8) : DiskD × Int :=
  if k = 0 then d.write 0 s data else if k = 1 ∨ k = 2 then d.write 1 s data else if k = 3 then d.remove s else if k = 4 then d.rename s t else d.sync
structure CutOk (d : DiskD) (r : DiskD × Int) : Prop where
  ok : r.2 = 0 → r.1.left = d.left - 1 ∧ 0 < d.left
  no : r.2 ≠ 0 → r.1 = d
  cut : r.2 = 11 → d.left = 0
  zero : d.left = 0 → r.2 = 1 ∨ r.2 = 11
  done : r.1.done.length ≤ d.done.length + 1
theorem counted_left {d : DiskD} (h : 0 < d.left) : d.counted.left = d.left - 1 := by unfold DiskD.counted; rw [if_pos h]
theorem counted_done (d : DiskD) : d.counted.done = d.done := by unfold DiskD.counted; split <;> rfl
theorem did_ok {d : DiskD} (h : 0 ≤ d.left) (h0 : d.left ≠ 0) (x : DidD) : CutOk d (d.did x, 0) := by
  have hp : 0 < d.left := by omega
  refine ⟨fun _ => ⟨?_, hp⟩, fun e => absurd rfl e, fun e => by simp at e, fun e => absurd e h0, ?_⟩
  · show (DiskD.counted _).left = _
    exact counted_left (d := { d with done := d.done ++ [x] }) hp
  · show (DiskD.counted _).done.length ≤ _
    rw [counted_done]
    simp
theorem no_ok {d : DiskD} {c : Int} (h0 : c ≠ 0) (h11 : c = 11 → d.left = 0) (hz : d.left = 0 → c = 1 ∨ c = 11) : CutOk d (d, c) :=
  ⟨fun e => absurd e h0, fun _ => rfl, h11, hz, by simp⟩
theorem write_cut {d : DiskD} (h : 0 ≤ d.left) (k : Nat) (s : Str) (data : List UInt8) : CutOk d (d.write k s data) := by
  unfold DiskD.write
  split
  · exact no_ok (by omega) (by omega) (by omega)
  · split
    · exact no_ok (by omega) (by omega) (by omega)
    · split
      · exact no_ok (by omega) (by omega) (by omega)
      · exact did_ok h (by assumption) _
theorem move_cut {d : DiskD} (h : 0 ≤ d.left) (x : DidD) (b : Str) : CutOk d (d.move x b) := by
  unfold DiskD.move
  split
  · exact no_ok (by omega) (by omega) (by omega)
  · split
    · exact no_ok (by omega) (by omega) (by omega)
    · split
      · exact no_ok (by omega) (by omega) (by omega)
      · exact did_ok h (by assumption) _
theorem sync_cut {d : DiskD} (h : 0 ≤ d.left) : CutOk d d.sync := by
  unfold DiskD.sync
  split
  · exact no_ok (by omega) (by omega) (by omega)
  · rename_i h0
    have hp : 0 < d.left := by omega
    refine ⟨fun _ => ⟨?_, hp⟩, fun e => absurd rfl e, fun e => by simp at e, fun e => absurd e h0, ?_⟩
    · show (DiskD.counted _).left = _
      exact counted_left (d := { d with dur := d.files, done := [] }) hp
    · show (DiskD.counted _).done.length ≤ _
      rw [counted_done]
      simp
end Dk
theorem STOp : StructT Tryd.prog 31 5 := .of (by kernel_rfl)
set_option maxRecDepth 20000 in
set_option maxHeartbeats 16000000 in
theorem cuts_law (n : Int) (hn : In64 n) (B : Option Addr) (q cq : Nat) (xs : List OpC) (w : World) (hsl : Sl w 5 B q (xs.map OpC.cells)) (hq : q ≤ 33554432) (hops : ∀ x ∈ xs, x.Read w) :
    Calls Tryd.prog 6 #[.int .i64 n, .slice B q cq] w fun e w' => e = .returned (.bool true) ∧ Ext Nothing w w' := by
  go_enter Tryd.func6, Tryd.ntmps6
  go_upto_region 2 with (first | go_skip | go_guarded | (go_at_call 9; (with_reducible refine (dkNew w (fun _ => True)).mono ?_); rintro e w1 ⟨b, rfl, h1, hbw, hx1⟩))
  go_upto_region 4 with (first | go_skip | go_guarded | (go_at_call 11; (with_reducible refine (lawKnown w1).mono ?_); rintro e w2 ⟨rfl, hx2⟩))
  have h2 := h1.keep0 hx2
  have hx02 := hx1.tr hx2
  clear h1 hx1 hx2
  go_upto_region 5 with (first | go_skip | go_guarded | (go_at_call 19; (with_reducible refine (dkCut n w2 h2).mono ?_); rintro e w3 ⟨rfl, h3, hx3⟩))
  by_cases hbad : n < 0 ∨ 1099511627776 < n
  · have hr : Dk.new.cutAt n = (Dk.new, 1) := by unfold Dk.DiskD.cutAt; rw [if_pos hbad]
    rw [hr]
    have hxf := DkB.fresh hbw hx02 hx3
    clear hr h3 h2 hx3
    by_cases h0 : n < 0
    · go_wp2_with (first | go_skip | go_guarded)
      go_ret
      exact ⟨rfl, hxf⟩
    · have h9 : 1099511627776 < n := by omega
      go_wp2_with (first | go_skip | go_guarded)
      go_ret
      exact ⟨rfl, hxf⟩
  · have hr : Dk.new.cutAt n = ({ Dk.new with left := n }, 0) := by unfold Dk.DiskD.cutAt; rw [if_neg hbad]
    rw [hr] at h3 ⊢
    have hg3 := Dk.good_cut Dk.good_new n
    rw [hr] at hg3
    have hn0 : 0 ≤ n := by omega
    have hn1 : n ≤ 1099511627776 := by omega
    dsimp only at h3 hg3 ⊢
    clear hr h2 hbad
    go_upto_region 9 with (first | go_skip | go_guarded)
    go_loopw [7, 8] (fun dv ki wr => ∃ t : Nat, t ≤ q ∧ ki = .int .i64 t ∧ ∃ (did : Nat) (d : Dk.DiskD) (Ok : Nat → Prop), dv = .int .i64 (did : Int) ∧ DiskIs wr Ok b d ∧ Dk.Good d ∧ d.left = n - did ∧ (did : Int) ≤ n ∧ d.done.length ≤ t ∧ Ext (DkB b w2) w2 wr) (fun _ ki _ => q - (intOf ki).toNat)
    case atStart => exact ⟨0, Nat.zero_le _, rfl, 0, _, _, rfl, h3, hg3, by simp, hn0, Nat.zero_le _, hx3⟩
    case round =>
      clear h3 hg3 hx3
      obtain ⟨t, ht, rfl, did, d, Ok, rfl, hd, hg, hlf, hdn, hdl, hK⟩ := hrel
      have hx0 := DkB.fresh hbw hx02 hK
      by_cases hlt : t < q
      · obtain ⟨hjn, p, off, hAe, hce⟩ := hsl.get hx0 hlt
        have hrd := (hops _ (List.getElem_mem hjn)).e0 hx0
        generalize xs[t] = x at hce hrd
        obtain ⟨kd, s, tt, data, nn, A, m, c⟩ := x
        subst hAe
        have HT := Lib.hid hlt
        have hk0 : (0 : Int) ≤ (t : Int) := by omega
        have hk1 : (t : Int) < q := by omega
        have hce : ∀ j u, (#[.int .i64 kd, strV s, strV tt, .slice A m c, .int .i64 nn] : Array Value).toList[j]? = some u → wr.cell? ⟨p, off + t * 5 + j, none⟩ = some u := hce
        have HQ := Lib.hid hce
        clear hce hlt hsl hops
        go_upto_region 12 with (first | go_skip | go_guarded | ((with_reducible refine dW ?_); refine wpList_load_at rfl 31 _ rfl STOp p (off + t * 5) rfl #[.int .i64 kd, strV s, strV tt, .slice A m c, .int .i64 nn] HQ.out rfl ?_) | ((with_reducible refine dW ?_); refine wpList_store_blk rfl 31 _ _ rfl STOp wr.heap.size rfl #[.int .i64 kd, strV s, strV tt, .slice A m c, .int .i64 nn] rfl (show Blk _ _ 31 _ from Blk.new wr _ _) rfl rfl rfl ?_; intro w4 hB4 hx4))
        go_frame
        have hx5 : Ext Nothing wr w4 := (show Ext Nothing wr _ from Ext.auto).trans hx4 (fun g hg e => absurd (show g = wr.heap.size from e) (by omega))
        have hd4 := hd.keep0 hx5
        have hrd4 := hrd.e0 hx5
        have hK4 := hK.t0 hx5
        generalize wr.heap.size = V at hB4 ⊢
        clear hd hrd hK hx4 hx5 hx0 HQ
        go_upto_region 13 with (first | go_skip | go_guarded | (go_at_call 15; (with_reducible refine (lawTold w4 hd4 hg).mono ?_); rintro e w5 ⟨rfl, hx5⟩))
        have hd5 := hd4.keep0 hx5
        have hrd5 := hrd4.e0 hx5
        have hK5 := hK4.t0 hx5
        have hB5 := hB4.e0 hx5
        clear hd4 hrd4 hK4 hB4 hx5
        have c0 : w5.cell? ⟨V, 0, none⟩ = some (.int .i64 kd) := hB5.cell 0
        have c1 : w5.cell? ⟨V, 1, none⟩ = some (strV s) := hB5.cell 1
        have c2 : w5.cell? ⟨V, 2, none⟩ = some (strV tt) := hB5.cell 2
        have c3 : w5.cell? ⟨V, 3, none⟩ = some (.slice A m c) := hB5.cell 3
        have hl0 : 0 ≤ d.left := by omega
        have hdn9 : d.done.length < 67108864 := by omega
        have HLF := Lib.hid hlf
        have HDL := Lib.hid hdl
        clear hdl
        cases hk0 : (kd == 0) with
        | true =>
          obtain rfl : kd = 0 := by simpa using hk0
          have HCK := Lib.hid (show Dk.CutOk d (d.write 0 s data) from Dk.write_cut hl0 0 s data)
          have hg6 : Dk.Good (d.write 0 s data).1 := Dk.good_write hg (by omega) s data
          go_upto_region 25 with (first | go_skip | go_guarded | (go_at_call 14; (with_reducible refine (dkAppend s A m c data w5 hd5 hg hdn9 hrd5.n1 hrd5.d hrd5.m).mono ?_); rintro e w6 ⟨rfl, h6, hx6⟩))
          have hK6 := DkB.trans hK5 hx6
          generalize hr : (d.write 0 s data) = r at h6 HCK hg6 ⊢
          clear hr
          obtain ⟨d3, f3⟩ := r
          dsimp only at h6 hg6 HCK ⊢
          clear hd5 hrd5 hK5 hx6 c0 c1 c2 c3 hB5 hdn9
          by_cases hf : f3 = 0
          · subst hf
            obtain ⟨e1, e2⟩ := HCK.out.ok rfl
            have e1 : d3.left = d.left - 1 := e1
            have e9 : d3.done.length ≤ d.done.length + 1 := HCK.out.done
            have hd1 : (did : Int) + 1 ≤ n := by omega
            have hd2 : ¬ (n < (did : Int) + 1) := by omega
            have HN := Lib.hid (And.intro e1 e9)
            clear e1 e9 e2 HCK hlf
            cases he : (((did : Int) + 1) == n) with
            | true =>
              have hd3 : ¬ ((did : Int) + 1 < n) := by simp at he; omega
              go_wp2_with (first | go_skip | go_guarded)
              go_roundw
              case rel => exact ⟨t + 1, HT.out, by go_num, did + 1, d3, _, by push_cast; rfl, h6, hg6, by have := HN.out.1; have := HLF.out; push_cast; omega, by push_cast; omega, by have := HN.out.2; have := HDL.out; omega, hK6⟩
              case measure => have := HT.out; simp [intOf]; omega
            | false =>
              have hd3 : (did : Int) + 1 < n := by simp at he; omega
              go_wp2_with (first | go_skip | go_guarded)
              go_roundw
              case rel => exact ⟨t + 1, HT.out, by go_num, did + 1, d3, _, by push_cast; rfl, h6, hg6, by have := HN.out.1; have := HLF.out; push_cast; omega, by push_cast; omega, by have := HN.out.2; have := HDL.out; omega, hK6⟩
              case measure => have := HT.out; simp [intOf]; omega
          · have hds : d = d3 := (HCK.out.no hf).symm
            subst hds
            have hfb : (f3 == 0) = false := by simp; exact hf
            have hd2 : ¬ (n < (did : Int)) := by omega
            by_cases hn9 : (did : Int) = n
            · have hz := HCK.out.zero (by have := HLF.out; omega)
              have hz : f3 = 1 ∨ f3 = 11 := hz
              have he : ((did : Int) == n) = true := by simp; exact hn9
              have hd3 : ¬ ((did : Int) < n) := by omega
              clear hn9 HCK hlf
              rcases hz with rfl | rfl
              · go_wp2_with (first | go_skip | go_guarded | (go_at_call 15; (with_reducible refine (lawTold w6 h6 hg).mono ?_); rintro e w7 ⟨rfl, hx7⟩; have h7 := h6.keep0 hx7; have hK7 := hK6.t0 hx7))
                go_roundw
                case rel => exact ⟨t + 1, HT.out, by go_num, did, d, _, rfl, h7, hg, HLF.out, hdn, by have := HDL.out; omega, hK7⟩
                case measure => have := HT.out; simp [intOf]; omega
              · go_wp2_with (first | go_skip | go_guarded | (go_at_call 15; (with_reducible refine (lawTold w6 h6 hg).mono ?_); rintro e w7 ⟨rfl, hx7⟩; have h7 := h6.keep0 hx7; have hK7 := hK6.t0 hx7))
                go_roundw
                case rel => exact ⟨t + 1, HT.out, by go_num, did, d, _, rfl, h7, hg, HLF.out, hdn, by have := HDL.out; omega, hK7⟩
                case measure => have := HT.out; simp [intOf]; omega
            · have he : ((did : Int) == n) = false := by simp; exact hn9
              have hd3 : ((did : Int) < n) := by omega
              have hf11 : (f3 == 11) = false := by simp; intro e; have := HCK.out.cut e; have := HLF.out; omega
              clear hn9 HCK hlf
              go_wp2_with (first | go_skip | go_guarded | (go_at_call 15; (with_reducible refine (lawTold w6 h6 hg).mono ?_); rintro e w7 ⟨rfl, hx7⟩; have h7 := h6.keep0 hx7; have hK7 := hK6.t0 hx7))
              go_roundw
              case rel => exact ⟨t + 1, HT.out, by go_num, did, d, _, rfl, h7, hg, HLF.out, hdn, by have := HDL.out; omega, hK7⟩
              case measure => have := HT.out; simp [intOf]; omega
        | false =>
          cases hk1 : (kd == 1) with
          | true =>
            obtain rfl : kd = 1 := by simpa using hk1
            have HCK := Lib.hid (show Dk.CutOk d (d.write 1 s data) from Dk.write_cut hl0 1 s data)
            have hg6 : Dk.Good (d.write 1 s data).1 := Dk.good_write hg (by omega) s data
            go_upto_region 25 with (first | go_skip | go_guarded | (go_at_call 16; (with_reducible refine (dkPut s A m c data w5 hd5 hg hdn9 hrd5.n1 hrd5.d hrd5.m).mono ?_); rintro e w6 ⟨rfl, h6, hx6⟩))
            have hK6 := DkB.trans hK5 hx6
            generalize hr : (d.write 1 s data) = r at h6 HCK hg6 ⊢
            clear hr
            obtain ⟨d3, f3⟩ := r
            dsimp only at h6 hg6 HCK ⊢
            clear hd5 hrd5 hK5 hx6 c0 c1 c2 c3 hB5 hdn9
            by_cases hf : f3 = 0
            · subst hf
              obtain ⟨e1, e2⟩ := HCK.out.ok rfl
              have e1 : d3.left = d.left - 1 := e1
              have e9 : d3.done.length ≤ d.done.length + 1 := HCK.out.done
              have hd1 : (did : Int) + 1 ≤ n := by omega
              have hd2 : ¬ (n < (did : Int) + 1) := by omega
              have HN := Lib.hid (And.intro e1 e9)
              clear e1 e9 e2 HCK hlf
              cases he : (((did : Int) + 1) == n) with
              | true =>
                have hd3 : ¬ ((did : Int) + 1 < n) := by simp at he; omega
                go_wp2_with (first | go_skip | go_guarded)
                go_roundw
                case rel => exact ⟨t + 1, HT.out, by go_num, did + 1, d3, _, by push_cast; rfl, h6, hg6, by have := HN.out.1; have := HLF.out; push_cast; omega, by push_cast; omega, by have := HN.out.2; have := HDL.out; omega, hK6⟩
                case measure => have := HT.out; simp [intOf]; omega
              | false =>
                have hd3 : (did : Int) + 1 < n := by simp at he; omega
                go_wp2_with (first | go_skip | go_guarded)
                go_roundw
                case rel => exact ⟨t + 1, HT.out, by go_num, did + 1, d3, _, by push_cast; rfl, h6, hg6, by have := HN.out.1; have := HLF.out; push_cast; omega, by push_cast; omega, by have := HN.out.2; have := HDL.out; omega, hK6⟩
                case measure => have := HT.out; simp [intOf]; omega
            · have hds : d = d3 := (HCK.out.no hf).symm
              subst hds
              have hfb : (f3 == 0) = false := by simp; exact hf
              have hd2 : ¬ (n < (did : Int)) := by omega
              by_cases hn9 : (did : Int) = n
              · have hz := HCK.out.zero (by have := HLF.out; omega)
                have hz : f3 = 1 ∨ f3 = 11 := hz
                have he : ((did : Int) == n) = true := by simp; exact hn9
                have hd3 : ¬ ((did : Int) < n) := by omega
                clear hn9 HCK hlf
                rcases hz with rfl | rfl
                · go_wp2_with (first | go_skip | go_guarded | (go_at_call 15; (with_reducible refine (lawTold w6 h6 hg).mono ?_); rintro e w7 ⟨rfl, hx7⟩; have h7 := h6.keep0 hx7; have hK7 := hK6.t0 hx7))
                  go_roundw
                  case rel => exact ⟨t + 1, HT.out, by go_num, did, d, _, rfl, h7, hg, HLF.out, hdn, by have := HDL.out; omega, hK7⟩
                  case measure => have := HT.out; simp [intOf]; omega
                · go_wp2_with (first | go_skip | go_guarded | (go_at_call 15; (with_reducible refine (lawTold w6 h6 hg).mono ?_); rintro e w7 ⟨rfl, hx7⟩; have h7 := h6.keep0 hx7; have hK7 := hK6.t0 hx7))
                  go_roundw
                  case rel => exact ⟨t + 1, HT.out, by go_num, did, d, _, rfl, h7, hg, HLF.out, hdn, by have := HDL.out; omega, hK7⟩
                  case measure => have := HT.out; simp [intOf]; omega
              · have he : ((did : Int) == n) = false := by simp; exact hn9
                have hd3 : ((did : Int) < n) := by omega
                have hf11 : (f3 == 11) = false := by simp; intro e; have := HCK.out.cut e; have := HLF.out; omega
                clear hn9 HCK hlf
                go_wp2_with (first | go_skip | go_guarded | (go_at_call 15; (with_reducible refine (lawTold w6 h6 hg).mono ?_); rintro e w7 ⟨rfl, hx7⟩; have h7 := h6.keep0 hx7; have hK7 := hK6.t0 hx7))
                go_roundw
                case rel => exact ⟨t + 1, HT.out, by go_num, did, d, _, rfl, h7, hg, HLF.out, hdn, by have := HDL.out; omega, hK7⟩
                case measure => have := HT.out; simp [intOf]; omega
          | false =>
            cases hk2 : (kd == 2) with
            | true =>
              obtain rfl : kd = 2 := by simpa using hk2
              have HCK := Lib.hid (show Dk.CutOk d (d.write 1 s data) from Dk.write_cut hl0 1 s data)
              have hg6 : Dk.Good (d.write 1 s data).1 := Dk.good_write hg (by omega) s data
              go_upto_region 25 with (first | go_skip | go_guarded | (go_at_call 16; (with_reducible refine (dkPut s A m c data w5 hd5 hg hdn9 hrd5.n1 hrd5.d hrd5.m).mono ?_); rintro e w6 ⟨rfl, h6, hx6⟩))
              have hK6 := DkB.trans hK5 hx6
              generalize hr : (d.write 1 s data) = r at h6 HCK hg6 ⊢
              clear hr
              obtain ⟨d3, f3⟩ := r
              dsimp only at h6 hg6 HCK ⊢
              clear hd5 hrd5 hK5 hx6 c0 c1 c2 c3 hB5 hdn9
              by_cases hf : f3 = 0
              · subst hf
                obtain ⟨e1, e2⟩ := HCK.out.ok rfl
                have e1 : d3.left = d.left - 1 := e1
                have e9 : d3.done.length ≤ d.done.length + 1 := HCK.out.done
                have hd1 : (did : Int) + 1 ≤ n := by omega
                have hd2 : ¬ (n < (did : Int) + 1) := by omega
                have HN := Lib.hid (And.intro e1 e9)
                clear e1 e9 e2 HCK hlf
                cases he : (((did : Int) + 1) == n) with
                | true =>
                  have hd3 : ¬ ((did : Int) + 1 < n) := by simp at he; omega
                  go_wp2_with (first | go_skip | go_guarded)
                  go_roundw
                  case rel => exact ⟨t + 1, HT.out, by go_num, did + 1, d3, _, by push_cast; rfl, h6, hg6, by have := HN.out.1; have := HLF.out; push_cast; omega, by push_cast; omega, by have := HN.out.2; have := HDL.out; omega, hK6⟩
                  case measure => have := HT.out; simp [intOf]; omega
                | false =>
                  have hd3 : (did : Int) + 1 < n := by simp at he; omega
                  go_wp2_with (first | go_skip | go_guarded)
                  go_roundw
                  case rel => exact ⟨t + 1, HT.out, by go_num, did + 1, d3, _, by push_cast; rfl, h6, hg6, by have := HN.out.1; have := HLF.out; push_cast; omega, by push_cast; omega, by have := HN.out.2; have := HDL.out; omega, hK6⟩
                  case measure => have := HT.out; simp [intOf]; omega
              · have hds : d = d3 := (HCK.out.no hf).symm
                subst hds
                have hfb : (f3 == 0) = false := by simp; exact hf
                have hd2 : ¬ (n < (did : Int)) := by omega
                by_cases hn9 : (did : Int) = n
                · have hz := HCK.out.zero (by have := HLF.out; omega)
                  have hz : f3 = 1 ∨ f3 = 11 := hz
                  have he : ((did : Int) == n) = true := by simp; exact hn9
                  have hd3 : ¬ ((did : Int) < n) := by omega
                  clear hn9 HCK hlf
                  rcases hz with rfl | rfl
                  · go_wp2_with (first | go_skip | go_guarded | (go_at_call 15; (with_reducible refine (lawTold w6 h6 hg).mono ?_); rintro e w7 ⟨rfl, hx7⟩; have h7 := h6.keep0 hx7; have hK7 := hK6.t0 hx7))
                    go_roundw
                    case rel => exact ⟨t + 1, HT.out, by go_num, did, d, _, rfl, h7, hg, HLF.out, hdn, by have := HDL.out; omega, hK7⟩
                    case measure => have := HT.out; simp [intOf]; omega
                  · go_wp2_with (first | go_skip | go_guarded | (go_at_call 15; (with_reducible refine (lawTold w6 h6 hg).mono ?_); rintro e w7 ⟨rfl, hx7⟩; have h7 := h6.keep0 hx7; have hK7 := hK6.t0 hx7))
                    go_roundw
                    case rel => exact ⟨t + 1, HT.out, by go_num, did, d, _, rfl, h7, hg, HLF.out, hdn, by have := HDL.out; omega, hK7⟩
                    case measure => have := HT.out; simp [intOf]; omega
                · have he : ((did : Int) == n) = false := by simp; exact hn9
                  have hd3 : ((did : Int) < n) := by omega
                  have hf11 : (f3 == 11) = false := by simp; intro e; have := HCK.out.cut e; have := HLF.out; omega
                  clear hn9 HCK hlf
                  go_wp2_with (first | go_skip | go_guarded | (go_at_call 15; (with_reducible refine (lawTold w6 h6 hg).mono ?_); rintro e w7 ⟨rfl, hx7⟩; have h7 := h6.keep0 hx7; have hK7 := hK6.t0 hx7))
                  go_roundw
                  case rel => exact ⟨t + 1, HT.out, by go_num, did, d, _, rfl, h7, hg, HLF.out, hdn, by have := HDL.out; omega, hK7⟩
                  case measure => have := HT.out; simp [intOf]; omega
            | false =>
              cases hk3 : (kd == 3) with
              | true =>
                obtain rfl : kd = 3 := by simpa using hk3
                have HCK := Lib.hid (show Dk.CutOk d (d.remove s) from Dk.move_cut hl0 _ _)
                have hg6 : Dk.Good (d.remove s).1 := Dk.good_move hg (.inl ⟨rfl, rfl⟩) rfl
                go_upto_region 25 with (first | go_skip | go_guarded | (go_at_call 17; (with_reducible refine (dkRemove s w5 hd5 hg hdn9 hrd5.n1).mono ?_); rintro e w6 ⟨rfl, h6, hx6⟩))
                have hK6 := DkB.trans hK5 hx6
                generalize hr : (d.remove s) = r at h6 HCK hg6 ⊢
                clear hr
                obtain ⟨d3, f3⟩ := r
                dsimp only at h6 hg6 HCK ⊢
                clear hd5 hrd5 hK5 hx6 c0 c1 c2 c3 hB5 hdn9
                by_cases hf : f3 = 0
                · subst hf
                  obtain ⟨e1, e2⟩ := HCK.out.ok rfl
                  have e1 : d3.left = d.left - 1 := e1
                  have e9 : d3.done.length ≤ d.done.length + 1 := HCK.out.done
                  have hd1 : (did : Int) + 1 ≤ n := by omega
                  have hd2 : ¬ (n < (did : Int) + 1) := by omega
                  have HN := Lib.hid (And.intro e1 e9)
                  clear e1 e9 e2 HCK hlf
                  cases he : (((did : Int) + 1) == n) with
                  | true =>
                    have hd3 : ¬ ((did : Int) + 1 < n) := by simp at he; omega
                    go_wp2_with (first | go_skip | go_guarded)
                    go_roundw
                    case rel => exact ⟨t + 1, HT.out, by go_num, did + 1, d3, _, by push_cast; rfl, h6, hg6, by have := HN.out.1; have := HLF.out; push_cast; omega, by push_cast; omega, by have := HN.out.2; have := HDL.out; omega, hK6⟩
                    case measure => have := HT.out; simp [intOf]; omega
                  | false =>
                    have hd3 : (did : Int) + 1 < n := by simp at he; omega
                    go_wp2_with (first | go_skip | go_guarded)
                    go_roundw
                    case rel => exact ⟨t + 1, HT.out, by go_num, did + 1, d3, _, by push_cast; rfl, h6, hg6, by have := HN.out.1; have := HLF.out; push_cast; omega, by push_cast; omega, by have := HN.out.2; have := HDL.out; omega, hK6⟩
                    case measure => have := HT.out; simp [intOf]; omega
                · have hds : d = d3 := (HCK.out.no hf).symm
                  subst hds
                  have hfb : (f3 == 0) = false := by simp; exact hf
                  have hd2 : ¬ (n < (did : Int)) := by omega
                  by_cases hn9 : (did : Int) = n
                  · have hz := HCK.out.zero (by have := HLF.out; omega)
                    have hz : f3 = 1 ∨ f3 = 11 := hz
                    have he : ((did : Int) == n) = true := by simp; exact hn9
                    have hd3 : ¬ ((did : Int) < n) := by omega
                    clear hn9 HCK hlf
                    rcases hz with rfl | rfl
                    · go_wp2_with (first | go_skip | go_guarded | (go_at_call 15; (with_reducible refine (lawTold w6 h6 hg).mono ?_); rintro e w7 ⟨rfl, hx7⟩; have h7 := h6.keep0 hx7; have hK7 := hK6.t0 hx7))
                      go_roundw
                      case rel => exact ⟨t + 1, HT.out, by go_num, did, d, _, rfl, h7, hg, HLF.out, hdn, by have := HDL.out; omega, hK7⟩
                      case measure => have := HT.out; simp [intOf]; omega
                    · go_wp2_with (first | go_skip | go_guarded | (go_at_call 15; (with_reducible refine (lawTold w6 h6 hg).mono ?_); rintro e w7 ⟨rfl, hx7⟩; have h7 := h6.keep0 hx7; have hK7 := hK6.t0 hx7))
                      go_roundw
                      case rel => exact ⟨t + 1, HT.out, by go_num, did, d, _, rfl, h7, hg, HLF.out, hdn, by have := HDL.out; omega, hK7⟩
                      case measure => have := HT.out; simp [intOf]; omega
                  · have he : ((did : Int) == n) = false := by simp; exact hn9
                    have hd3 : ((did : Int) < n) := by omega
                    have hf11 : (f3 == 11) = false := by simp; intro e; have := HCK.out.cut e; have := HLF.out; omega
                    clear hn9 HCK hlf
                    go_wp2_with (first | go_skip | go_guarded | (go_at_call 15; (with_reducible refine (lawTold w6 h6 hg).mono ?_); rintro e w7 ⟨rfl, hx7⟩; have h7 := h6.keep0 hx7; have hK7 := hK6.t0 hx7))
                    go_roundw
                    case rel => exact ⟨t + 1, HT.out, by go_num, did, d, _, rfl, h7, hg, HLF.out, hdn, by have := HDL.out; omega, hK7⟩
                    case measure => have := HT.out; simp [intOf]; omega
              | false =>
                cases hk4 : (kd == 4) with
                | true =>
                  obtain rfl : kd = 4 := by simpa using hk4
                  have HCK := Lib.hid (show Dk.CutOk d (d.rename s tt) from Dk.move_cut hl0 _ _)
                  have hg6 : Dk.Good (d.rename s tt).1 := Dk.good_move hg (.inr ⟨rfl, rfl⟩) rfl
                  go_upto_region 25 with (first | go_skip | go_guarded | (go_at_call 18; (with_reducible refine (dkRename s tt w5 hd5 hg hdn9 hrd5.n1 hrd5.n2).mono ?_); rintro e w6 ⟨rfl, h6, hx6⟩))
                  have hK6 := DkB.trans hK5 hx6
                  generalize hr : (d.rename s tt) = r at h6 HCK hg6 ⊢
                  clear hr
                  obtain ⟨d3, f3⟩ := r
                  dsimp only at h6 hg6 HCK ⊢
                  clear hd5 hrd5 hK5 hx6 c0 c1 c2 c3 hB5 hdn9
                  by_cases hf : f3 = 0
                  · subst hf
                    obtain ⟨e1, e2⟩ := HCK.out.ok rfl
                    have e1 : d3.left = d.left - 1 := e1
                    have e9 : d3.done.length ≤ d.done.length + 1 := HCK.out.done
                    have hd1 : (did : Int) + 1 ≤ n := by omega
                    have hd2 : ¬ (n < (did : Int) + 1) := by omega
                    have HN := Lib.hid (And.intro e1 e9)
                    clear e1 e9 e2 HCK hlf
                    cases he : (((did : Int) + 1) == n) with
                    | true =>
                      have hd3 : ¬ ((did : Int) + 1 < n) := by simp at he; omega
                      go_wp2_with (first | go_skip | go_guarded)
                      go_roundw
                      case rel => exact ⟨t + 1, HT.out, by go_num, did + 1, d3, _, by push_cast; rfl, h6, hg6, by have := HN.out.1; have := HLF.out; push_cast; omega, by push_cast; omega, by have := HN.out.2; have := HDL.out; omega, hK6⟩
                      case measure => have := HT.out; simp [intOf]; omega
                    | false =>
                      have hd3 : (did : Int) + 1 < n := by simp at he; omega
                      go_wp2_with (first | go_skip | go_guarded)
                      go_roundw
                      case rel => exact ⟨t + 1, HT.out, by go_num, did + 1, d3, _, by push_cast; rfl, h6, hg6, by have := HN.out.1; have := HLF.out; push_cast; omega, by push_cast; omega, by have := HN.out.2; have := HDL.out; omega, hK6⟩
                      case measure => have := HT.out; simp [intOf]; omega
                  · have hds : d = d3 := (HCK.out.no hf).symm
                    subst hds
                    have hfb : (f3 == 0) = false := by simp; exact hf
                    have hd2 : ¬ (n < (did : Int)) := by omega
                    by_cases hn9 : (did : Int) = n
                    · have hz := HCK.out.zero (by have := HLF.out; omega)
                      have hz : f3 = 1 ∨ f3 = 11 := hz
                      have he : ((did : Int) == n) = true := by simp; exact hn9
                      have hd3 : ¬ ((did : Int) < n) := by omega
                      clear hn9 HCK hlf
                      rcases hz with rfl | rfl
                      · go_wp2_with (first | go_skip | go_guarded | (go_at_call 15; (with_reducible refine (lawTold w6 h6 hg).mono ?_); rintro e w7 ⟨rfl, hx7⟩; have h7 := h6.keep0 hx7; have hK7 := hK6.t0 hx7))
                        go_roundw
                        case rel => exact ⟨t + 1, HT.out, by go_num, did, d, _, rfl, h7, hg, HLF.out, hdn, by have := HDL.out; omega, hK7⟩
                        case measure => have := HT.out; simp [intOf]; omega
                      · go_wp2_with (first | go_skip | go_guarded | (go_at_call 15; (with_reducible refine (lawTold w6 h6 hg).mono ?_); rintro e w7 ⟨rfl, hx7⟩; have h7 := h6.keep0 hx7; have hK7 := hK6.t0 hx7))
                        go_roundw
                        case rel => exact ⟨t + 1, HT.out, by go_num, did, d, _, rfl, h7, hg, HLF.out, hdn, by have := HDL.out; omega, hK7⟩
                        case measure => have := HT.out; simp [intOf]; omega
                    · have he : ((did : Int) == n) = false := by simp; exact hn9
                      have hd3 : ((did : Int) < n) := by omega
                      have hf11 : (f3 == 11) = false := by simp; intro e; have := HCK.out.cut e; have := HLF.out; omega
                      clear hn9 HCK hlf
                      go_wp2_with (first | go_skip | go_guarded | (go_at_call 15; (with_reducible refine (lawTold w6 h6 hg).mono ?_); rintro e w7 ⟨rfl, hx7⟩; have h7 := h6.keep0 hx7; have hK7 := hK6.t0 hx7))
                      go_roundw
                      case rel => exact ⟨t + 1, HT.out, by go_num, did, d, _, rfl, h7, hg, HLF.out, hdn, by have := HDL.out; omega, hK7⟩
                      case measure => have := HT.out; simp [intOf]; omega
                | false =>
                  have HCK := Lib.hid (show Dk.CutOk d d.sync from Dk.sync_cut hl0)
                  have hg6 : Dk.Good d.sync.1 := Dk.good_sync hg
                  go_upto_region 25 with (first | go_skip | go_guarded | (go_at_call 20; (with_reducible refine (dkSync w5 hd5).mono ?_); rintro e w6 ⟨rfl, h6, hx6⟩))
                  have hK6 := DkB.trans hK5 hx6
                  generalize hr : d.sync = r at h6 HCK hg6 ⊢
                  clear hr
                  obtain ⟨d3, f3⟩ := r
                  dsimp only at h6 hg6 HCK ⊢
                  clear hd5 hrd5 hK5 hx6 c0 c1 c2 c3 hB5 hdn9
                  by_cases hf : f3 = 0
                  · subst hf
                    obtain ⟨e1, e2⟩ := HCK.out.ok rfl
                    have e1 : d3.left = d.left - 1 := e1
                    have e9 : d3.done.length ≤ d.done.length + 1 := HCK.out.done
                    have hd1 : (did : Int) + 1 ≤ n := by omega
                    have hd2 : ¬ (n < (did : Int) + 1) := by omega
                    have HN := Lib.hid (And.intro e1 e9)
                    clear e1 e9 e2 HCK hlf
                    cases he : (((did : Int) + 1) == n) with
                    | true =>
                      have hd3 : ¬ ((did : Int) + 1 < n) := by simp at he; omega
                      go_wp2_with (first | go_skip | go_guarded)
                      go_roundw
                      case rel => exact ⟨t + 1, HT.out, by go_num, did + 1, d3, _, by push_cast; rfl, h6, hg6, by have := HN.out.1; have := HLF.out; push_cast; omega, by push_cast; omega, by have := HN.out.2; have := HDL.out; omega, hK6⟩
                      case measure => have := HT.out; simp [intOf]; omega
                    | false =>
                      have hd3 : (did : Int) + 1 < n := by simp at he; omega
                      go_wp2_with (first | go_skip | go_guarded)
                      go_roundw
                      case rel => exact ⟨t + 1, HT.out, by go_num, did + 1, d3, _, by push_cast; rfl, h6, hg6, by have := HN.out.1; have := HLF.out; push_cast; omega, by push_cast; omega, by have := HN.out.2; have := HDL.out; omega, hK6⟩
                      case measure => have := HT.out; simp [intOf]; omega
                  · have hds : d = d3 := (HCK.out.no hf).symm
                    subst hds
                    have hfb : (f3 == 0) = false := by simp; exact hf
                    have hd2 : ¬ (n < (did : Int)) := by omega
                    by_cases hn9 : (did : Int) = n
                    · have hz := HCK.out.zero (by have := HLF.out; omega)
                      have hz : f3 = 1 ∨ f3 = 11 := hz
                      have he : ((did : Int) == n) = true := by simp; exact hn9
                      have hd3 : ¬ ((did : Int) < n) := by omega
                      clear hn9 HCK hlf
                      rcases hz with rfl | rfl
                      · go_wp2_with (first | go_skip | go_guarded | (go_at_call 15; (with_reducible refine (lawTold w6 h6 hg).mono ?_); rintro e w7 ⟨rfl, hx7⟩; have h7 := h6.keep0 hx7; have hK7 := hK6.t0 hx7))
                        go_roundw
                        case rel => exact ⟨t + 1, HT.out, by go_num, did, d, _, rfl, h7, hg, HLF.out, hdn, by have := HDL.out; omega, hK7⟩
                        case measure => have := HT.out; simp [intOf]; omega
                      · go_wp2_with (first | go_skip | go_guarded | (go_at_call 15; (with_reducible refine (lawTold w6 h6 hg).mono ?_); rintro e w7 ⟨rfl, hx7⟩; have h7 := h6.keep0 hx7; have hK7 := hK6.t0 hx7))
                        go_roundw
                        case rel => exact ⟨t + 1, HT.out, by go_num, did, d, _, rfl, h7, hg, HLF.out, hdn, by have := HDL.out; omega, hK7⟩
                        case measure => have := HT.out; simp [intOf]; omega
                    · have he : ((did : Int) == n) = false := by simp; exact hn9
                      have hd3 : ((did : Int) < n) := by omega
                      have hf11 : (f3 == 11) = false := by simp; intro e; have := HCK.out.cut e; have := HLF.out; omega
                      clear hn9 HCK hlf
                      go_wp2_with (first | go_skip | go_guarded | (go_at_call 15; (with_reducible refine (lawTold w6 h6 hg).mono ?_); rintro e w7 ⟨rfl, hx7⟩; have h7 := h6.keep0 hx7; have hK7 := hK6.t0 hx7))
                      go_roundw
                      case rel => exact ⟨t + 1, HT.out, by go_num, did, d, _, rfl, h7, hg, HLF.out, hdn, by have := HDL.out; omega, hK7⟩
                      case measure => have := HT.out; simp [intOf]; omega
      · have hnl : ¬ ((t : Int) < q) := by omega
        go_upto_region 32 with (first | go_skip | go_guarded | (go_at_call 21; (with_reducible refine (dkCrash 0 wr hd hg (by omega) (by unfold In64; omega)).mono ?_); rintro e w6 ⟨rfl, h6, hx6⟩))
        have hK6 := DkB.trans hK hx6
        have hsy : (d.crash 0).sync.2 = 0 := by simp [Dk.DiskD.sync, Dk.DiskD.crash]
        go_wp2_with (first | go_skip | go_guarded | (go_at_call 20; (with_reducible refine (dkSync w6 h6).mono ?_); rintro e w7 ⟨rfl, h7, hx7⟩; rw [hsy]))
        go_ret
        exact ⟨rfl, DkB.fresh hbw hx02 (DkB.trans hK6 hx7)⟩
end Go.Proofs.YtlfpfhdagkkliaaDoor
