/- The document's Digits and Show. -/
import Derived.Test.YtgjabfpkbcdkcaaGreatDoorLsD
import Derived.Test.YtgjabfpkbcdkcaaGreatDoorProg
import Derived.Test.YtgjabfpkbcdkcaaGreatDoorKeep
import Derived.Deep.CutRange
import Derived.Lib.ItoaLen
import Derived.Lib.SlBytesRow
namespace Go.Proofs.YtgjabfpkbcdkcaaGreatDoor
set_option linter.unusedVariables false
set_option linter.unusedSimpArgs false
open Go.RowKit Go.Lib

abbrev strV (s : List UInt8) : Value := .string ⟨s.toArray⟩
section
variable {P : Program} {ops : Array Oper} {rest : List Oper} {o : Oper} {a : Act} {w : World} {Q : Exit → Act → World → Prop}
theorem cAd (t : TypeId) {x y : Operand} {t' : TypeId} (h0 : o.op = .binOp .add t x y t') (h : wpList P ops Q (o :: rest) a w) : wpList P ops Q (o :: rest) a w := h
theorem run_addS (t : TypeId) (l m : List UInt8) (hl : l.length + m.length ≤ 9223372036854775807) (w : World) : (binOp .add t (strV l) (strV m)).run P w = .ok (strV (l ++ m)) w := by
  have h : ¬ ((((⟨l.toArray⟩ : ByteArray).size + (⟨m.toArray⟩ : ByteArray).size : Nat) : Int) > IntKind.i64.max) := by
    have h1 : (⟨l.toArray⟩ : ByteArray).size = l.length := rfl
    have h2 : (⟨m.toArray⟩ : ByteArray).size = m.length := rfl
    rw [h1, h2, show IntKind.i64.max = 9223372036854775807 from rfl]
    omega
  show (Op.stringOp .add _ _).run P w = _
  unfold Op.stringOp
  simp only [if_neg h, Sem.run_pure]
  congr 2
theorem wpList_addS (hgd : o.guard = none) (t : TypeId) (x y : Operand) (t' : TypeId) (ho : o.op = .binOp .add t x y t') (l m : List UInt8) (hx : a.eval x = strV l) (hy : a.eval y = strV m) (hl : l.length + m.length ≤ 9223372036854775807)
    (h : wpList P ops Q rest (a.put o.dst (strV (l ++ m))) w) : wpList P ops Q (o :: rest) a w := by
  refine wpList_plain hgd fun K hK => ?_
  have hr : (execOp a.eval o).run P w = .ok (.value (strV (l ++ m))) w := by
    unfold execOp
    simp only [ho, hx, hy]
    have h1 := run_addS (P := P) t l m hl w
    simp [h1, eqGuard]
  unfold Oper.wp
  rw [hr]
  exact hK _ _ h
end
theorem dig_conv (w : World) {D : Nat} {x : UInt8} (hD : D < 10) (hx : x = UInt8.ofNat (48 + D)) : (convert 55 9 (.slice (some ⟨w.heap.size, 0, none⟩) 1 1)).run Tryz.prog (w.alloc (.cells #[.int .u8 (48 + (D : Int))] 5)) = .ok (strV [x]) (w.alloc (.cells #[.int .u8 (48 + (D : Int))] 5)) := by
  subst hx
  have hc : (48 + (D : Int)) = (((UInt8.ofNat (48 + D)).toNat : Nat) : Int) := by
    rw [show (UInt8.ofNat (48 + D)).toNat = 48 + D by simp; omega]
    omega
  refine Go.Lib.run_convert_whole _ _ _ _ Tryz.underlying55 Tryz.underlying5 Tryz.underlying9 w.heap.size 0 ⟨([UInt8.ofNat (48 + D)]).toArray⟩ (fun i hi => ?_) 1
  have hi0 : i = 0 := by
    have : i < 1 := hi
    omega
  subst hi0
  rw [(Blk.new w _ _).cell, hc]
  rfl
set_option maxRecDepth 20000 in
set_option maxHeartbeats 8000000 in
theorem lsDigits (n : Int) (w : World) (h0 : -9223372036854775808 ≤ n) (h1 : n ≤ 9223372036854775807) :
    Calls Tryz.prog 26 #[.int .i64 n] w fun e w' => e = .returned (strV (itoa n)) ∧ Ext Nothing w w' := by
  have hlen := itoa_length_le n h0 h1
  have hdl : (decDigits n.natAbs).length ≤ 21 := by
    rw [itoa_abs] at hlen
    split at hlen
    · simp at hlen; omega
    · exact hlen
  go_enter Tryz.func26, Tryz.ntmps26
  go_upto_region 3 with (first | go_skip | go_guarded)
  go_loopw [3, 4] (fun so sr wr => ∃ (r : Int) (acc : List UInt8), so = strV acc ∧ sr = .int .i64 r ∧ -9223372036854775808 ≤ r ∧ r ≤ 9223372036854775807 ∧ decDigits n.natAbs = decDigits r.natAbs ++ acc ∧ Ext Nothing w wr) (fun _ sr _ => (Go.RowKit.intOf sr).natAbs)
  case atStart => exact ⟨n, [], rfl, rfl, h0, h1, by simp, Ext.refl _ _⟩
  case round =>
    obtain ⟨r, acc, rfl, rfl, hr0, hr1, hd, hx⟩ := hrel
    have hb1 : -10 < r.tmod 10 := by have := tmod_abs r; omega
    have hb2 : r.tmod 10 < 10 := by have := tmod_abs r; omega
    obtain ⟨D, hD⟩ : ∃ D : Nat, D = (r.tmod 10).natAbs := ⟨_, rfl⟩
    have hD9 : D < 10 := by omega
    have HD := Lib.hid hD
    go_upto_if 10 with (first | go_skip | go_guarded)
    have hdd : ∃ q : Bool, decide (r.tmod 10 < 0) = q ∧ (q = true → -r.tmod 10 = (D : Int)) ∧ (q = false → r.tmod 10 = (D : Int)) := by
      by_cases hm : r.tmod 10 < 0
      · exact ⟨true, by simp [hm], (fun _ => by omega), (fun e => by cases e)⟩
      · exact ⟨false, by simp [hm], (fun e => by cases e), (fun _ => by omega)⟩
    obtain ⟨q, hq, hq1, hq2⟩ := hdd
    rw [hq]
    clear hq
    go_cut [5] from 11 to 13 (fun e wx => e = .int .i64 (D : Int) ∧ wx = wr)
    case first =>
      cases q with
      | true =>
        have hq := hq1 rfl
        clear hD hq1 hq2
        go_wp2_with (first | go_skip | go_guarded)
        go_meet
        exact ⟨rfl, rfl⟩
      | false =>
        have HQ := Lib.hid (hq2 rfl)
        clear hD hq1 hq2
        go_wp2_with (first | go_skip | go_guarded)
        go_meet
        exact ⟨by rw [HQ.out], rfl⟩
    case rest =>
      obtain ⟨rfl, rfl⟩ := hcut
      obtain ⟨wr, rfl⟩ : ∃ W : World, W = wc := ⟨_, rfl⟩
      clear hD hq1 hq2 hb1 hb2
      have hal : acc.length ≤ 21 := by have h9 := congrArg List.length hd; rw [List.length_append] at h9; omega
      obtain ⟨x, hxx⟩ : ∃ x : UInt8, x = UInt8.ofNat (48 + D) := ⟨_, rfl⟩
      have hconv := dig_conv wr hD9 hxx
      have HX := Lib.hid hxx
      clear hxx
      go_upto_region 7 with (first | go_skip | go_guarded | ((with_reducible refine cAd 9 rfl ?_); refine wpList_addS rfl _ _ _ _ rfl [x] acc rfl rfl (by simp; omega) ?_))
      have hxw : Ext Nothing wr (wr.alloc (.cells #[.int .u8 (48 + (D : Int))] 5)) := Ext.auto
      have hx2 := hx.tr hxw
      clear hconv hxw hx
      generalize (wr.alloc (.cells #[.int .u8 (48 + (D : Int))] 5)) = w2 at hx2 ⊢
      have hxe : UInt8.ofNat (48 + (r.tmod 10).natAbs) = x := by rw [HX.out, HD.out]
      by_cases hz : r.tdiv 10 = 0
      · have hend := dig_end hz
        rw [hxe] at hend
        have HO := Lib.hid (show decDigits n.natAbs = x :: acc by rw [hd, hend]; rfl)
        have hz2 : (r.tdiv 10 == 0) = true := by simp [hz]
        clear hd hend hxe hr0 hr1
        by_cases hn : n < 0
        · have HN := Lib.hid hn
          go_wp2_with (first | go_skip | go_guarded | ((with_reducible refine cAd 9 rfl ?_); refine wpList_addS rfl _ _ _ _ rfl [45] (x :: acc) rfl rfl (by simp; omega) ?_))
          go_ret
          exact ⟨(by rw [itoa_abs, if_pos HN.out, HO.out]; rfl), hx2⟩
        · have HN := Lib.hid hn
          go_wp2_with (first | go_skip | go_guarded | ((with_reducible refine cAd 9 rfl ?_); refine wpList_addS rfl _ _ _ _ rfl [45] (x :: acc) rfl rfl (by simp; omega) ?_))
          go_ret
          exact ⟨(by rw [itoa_abs, if_neg (by have := HN.out; omega), HO.out]; rfl), hx2⟩
      · have hgo := dig_go hz
        rw [hxe] at hgo
        have hab := tdiv_abs r
        have HO := Lib.hid (show decDigits n.natAbs = decDigits (r.tdiv 10).natAbs ++ x :: acc by rw [hd, hgo]; simp)
        have hz2 : (r.tdiv 10 == 0) = false := by simp [hz]
        have HB := Lib.hid (show -9223372036854775808 ≤ r.tdiv 10 ∧ r.tdiv 10 ≤ 9223372036854775807 ∧ (r.tdiv 10).natAbs < r.natAbs by omega)
        have hq0 : -9223372036854775808 ≤ r.tdiv 10 := HB.out.1
        have hq1 : r.tdiv 10 ≤ 9223372036854775807 := HB.out.2.1
        clear hd hgo hxe hab hr0 hr1
        go_wp2_with (first | go_skip | go_guarded | ((with_reducible refine cAd 9 rfl ?_); refine wpList_addS rfl _ _ _ _ rfl [45] (x :: acc) rfl rfl (by simp; omega) ?_))
        go_roundw
        case rel => exact ⟨r.tdiv 10, x :: acc, rfl, rfl, HB.out.1, HB.out.2.1, HO.out, hx2⟩
        case measure => exact HB.out.2.2
end Go.Proofs.YtgjabfpkbcdkcaaGreatDoor
