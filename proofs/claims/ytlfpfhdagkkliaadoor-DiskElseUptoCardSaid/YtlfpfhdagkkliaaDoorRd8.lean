/- The document's disk: units, Crash. (printed by wip/gen/rdcrash.py) -/
import Derived.Test.YtlfpfhdagkkliaaDoorRd7
namespace Go.Proofs.YtlfpfhdagkkliaaDoor
set_option linter.unusedVariables false
set_option linter.unusedSimpArgs false
open Go.RowKit

theorem pick_ref (k : Int) (m : Nat) (hm : 0 < m) : (k.tmod (m : Int) < 0 → k.tmod (m : Int) + (m : Int) = k % (m : Int)) ∧ (¬ (k.tmod (m : Int) < 0) → k.tmod (m : Int) = k % (m : Int)) := by
  have h1 := Int.lt_tmod_of_pos k (b := (m : Int)) (by omega)
  have h2 := Int.tmod_lt_of_pos k (b := (m : Int)) (by omega)
  have h3 : (k.tmod (m : Int)) % (m : Int) = k % (m : Int) := by
    have := Int.mul_tdiv_add_tmod k m
    have e : k.tmod (m : Int) = k + m * (-(k.tdiv m)) := by rw [Int.mul_neg]; omega
    rw [e, Int.add_mul_emod_self_left]
  constructor
  · intro h
    rw [← h3, ← Int.add_emod_right, Int.emod_eq_of_lt (by omega) (by omega)]
  · intro h
    rw [← h3, Int.emod_eq_of_lt (by omega) (by omega)]
set_option maxRecDepth 20000 in
set_option maxHeartbeats 16000000 in
theorem rUnits {Ok : Nat → Prop} (y : DidC) (w : World) (hy : DidI w Ok y) (hd : y.1.data.length ≤ 1048576) :
    Calls Tryd.prog 54 #[.agg #[.int .i64 (y.1.kind : Int), strV y.1.name, strV y.2.1, y.2.2]] w fun e w' => e = .returned (.int .i64 (Dk.units y.1 : Int)) ∧ Ext Nothing w w' := by
  obtain ⟨⟨k, nm, tt, dt⟩, t9, dv⟩ := y
  obtain ⟨Ad, nd, cd, hdv, hsd, _⟩ := id hy.data
  have hdv : dv = .slice Ad nd cd := hdv
  subst hdv
  have hsd : Sl w 1 Ad nd (dt.map bCell) := hsd.1
  have hnd : nd = dt.length := by simpa using hsd.1
  dsimp only at hd ⊢
  have HND := Lib.hid hnd
  have hndl : nd ≤ 1048576 := by omega
  clear hnd hsd hy
  by_cases hk : k = 0
  · subst hk
    by_cases h0 : 0 < nd
    · have HU := Lib.hid (show Dk.units ⟨0, nm, tt, dt⟩ = nd by unfold Dk.units; rw [if_pos ⟨rfl, by have := HND.out; simp only; omega⟩]; exact HND.out.symm)
      rw [HU.out]
      have hn0 : (0 : Int) < (nd : Int) := by omega
      go_enter Tryd.func54, Tryd.ntmps54
      go_wp2_with (first | go_skip | go_guarded)
      go_ret
      exact ⟨rfl, Ext.auto⟩
    · have HU := Lib.hid (show Dk.units ⟨0, nm, tt, dt⟩ = 1 by unfold Dk.units; rw [if_neg (fun e => by have h1 := e.2; simp only at h1; have := HND.out; omega)])
      rw [HU.out]
      have hn0 : ¬ ((0 : Int) < (nd : Int)) := by omega
      go_enter Tryd.func54, Tryd.ntmps54
      go_wp2_with (first | go_skip | go_guarded)
      go_ret
      exact ⟨rfl, Ext.auto⟩
  · have HU := Lib.hid (show Dk.units ⟨k, nm, tt, dt⟩ = 1 by unfold Dk.units; rw [if_neg (fun e => hk e.1)])
    rw [HU.out]
    have hk0 : ((k : Int) == 0) = false := by simp; omega
    go_enter Tryd.func54, Tryd.ntmps54
    go_wp2_with (first | go_skip | go_guarded)
    go_ret
    exact ⟨rfl, Ext.auto⟩
set_option maxRecDepth 20000 in
set_option maxHeartbeats 16000000 in
theorem rCrash {Ok : Nat → Prop} {r : Nat} {d : Dk.DiskD} (k : Int) (w : World) (h : RefIs w Ok r d) (hg : Dk.Good d) (hR : Dk.Ren d) (hdl : d.done.length < 67108864) (hk : In64 k) :
    Calls Tryd.prog 32 #[.pointer (some ⟨r, 0, none⟩), .int .i64 k] w fun e w' => e = .returned (.tuple #[]) ∧ RefIs w' (OkN w Ok) r (d.crash k) ∧ Ext (RdB r w) w w' := by
  obtain ⟨fv, A, n, c, zs, h⟩ := h
  have hsl : Sl w 4 A n (zs.map DidC.cells) := Sl.of_own (f := DidC.cells) (sz := 4) (fun _ => rfl) (by have := h.own; exact this) h.len
  have hnd : n = d.done.length := by rw [h.len, ← h.done, List.length_map]
  have HND := Lib.hid hnd
  have hn : n < 67108864 := by omega
  have hdn := Lib.hid h.done
  have HAU := Lib.hid (Dk.allUnits_le hg.did)
  clear hnd
  obtain ⟨A0, n0, c0, ys0, rfl, hF0, hy0⟩ := id h.dur
  generalize hfv : Value.slice A0 n0 c0 = fv at h
  have HFV := Lib.hid hfv
  clear hfv
  have hB := h.blk
  go_enter Tryd.func32, Tryd.ntmps32
  go_upto_region 2 with (first | go_skip | go_guarded)
  go_loopw [4, 5] (fun uv ki wr => ∃ t : Nat, t ≤ n ∧ ki = .int .i64 t ∧ uv = .int .i64 ((Dk.allUnits (d.done.take t) : Nat) : Int) ∧ Ext Nothing w wr) (fun _ ki _ => n - (intOf ki).toNat)
  case atStart => exact ⟨0, Nat.zero_le _, rfl, by simp [Dk.allUnits], Ext.refl _ _⟩
  case round =>
    obtain ⟨t, ht, rfl, rfl, hx⟩ := hrel
    have b1 : wr.cell? ⟨r, 1, none⟩ = some (.slice A n c) := (hB.e0 hx).cell 1
    by_cases hlt : t < n
    · obtain ⟨hjn, q, off, hAe, hce⟩ := hsl.get hx hlt
      have hyd : d.done[t]? = some zs[t].1 := by rw [← hdn.out, List.getElem?_map, List.getElem?_eq_getElem hjn]; rfl
      have hyi := (h.dids _ (List.getElem_mem hjn)).keep hx Off.none
      generalize zs[t] = y at hce hyd hyi
      subst hAe
      have hdo := hg.did _ (List.mem_of_getElem? hyd)
      have hce : ∀ j u, (#[.int .i64 (y.1.kind : Int), strV y.1.name, strV y.2.1, y.2.2] : Array Value).toList[j]? = some u → wr.cell? ⟨q, off + t * 4 + j, none⟩ = some u := hce
      have HQ := Lib.hid hce
      have hk0 : (0 : Int) ≤ (t : Int) := by omega
      have hk1 : (t : Int) < n := by omega
      have HT := Lib.hid hlt
      have HU := Lib.hid (Dk.units_take hyd)
      have HM := Lib.hid (Dk.units_mono d.done (t + 1))
      have hub := Dk.units_le hdo
      have hsum : Dk.allUnits (d.done.take t) + Dk.units y.1 ≤ 1099511627776000 := by have h1 := HU.out; have h2 := HM.out; have h3 := HAU.out; omega
      have hcu := rUnits y wr hyi hdo.data
      clear hce hyd hlt
      generalize hau : Dk.allUnits (d.done.take t) = m at hsum ⊢
      have HAT := Lib.hid hau
      clear hau
      go_wp2_with (first | go_skip | go_guarded | ((with_reducible refine dW ?_); refine wpList_load_at rfl 85 _ rfl STDid q (off + t * 4) rfl #[.int .i64 (y.1.kind : Int), strV y.1.name, strV y.2.1, y.2.2] HQ.out rfl ?_) | (go_at_call 54; (refine hcu.mono ?_); rintro e w5 ⟨rfl, hx5⟩))
      go_roundw
      case rel => exact ⟨t + 1, HT.out, by go_num, by rw [HU.out, HAT.out]; push_cast; rfl, hx.tr hx5⟩
      case measure => have := HT.out; simp [intOf]; omega
    · have hnl : ¬ ((t : Int) < n) := by omega
      have HE := Lib.hid (show Dk.allUnits (d.done.take t) = Dk.allUnits d.done by rw [List.take_of_length_le (by have := HND.out; omega)])
      rw [HE.out]
      have hgo := pick_ref k (Dk.allUnits d.done + 1) (by omega)
      have hpk : k % ((Dk.allUnits d.done + 1 : Nat) : Int) = (Dk.pick d k : Int) := by unfold Dk.pick; have h1 := Int.emod_nonneg k (b := (Dk.allUnits d.done : Int) + 1) (by omega); rw [show ((Dk.allUnits d.done + 1 : Nat) : Int) = (Dk.allUnits d.done : Int) + 1 by omega]; omega
      have HPL := Lib.hid (Dk.pick_le d k)
      have hau : Dk.allUnits d.done ≤ 1099511627776000 := by have := HAU.out; omega
      rw [hpk] at hgo
      have hpb : Dk.pick d k ≤ 1099511627776 * 1024 := by have := HPL.out; omega
      generalize Dk.allUnits d.done = m at hgo hau ⊢
      generalize hp0 : Dk.pick d k = p0 at hgo hpb
      have HP0 := Lib.hid hp0
      clear hp0 hpk HE ht
      obtain ⟨w0, hw0⟩ : ∃ z : World, z = wr := ⟨_, rfl⟩
      rw [← hw0] at hx b1 ⊢
      clear hw0
      rw [show ((m + 1 : Nat) : Int) = (m : Int) + 1 by omega] at hgo
      have htl := Int.lt_tmod_of_pos k (b := (m : Int) + 1) (by omega)
      have htu := Int.tmod_lt_of_pos k (b := (m : Int) + 1) (by omega)
      have hm0 : ((m : Int) + 1 == 0) = false := by simp; omega
      go_upto_region 6 with (first | go_skip | go_guarded)
      generalize k.tmod ((m : Int) + 1) = p9 at hgo htl htu ⊢
      clear hm0
      by_cases hng : p9 < 0
      · have hpe : p9 + (m : Int) + 1 = (p0 : Int) := by have := hgo.1 hng; omega
        go_upto_region 8 with (first | go_skip | go_guarded)
        clear hpe hgo htl htu hng
        have k0 : w0.cell? ⟨r, 0, none⟩ = some fv := (hB.e0 hx).cell 0
        rw [← HFV.out] at k0
        have hM0 := Dk.mid_zero hg p0
        have hF00 := (hF0.keep0 hx).mono (Ok' := (OkN w Ok)) (fun _ _ e => .inl e)
        clear b1
        go_upto_region 10 with (first | go_skip | go_guarded)
        clear k0
        go_loopw [6, 7, 8] (fun pv lv ki wr => ∃ t : Nat, t ≤ n ∧ ki = .int .i64 t ∧ ∃ (p : Nat) (F : Dk.Files) (A1 : Option Addr) (n1 c1 : Nat) (ys : List FileC), pv = .int .i64 (p : Int) ∧ p ≤ p0 ∧ Dk.Mid d p0 t F p ∧ lv = .slice A1 n1 c1 ∧ FilesAt wr (OkN w Ok) A1 n1 c1 ys ∧ ys.map (·.1) = F ∧ Ext Nothing w wr) (fun _ _ ki _ => n - (intOf ki).toNat)
        case atStart => exact ⟨0, Nat.zero_le _, rfl, p0, d.dur, A0, n0, c0, ys0, rfl, Nat.le_refl _, hM0, rfl, hF00, hy0, hx⟩
        case round =>
          clear hM0 hF00 hx
          clear hF0 hy0
          obtain ⟨t, ht, rfl, p, F, A1, n1, c1, ys, rfl, hpp, hM, rfl, hF, hys, hx⟩ := hrel
          have b1 : wr.cell? ⟨r, 1, none⟩ = some (.slice A n c) := (hB.e0 hx).cell 1
          have hfo := hM.ok
          have hyl : ys.length ≤ 64 := by have := hfo.few; rw [← hys, List.length_map] at this; exact this
          have hn1 : n1 < 33554432 := by rw [hF.sl.len]; omega
          have hpl : p ≤ 1099511627776 * 1024 := by omega
          by_cases hlt : t < n
          · by_cases hp : 0 < p
            · obtain ⟨hjn, q, off, hAe, hce⟩ := hsl.get hx hlt
              have hyd : d.done[t]? = some zs[t].1 := by rw [← hdn.out, List.getElem?_map, List.getElem?_eq_getElem hjn]; rfl
              have hyi := (h.dids _ (List.getElem_mem hjn)).keep hx Off.none
              generalize zs[t] = y at hce hyd hyi
              subst hAe
              have hdo := hg.did _ (List.mem_of_getElem? hyd)
              have hce : ∀ j u, (#[.int .i64 (y.1.kind : Int), strV y.1.name, strV y.2.1, y.2.2] : Array Value).toList[j]? = some u → wr.cell? ⟨q, off + t * 4 + j, none⟩ = some u := hce
              have HQ := Lib.hid hce
              have hk0 : (0 : Int) ≤ (t : Int) := by omega
              have hk1 : (t : Int) < n := by omega
              have HT := Lib.hid hlt
              have hrn : y.1.kind = 3 → Dk.find (ys.map (·.1)) y.1.name ≠ none := fun e => by rw [hys, hM.at_ hp]; exact hR t _ hyd e
              have hsz : ∀ z ∈ ys, z.1.2.length ≤ 1048576 := fun z hz => hfo.size _ (by rw [← hys]; exact List.mem_map_of_mem hz)
              have HST := Lib.hid (Dk.mid_step hg hM hyd hp)
              have hpi : (0 : Int) < (p : Int) := by omega
              obtain ⟨x, t9, dv⟩ := y
              obtain ⟨Ad, nd, cd, hdv, hsd, _⟩ := id hyi.data
              have hdv : dv = .slice Ad nd cd := hdv
              subst hdv
              dsimp only at HQ hrn
              have HYS := Lib.hid hys
              have hdl9 := hdo.data
              have HP := Lib.hid hp
              have hub := Dk.units_le hdo
              clear hce hyd hlt hys hp hM hfo
              go_upto_region 13 with (first | go_skip | go_guarded | ((with_reducible refine dW ?_); refine wpList_load_at rfl 85 _ rfl STDid q (off + t * 4) rfl #[.int .i64 (x.kind : Int), strV x.name, strV t9, .slice Ad nd cd] HQ.out rfl ?_) | ((with_reducible refine dW ?_); refine wpList_store_blk rfl 85 _ _ rfl STDid wr.heap.size rfl #[.int .i64 (x.kind : Int), strV x.name, strV t9, .slice Ad nd cd] rfl (show Blk _ _ 85 _ from Blk.new wr _ _) rfl rfl rfl ?_; intro w4 hB4 hx4))
              go_frame
              have hx4 : Ext Nothing wr w4 := (show Ext Nothing wr _ from Ext.auto).trans hx4 (fun g hg e => absurd (show g = wr.heap.size from e) (by omega))
              obtain ⟨V, hV⟩ : ∃ z, z = wr.heap.size := ⟨_, rfl⟩
              have HV := Lib.hid hV
              rw [← hV] at hB4 ⊢
              clear hV
              have hyi4 := hyi.keep hx4 Off.none
              have hcu := rUnits (x, (t9, .slice Ad nd cd)) w4 hyi4 hdl9
              dsimp only at hcu
              go_upto_region 14 with (first | go_skip | go_guarded | ((with_reducible refine dW ?_); refine wpList_load_blk rfl 85 _ rfl STDid V rfl #[.int .i64 (x.kind : Int), strV x.name, strV t9, .slice Ad nd cd] hB4 rfl ?_) | (go_at_call 54; (refine hcu.mono ?_); rintro e w5 ⟨rfl, hx5⟩))
              have hB5 := hB4.e0 hx5
              have hx45 := hx4.tr hx5
              have hx05 := hx.tr hx45
              have hF5 := hF.keep0 hx45
              have hyi5 := (hyi.keep hx45 Off.none).mono (Ok' := (OkN w Ok)) (fun _ _ e => .inl e)
              clear hx4 hx5 hcu hyi4 hB4 hyi HQ
              generalize hu : Dk.units x = u at hub HST ⊢
              by_cases hup : u ≤ p
              · have hui : ¬ ((p : Int) < (u : Int)) := by omega
                have HU := Lib.hid hu
                have HUP := Lib.hid hup
                have hsub : (p : Int) - (u : Int) = ((p - u : Nat) : Int) := by omega
                clear hu hup
                have hcd := rDoes A1 n1 c1 ys (x, (t9, .slice Ad nd cd)) w5 hF5 hn1 hyi5 hdo.kind hdl9 hsz hrn
                dsimp only at hcd
                go_wp2_with (first | go_skip | go_guarded | ((with_reducible refine dW ?_); refine wpList_load_blk rfl 85 _ rfl STDid V rfl #[.int .i64 (x.kind : Int), strV x.name, strV t9, .slice Ad nd cd] hB5 rfl ?_) | (go_at_call 55; (refine hcd.mono ?_); rintro e w8 ⟨v8, rfl, ⟨A8, n8, c8, ys8, rfl, hF8, hy8⟩, hx8⟩))
                go_roundw
                case rel => exact ⟨t + 1, HT.out, by go_num, p - u, Dk.does F x, A8, n8, c8, ys8, by rw [← hsub], by omega, by have h9 := HST.out; rw [Nat.min_eq_right HUP.out] at h9; rw [← HU.out, Dk.doesP_all] at h9; rw [← HU.out]; exact h9, rfl, hF8.mono (fun _ _ e => okn_mono hx05.size e), by rw [hy8, HYS.out], hx05.tr hx8⟩
                case measure => have := HT.out; simp [intOf]; omega
              · have hui : (p : Int) < (u : Int) := by omega
                have hk9 : x.kind = 0 := by unfold Dk.units at hu; split at hu; (rename_i e; exact e.1); have := HP.out; omega
                have hu9 : u = x.data.length := by unfold Dk.units at hu; split at hu; exact hu.symm; have := HP.out; omega
                have hndx : nd = x.data.length := by have := hsd.1.1; simpa using this
                have hpn : p ≤ nd := by omega
                have HU := Lib.hid hu
                have HUP := Lib.hid hup
                have HK9 := Lib.hid hk9
                obtain ⟨Ad2, nd2, cd2, hdv2, ⟨hsd2, hnc2⟩, hbl2⟩ := id hyi5.data
                have hdv2 : Value.slice Ad nd cd = .slice Ad2 nd2 cd2 := hdv2
                injection hdv2 with i1 i2 i3
                subst i1 i2 i3
                have hsd2 : Sl w5 1 Ad nd (x.data.map bCell) := hsd2
                have had : Ad = none ∨ ∃ b o, Ad = some ⟨b, o, none⟩ := by obtain ⟨_, b, o, e, _⟩ := hsd2.get (Ext.refl _ _) (k := 0) (by have := HP.out; omega); exact .inr ⟨b, o, e⟩
                obtain ⟨hh, hsh⟩ := slice_head (c := cd) hsd2 had p hpn hnc2 Tryd.underlying29 Tryd.sizeOf5
                rw [← List.map_take] at hsh
                have hb7 : BytesV w5 (OkN w Ok) (.slice Ad p cd) (x.data.take p) := ⟨Ad, p, cd, rfl, ⟨hsh, by omega⟩, fun b hb hne => hbl2 b hb (fun e => hne (by have e : x.data = [] := e; rw [e]; simp))⟩
                have g3 : w5.cell? ⟨V, 3, none⟩ = some (.slice Ad nd cd) := hB5.cell 3
                have f3 : w5.frozen? ⟨V, 3, none⟩ = false := hB5.frozen 3
                clear hu hup hsd hsd2 hsh had hbl2 hk9
                go_upto_region 17 with (first | go_skip | go_guarded)
                have hs6 : Ext (fun q => q = V) w5 (w5.setCell ⟨V, 3, none⟩ (.slice Ad p cd)) := Ext.set1 _ _ _ _
                have hB6 : Blk (w5.setCell ⟨V, 3, none⟩ (.slice Ad p cd)) V 85 #[.int .i64 (x.kind : Int), strV x.name, strV t9, .slice Ad p cd] := hB5.set_ 3 (.slice Ad p cd)
                have hx46 : Ext Nothing wr (w5.setCell ⟨V, 3, none⟩ (.slice Ad p cd)) := hx45.trans hs6 (fun q hq e => by have e : q = V := e; have := HV.out; omega)
                have hF6 := hF.keep0 hx46
                have hx06 := hx.tr hx46
                have hb6 := hb7.keep hs6 (fun q cs e hq => by have e : q = V := e; subst e; exact absurd rfl (Blk.ne hB5 hq (by decide)))
                have hlt9 : (x.data.take p).length ≤ 1048576 := by rw [List.length_take]; omega
                have hcd := rDoes A1 n1 c1 ys ({ x with data := x.data.take p }, (t9, .slice Ad p cd)) _ hF6 hn1 ⟨hb6, hyi5.to_⟩ hdo.kind hlt9 hsz hrn
                dsimp only at hcd
                clear hs6 hB5 hF5 hyi5 hb7 hb6 g3 f3 hh hx05 hx45 hF
                generalize w5.setCell ⟨V, 3, none⟩ (.slice Ad p cd) = w6 at hB6 hcd hx46 hx06 hF6 ⊢
                go_wp2_with (first | go_skip | go_guarded | ((with_reducible refine dW ?_); refine wpList_load_blk rfl 85 _ rfl STDid V rfl #[.int .i64 (x.kind : Int), strV x.name, strV t9, .slice Ad p cd] hB6 rfl ?_) | (go_at_call 55; (refine hcd.mono ?_); rintro e w8 ⟨v8, rfl, ⟨A8, n8, c8, ys8, rfl, hF8, hy8⟩, hx8⟩))
                go_roundw
                case rel => exact ⟨t + 1, HT.out, by go_num, 0, Dk.does F { x with data := x.data.take p }, A8, n8, c8, ys8, rfl, Nat.zero_le _, by have h9 := HST.out; rw [Nat.min_eq_left (by have := HUP.out; omega), Nat.sub_self, Dk.doesP_torn F x HP.out (by rw [HU.out]; exact HUP.out)] at h9; exact h9, rfl, hF8.mono (fun _ _ e => okn_mono hx06.size e), by rw [hy8, HYS.out], hx06.tr hx8⟩
                case measure => have := HT.out; simp [intOf]; omega
            · have hp0 : p = 0 := by omega
              subst hp0
              have hk1 : (t : Int) < n := by omega
              clear hp
              have HE := Lib.hid (Dk.mid_end hM (.inl rfl))
              have h2 := h.keep0 hx
              have k0 : wr.cell? ⟨r, 0, none⟩ = some fv := h2.blk.cell 0
              have f0 : wr.frozen? ⟨r, 0, none⟩ = false := h2.blk.frozen 0
              have f1 : wr.frozen? ⟨r, 1, none⟩ = false := h2.blk.frozen 1
              have k2 : wr.cell? ⟨r, 2, none⟩ = some (.int .i64 d.left) := h2.blk.cell 2
              have f2 : wr.frozen? ⟨r, 2, none⟩ = false := h2.blk.frozen 2
              go_wp2_with (first | go_skip | go_guarded)
              go_end0
              have hx4 : Ext (fun q => q = r) wr (((wr.setCell ⟨r, 0, none⟩ (.slice A1 n1 c1)).setCell ⟨r, 1, none⟩ (.slice none 0 0)).setCell ⟨r, 2, none⟩ (.int .i64 (-1))) := ((Ext.set1 wr r 0 _).trans (Ext.set1 _ r 1 _) (fun _ _ e => e)).trans (Ext.set1 _ r 2 _) (fun _ _ e => e)
              have hB4 := ((h2.blk.set_ 0 (.slice A1 n1 c1)).set_ 1 (.slice none 0 0)).set_ 2 (.int .i64 (-1))
              have hA4 : RefAt (((wr.setCell ⟨r, 0, none⟩ (.slice A1 n1 c1)).setCell ⟨r, 1, none⟩ (.slice none 0 0)).setCell ⟨r, 2, none⟩ (.int .i64 (-1))) (OkN w Ok) r (.slice A1 n1 c1) none 0 0 [] (d.crash k) := RefAt.set h2.blk hx4 hB4 ⟨A1, n1, c1, ys, rfl, hF, by rw [hys]; show F = Dk.torn d.dur d.done (Dk.pick d k); rw [HP0.out]; exact HE.out.symm⟩ (World.ownsRow_nil _ _ _ _) rfl rfl (by simp) (by simp [Dk.DiskD.crash])
              exact ⟨rfl, ⟨_, _, _, _, _, hA4⟩, (hx.mono (fun _ _ e => e.elim) : Ext (RdB r w) w wr).trans hx4 (fun q hq e => by have e : q = r := e; subst e; exact ⟨Nat.le_refl _, .inl ⟨_, h.blk⟩⟩)⟩
          · have hnl : ¬ ((t : Int) < n) := by omega
            have HE := Lib.hid (Dk.mid_end hM (.inr (by have := HND.out; omega)))
            have h2 := h.keep0 hx
            have k0 : wr.cell? ⟨r, 0, none⟩ = some fv := h2.blk.cell 0
            have f0 : wr.frozen? ⟨r, 0, none⟩ = false := h2.blk.frozen 0
            have f1 : wr.frozen? ⟨r, 1, none⟩ = false := h2.blk.frozen 1
            have k2 : wr.cell? ⟨r, 2, none⟩ = some (.int .i64 d.left) := h2.blk.cell 2
            have f2 : wr.frozen? ⟨r, 2, none⟩ = false := h2.blk.frozen 2
            go_wp2_with (first | go_skip | go_guarded)
            go_end0
            have hx4 : Ext (fun q => q = r) wr (((wr.setCell ⟨r, 0, none⟩ (.slice A1 n1 c1)).setCell ⟨r, 1, none⟩ (.slice none 0 0)).setCell ⟨r, 2, none⟩ (.int .i64 (-1))) := ((Ext.set1 wr r 0 _).trans (Ext.set1 _ r 1 _) (fun _ _ e => e)).trans (Ext.set1 _ r 2 _) (fun _ _ e => e)
            have hB4 := ((h2.blk.set_ 0 (.slice A1 n1 c1)).set_ 1 (.slice none 0 0)).set_ 2 (.int .i64 (-1))
            have hA4 : RefAt (((wr.setCell ⟨r, 0, none⟩ (.slice A1 n1 c1)).setCell ⟨r, 1, none⟩ (.slice none 0 0)).setCell ⟨r, 2, none⟩ (.int .i64 (-1))) (OkN w Ok) r (.slice A1 n1 c1) none 0 0 [] (d.crash k) := RefAt.set h2.blk hx4 hB4 ⟨A1, n1, c1, ys, rfl, hF, by rw [hys]; show F = Dk.torn d.dur d.done (Dk.pick d k); rw [HP0.out]; exact HE.out.symm⟩ (World.ownsRow_nil _ _ _ _) rfl rfl (by simp) (by simp [Dk.DiskD.crash])
            exact ⟨rfl, ⟨_, _, _, _, _, hA4⟩, (hx.mono (fun _ _ e => e.elim) : Ext (RdB r w) w wr).trans hx4 (fun q hq e => by have e : q = r := e; subst e; exact ⟨Nat.le_refl _, .inl ⟨_, h.blk⟩⟩)⟩
      · obtain rfl : p9 = (p0 : Int) := hgo.2 hng
        have hpz : (0 : Int) ≤ (p0 : Int) := by omega
        go_upto_region 8 with (first | go_skip | go_guarded)
        clear hgo htl htu hng
        have k0 : w0.cell? ⟨r, 0, none⟩ = some fv := (hB.e0 hx).cell 0
        rw [← HFV.out] at k0
        have hM0 := Dk.mid_zero hg p0
        have hF00 := (hF0.keep0 hx).mono (Ok' := (OkN w Ok)) (fun _ _ e => .inl e)
        clear b1
        go_upto_region 10 with (first | go_skip | go_guarded)
        clear k0
        go_loopw [6, 7, 8] (fun pv lv ki wr => ∃ t : Nat, t ≤ n ∧ ki = .int .i64 t ∧ ∃ (p : Nat) (F : Dk.Files) (A1 : Option Addr) (n1 c1 : Nat) (ys : List FileC), pv = .int .i64 (p : Int) ∧ p ≤ p0 ∧ Dk.Mid d p0 t F p ∧ lv = .slice A1 n1 c1 ∧ FilesAt wr (OkN w Ok) A1 n1 c1 ys ∧ ys.map (·.1) = F ∧ Ext Nothing w wr) (fun _ _ ki _ => n - (intOf ki).toNat)
        case atStart => exact ⟨0, Nat.zero_le _, rfl, p0, d.dur, A0, n0, c0, ys0, rfl, Nat.le_refl _, hM0, rfl, hF00, hy0, hx⟩
        case round =>
          clear hM0 hF00 hx
          clear hF0 hy0
          obtain ⟨t, ht, rfl, p, F, A1, n1, c1, ys, rfl, hpp, hM, rfl, hF, hys, hx⟩ := hrel
          have b1 : wr.cell? ⟨r, 1, none⟩ = some (.slice A n c) := (hB.e0 hx).cell 1
          have hfo := hM.ok
          have hyl : ys.length ≤ 64 := by have := hfo.few; rw [← hys, List.length_map] at this; exact this
          have hn1 : n1 < 33554432 := by rw [hF.sl.len]; omega
          have hpl : p ≤ 1099511627776 * 1024 := by omega
          by_cases hlt : t < n
          · by_cases hp : 0 < p
            · obtain ⟨hjn, q, off, hAe, hce⟩ := hsl.get hx hlt
              have hyd : d.done[t]? = some zs[t].1 := by rw [← hdn.out, List.getElem?_map, List.getElem?_eq_getElem hjn]; rfl
              have hyi := (h.dids _ (List.getElem_mem hjn)).keep hx Off.none
              generalize zs[t] = y at hce hyd hyi
              subst hAe
              have hdo := hg.did _ (List.mem_of_getElem? hyd)
              have hce : ∀ j u, (#[.int .i64 (y.1.kind : Int), strV y.1.name, strV y.2.1, y.2.2] : Array Value).toList[j]? = some u → wr.cell? ⟨q, off + t * 4 + j, none⟩ = some u := hce
              have HQ := Lib.hid hce
              have hk0 : (0 : Int) ≤ (t : Int) := by omega
              have hk1 : (t : Int) < n := by omega
              have HT := Lib.hid hlt
              have hrn : y.1.kind = 3 → Dk.find (ys.map (·.1)) y.1.name ≠ none := fun e => by rw [hys, hM.at_ hp]; exact hR t _ hyd e
              have hsz : ∀ z ∈ ys, z.1.2.length ≤ 1048576 := fun z hz => hfo.size _ (by rw [← hys]; exact List.mem_map_of_mem hz)
              have HST := Lib.hid (Dk.mid_step hg hM hyd hp)
              have hpi : (0 : Int) < (p : Int) := by omega
              obtain ⟨x, t9, dv⟩ := y
              obtain ⟨Ad, nd, cd, hdv, hsd, _⟩ := id hyi.data
              have hdv : dv = .slice Ad nd cd := hdv
              subst hdv
              dsimp only at HQ hrn
              have HYS := Lib.hid hys
              have hdl9 := hdo.data
              have HP := Lib.hid hp
              have hub := Dk.units_le hdo
              clear hce hyd hlt hys hp hM hfo
              go_upto_region 13 with (first | go_skip | go_guarded | ((with_reducible refine dW ?_); refine wpList_load_at rfl 85 _ rfl STDid q (off + t * 4) rfl #[.int .i64 (x.kind : Int), strV x.name, strV t9, .slice Ad nd cd] HQ.out rfl ?_) | ((with_reducible refine dW ?_); refine wpList_store_blk rfl 85 _ _ rfl STDid wr.heap.size rfl #[.int .i64 (x.kind : Int), strV x.name, strV t9, .slice Ad nd cd] rfl (show Blk _ _ 85 _ from Blk.new wr _ _) rfl rfl rfl ?_; intro w4 hB4 hx4))
              go_frame
              have hx4 : Ext Nothing wr w4 := (show Ext Nothing wr _ from Ext.auto).trans hx4 (fun g hg e => absurd (show g = wr.heap.size from e) (by omega))
              obtain ⟨V, hV⟩ : ∃ z, z = wr.heap.size := ⟨_, rfl⟩
              have HV := Lib.hid hV
              rw [← hV] at hB4 ⊢
              clear hV
              have hyi4 := hyi.keep hx4 Off.none
              have hcu := rUnits (x, (t9, .slice Ad nd cd)) w4 hyi4 hdl9
              dsimp only at hcu
              go_upto_region 14 with (first | go_skip | go_guarded | ((with_reducible refine dW ?_); refine wpList_load_blk rfl 85 _ rfl STDid V rfl #[.int .i64 (x.kind : Int), strV x.name, strV t9, .slice Ad nd cd] hB4 rfl ?_) | (go_at_call 54; (refine hcu.mono ?_); rintro e w5 ⟨rfl, hx5⟩))
              have hB5 := hB4.e0 hx5
              have hx45 := hx4.tr hx5
              have hx05 := hx.tr hx45
              have hF5 := hF.keep0 hx45
              have hyi5 := (hyi.keep hx45 Off.none).mono (Ok' := (OkN w Ok)) (fun _ _ e => .inl e)
              clear hx4 hx5 hcu hyi4 hB4 hyi HQ
              generalize hu : Dk.units x = u at hub HST ⊢
              by_cases hup : u ≤ p
              · have hui : ¬ ((p : Int) < (u : Int)) := by omega
                have HU := Lib.hid hu
                have HUP := Lib.hid hup
                have hsub : (p : Int) - (u : Int) = ((p - u : Nat) : Int) := by omega
                clear hu hup
                have hcd := rDoes A1 n1 c1 ys (x, (t9, .slice Ad nd cd)) w5 hF5 hn1 hyi5 hdo.kind hdl9 hsz hrn
                dsimp only at hcd
                go_wp2_with (first | go_skip | go_guarded | ((with_reducible refine dW ?_); refine wpList_load_blk rfl 85 _ rfl STDid V rfl #[.int .i64 (x.kind : Int), strV x.name, strV t9, .slice Ad nd cd] hB5 rfl ?_) | (go_at_call 55; (refine hcd.mono ?_); rintro e w8 ⟨v8, rfl, ⟨A8, n8, c8, ys8, rfl, hF8, hy8⟩, hx8⟩))
                go_roundw
                case rel => exact ⟨t + 1, HT.out, by go_num, p - u, Dk.does F x, A8, n8, c8, ys8, by rw [← hsub], by omega, by have h9 := HST.out; rw [Nat.min_eq_right HUP.out] at h9; rw [← HU.out, Dk.doesP_all] at h9; rw [← HU.out]; exact h9, rfl, hF8.mono (fun _ _ e => okn_mono hx05.size e), by rw [hy8, HYS.out], hx05.tr hx8⟩
                case measure => have := HT.out; simp [intOf]; omega
              · have hui : (p : Int) < (u : Int) := by omega
                have hk9 : x.kind = 0 := by unfold Dk.units at hu; split at hu; (rename_i e; exact e.1); have := HP.out; omega
                have hu9 : u = x.data.length := by unfold Dk.units at hu; split at hu; exact hu.symm; have := HP.out; omega
                have hndx : nd = x.data.length := by have := hsd.1.1; simpa using this
                have hpn : p ≤ nd := by omega
                have HU := Lib.hid hu
                have HUP := Lib.hid hup
                have HK9 := Lib.hid hk9
                obtain ⟨Ad2, nd2, cd2, hdv2, ⟨hsd2, hnc2⟩, hbl2⟩ := id hyi5.data
                have hdv2 : Value.slice Ad nd cd = .slice Ad2 nd2 cd2 := hdv2
                injection hdv2 with i1 i2 i3
                subst i1 i2 i3
                have hsd2 : Sl w5 1 Ad nd (x.data.map bCell) := hsd2
                have had : Ad = none ∨ ∃ b o, Ad = some ⟨b, o, none⟩ := by obtain ⟨_, b, o, e, _⟩ := hsd2.get (Ext.refl _ _) (k := 0) (by have := HP.out; omega); exact .inr ⟨b, o, e⟩
                obtain ⟨hh, hsh⟩ := slice_head (c := cd) hsd2 had p hpn hnc2 Tryd.underlying29 Tryd.sizeOf5
                rw [← List.map_take] at hsh
                have hb7 : BytesV w5 (OkN w Ok) (.slice Ad p cd) (x.data.take p) := ⟨Ad, p, cd, rfl, ⟨hsh, by omega⟩, fun b hb hne => hbl2 b hb (fun e => hne (by have e : x.data = [] := e; rw [e]; simp))⟩
                have g3 : w5.cell? ⟨V, 3, none⟩ = some (.slice Ad nd cd) := hB5.cell 3
                have f3 : w5.frozen? ⟨V, 3, none⟩ = false := hB5.frozen 3
                clear hu hup hsd hsd2 hsh had hbl2 hk9
                go_upto_region 17 with (first | go_skip | go_guarded)
                have hs6 : Ext (fun q => q = V) w5 (w5.setCell ⟨V, 3, none⟩ (.slice Ad p cd)) := Ext.set1 _ _ _ _
                have hB6 : Blk (w5.setCell ⟨V, 3, none⟩ (.slice Ad p cd)) V 85 #[.int .i64 (x.kind : Int), strV x.name, strV t9, .slice Ad p cd] := hB5.set_ 3 (.slice Ad p cd)
                have hx46 : Ext Nothing wr (w5.setCell ⟨V, 3, none⟩ (.slice Ad p cd)) := hx45.trans hs6 (fun q hq e => by have e : q = V := e; have := HV.out; omega)
                have hF6 := hF.keep0 hx46
                have hx06 := hx.tr hx46
                have hb6 := hb7.keep hs6 (fun q cs e hq => by have e : q = V := e; subst e; exact absurd rfl (Blk.ne hB5 hq (by decide)))
                have hlt9 : (x.data.take p).length ≤ 1048576 := by rw [List.length_take]; omega
                have hcd := rDoes A1 n1 c1 ys ({ x with data := x.data.take p }, (t9, .slice Ad p cd)) _ hF6 hn1 ⟨hb6, hyi5.to_⟩ hdo.kind hlt9 hsz hrn
                dsimp only at hcd
                clear hs6 hB5 hF5 hyi5 hb7 hb6 g3 f3 hh hx05 hx45 hF
                generalize w5.setCell ⟨V, 3, none⟩ (.slice Ad p cd) = w6 at hB6 hcd hx46 hx06 hF6 ⊢
                go_wp2_with (first | go_skip | go_guarded | ((with_reducible refine dW ?_); refine wpList_load_blk rfl 85 _ rfl STDid V rfl #[.int .i64 (x.kind : Int), strV x.name, strV t9, .slice Ad p cd] hB6 rfl ?_) | (go_at_call 55; (refine hcd.mono ?_); rintro e w8 ⟨v8, rfl, ⟨A8, n8, c8, ys8, rfl, hF8, hy8⟩, hx8⟩))
                go_roundw
                case rel => exact ⟨t + 1, HT.out, by go_num, 0, Dk.does F { x with data := x.data.take p }, A8, n8, c8, ys8, rfl, Nat.zero_le _, by have h9 := HST.out; rw [Nat.min_eq_left (by have := HUP.out; omega), Nat.sub_self, Dk.doesP_torn F x HP.out (by rw [HU.out]; exact HUP.out)] at h9; exact h9, rfl, hF8.mono (fun _ _ e => okn_mono hx06.size e), by rw [hy8, HYS.out], hx06.tr hx8⟩
                case measure => have := HT.out; simp [intOf]; omega
            · have hp0 : p = 0 := by omega
              subst hp0
              have hk1 : (t : Int) < n := by omega
              clear hp
              have HE := Lib.hid (Dk.mid_end hM (.inl rfl))
              have h2 := h.keep0 hx
              have k0 : wr.cell? ⟨r, 0, none⟩ = some fv := h2.blk.cell 0
              have f0 : wr.frozen? ⟨r, 0, none⟩ = false := h2.blk.frozen 0
              have f1 : wr.frozen? ⟨r, 1, none⟩ = false := h2.blk.frozen 1
              have k2 : wr.cell? ⟨r, 2, none⟩ = some (.int .i64 d.left) := h2.blk.cell 2
              have f2 : wr.frozen? ⟨r, 2, none⟩ = false := h2.blk.frozen 2
              go_wp2_with (first | go_skip | go_guarded)
              go_end0
              have hx4 : Ext (fun q => q = r) wr (((wr.setCell ⟨r, 0, none⟩ (.slice A1 n1 c1)).setCell ⟨r, 1, none⟩ (.slice none 0 0)).setCell ⟨r, 2, none⟩ (.int .i64 (-1))) := ((Ext.set1 wr r 0 _).trans (Ext.set1 _ r 1 _) (fun _ _ e => e)).trans (Ext.set1 _ r 2 _) (fun _ _ e => e)
              have hB4 := ((h2.blk.set_ 0 (.slice A1 n1 c1)).set_ 1 (.slice none 0 0)).set_ 2 (.int .i64 (-1))
              have hA4 : RefAt (((wr.setCell ⟨r, 0, none⟩ (.slice A1 n1 c1)).setCell ⟨r, 1, none⟩ (.slice none 0 0)).setCell ⟨r, 2, none⟩ (.int .i64 (-1))) (OkN w Ok) r (.slice A1 n1 c1) none 0 0 [] (d.crash k) := RefAt.set h2.blk hx4 hB4 ⟨A1, n1, c1, ys, rfl, hF, by rw [hys]; show F = Dk.torn d.dur d.done (Dk.pick d k); rw [HP0.out]; exact HE.out.symm⟩ (World.ownsRow_nil _ _ _ _) rfl rfl (by simp) (by simp [Dk.DiskD.crash])
              exact ⟨rfl, ⟨_, _, _, _, _, hA4⟩, (hx.mono (fun _ _ e => e.elim) : Ext (RdB r w) w wr).trans hx4 (fun q hq e => by have e : q = r := e; subst e; exact ⟨Nat.le_refl _, .inl ⟨_, h.blk⟩⟩)⟩
          · have hnl : ¬ ((t : Int) < n) := by omega
            have HE := Lib.hid (Dk.mid_end hM (.inr (by have := HND.out; omega)))
            have h2 := h.keep0 hx
            have k0 : wr.cell? ⟨r, 0, none⟩ = some fv := h2.blk.cell 0
            have f0 : wr.frozen? ⟨r, 0, none⟩ = false := h2.blk.frozen 0
            have f1 : wr.frozen? ⟨r, 1, none⟩ = false := h2.blk.frozen 1
            have k2 : wr.cell? ⟨r, 2, none⟩ = some (.int .i64 d.left) := h2.blk.cell 2
            have f2 : wr.frozen? ⟨r, 2, none⟩ = false := h2.blk.frozen 2
            go_wp2_with (first | go_skip | go_guarded)
            go_end0
            have hx4 : Ext (fun q => q = r) wr (((wr.setCell ⟨r, 0, none⟩ (.slice A1 n1 c1)).setCell ⟨r, 1, none⟩ (.slice none 0 0)).setCell ⟨r, 2, none⟩ (.int .i64 (-1))) := ((Ext.set1 wr r 0 _).trans (Ext.set1 _ r 1 _) (fun _ _ e => e)).trans (Ext.set1 _ r 2 _) (fun _ _ e => e)
            have hB4 := ((h2.blk.set_ 0 (.slice A1 n1 c1)).set_ 1 (.slice none 0 0)).set_ 2 (.int .i64 (-1))
            have hA4 : RefAt (((wr.setCell ⟨r, 0, none⟩ (.slice A1 n1 c1)).setCell ⟨r, 1, none⟩ (.slice none 0 0)).setCell ⟨r, 2, none⟩ (.int .i64 (-1))) (OkN w Ok) r (.slice A1 n1 c1) none 0 0 [] (d.crash k) := RefAt.set h2.blk hx4 hB4 ⟨A1, n1, c1, ys, rfl, hF, by rw [hys]; show F = Dk.torn d.dur d.done (Dk.pick d k); rw [HP0.out]; exact HE.out.symm⟩ (World.ownsRow_nil _ _ _ _) rfl rfl (by simp) (by simp [Dk.DiskD.crash])
            exact ⟨rfl, ⟨_, _, _, _, _, hA4⟩, (hx.mono (fun _ _ e => e.elim) : Ext (RdB r w) w wr).trans hx4 (fun q hq e => by have e : q = r := e; subst e; exact ⟨Nat.le_refl _, .inl ⟨_, h.blk⟩⟩)⟩
end Go.Proofs.YtlfpfhdagkkliaaDoor
