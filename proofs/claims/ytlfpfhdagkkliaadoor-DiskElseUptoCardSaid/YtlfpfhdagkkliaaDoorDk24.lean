/- DiskElse: what is done to one file changes no other one. (printed by wip/gen/rdlaws.py) -/
import Derived.Test.YtlfpfhdagkkliaaDoorRd12
namespace Go.Proofs.YtlfpfhdagkkliaaDoor
set_option linter.unusedVariables false
set_option linter.unusedSimpArgs false
open Go.RowKit

theorem SBB : SliceT Tryd.prog 47 29 1 := .of (by kernel_rfl)

set_option maxRecDepth 20000 in
set_option maxHeartbeats 16000000 in
theorem else_law (B : Option Addr) (q cq : Nat) (xs : List OpC) (x : OpC) (w : World) (hsl : Sl w 5 B q (xs.map OpC.cells)) (hq : q ≤ 1048576) (hops : ∀ x ∈ xs, x.Read w) (hx0 : x.Read w) :
    Calls Tryd.prog 7 #[.slice B q cq, .agg #[.int .i64 x.kind, strV x.name, strV x.to_, .slice x.A x.m x.c, .int .i64 x.n]] w fun e w' => e = .returned (.bool true) ∧ Ext Nothing w w' := by
  obtain ⟨kx, sx, tx, dx, nx, Ax, mx, cx⟩ := x
  dsimp only
  go_enter Tryd.func7, Tryd.ntmps7
  go_upto_region 1 with (first | go_skip | go_guarded)
  have hx00 : Ext Nothing w (w.alloc (.cells #[.int .i64 kx, strV sx, strV tx, .slice Ax mx cx, .int .i64 nx] 31)) := Ext.auto
  have hB0 : Blk (w.alloc (.cells #[.int .i64 kx, strV sx, strV tx, .slice Ax mx cx, .int .i64 nx] 31)) w.heap.size 31 #[.int .i64 kx, strV sx, strV tx, .slice Ax mx cx, .int .i64 nx] := Blk.new _ _ _
  obtain ⟨V, hV⟩ : ∃ z, z = w.heap.size := ⟨_, rfl⟩
  rw [← hV] at hB0 ⊢
  clear hV
  generalize hW0 : w.alloc (.cells #[.int .i64 kx, strV sx, strV tx, .slice Ax mx cx, .int .i64 nx] 31) = w0 at hx00 hB0 ⊢
  clear hW0
  go_upto_region 2 with (first | go_skip | go_guarded | (go_at_call 9; (with_reducible refine (dkNew w0 (fun _ => True)).mono ?_); rintro e w1 ⟨b, rfl, h1, hbw0, hx1⟩))
  have hbw : w.heap.size + 2 ≤ b := by have := hx00.size; omega
  go_upto_region 3 with (first | go_skip | go_guarded | (go_at_call 10; (with_reducible refine (rNew w1 (fun _ => True)).mono ?_); rintro e w2 ⟨r, rfl, h2, hrw, hx2⟩))
  have hrw0 : w.heap.size ≤ r := by have := (hx00.tr hx1).size; omega
  go_upto_region 6 with (first | go_skip | go_guarded | (go_at_call 11; (with_reducible refine (lawKnown w2).mono ?_); rintro e w3 ⟨rfl, hx3⟩))
  have hI0 := (Law.new hbw h1 (hx00.tr hx1) hx2 h2).keep0 hx3
  have hB3 := ((hB0.e0 hx1).e0 hx2).e0 hx3
  clear h1 h2 hx1 hx2 hx3 hrw hx00 hB0
  go_loopw [7] (fun ki wr => ∃ t : Nat, t ≤ q ∧ ki = .int .i64 t ∧ (∃ (d : Dk.DiskD) (Ok : Nat → Prop), Law w wr Ok b r t d d) ∧ Blk wr V 31 #[.int .i64 kx, strV sx, strV tx, .slice Ax mx cx, .int .i64 nx]) (fun ki _ => q - (intOf ki).toNat)
  case atStart => exact ⟨0, Nat.zero_le _, rfl, ⟨Dk.new, _, hI0⟩, hB3⟩
  case round =>
    clear hI0 hB3
    obtain ⟨t, ht, rfl, ⟨d, Ok, hI⟩, hB⟩ := hrel
    by_cases hlt : t < q
    · obtain ⟨hjn, p, off, hAe, hce⟩ := hsl.get hI.ext hlt
      have hrw := hops _ (List.getElem_mem hjn)
      generalize xs[t] = x at hce hrw
      obtain ⟨kd, s, tt, data, nn, A, m, c⟩ := x
      subst hAe
      have HT := Lib.hid hlt
      have hk0 : (0 : Int) ≤ (t : Int) := by omega
      have hce : ∀ j u, (#[.int .i64 kd, strV s, strV tt, .slice A m c, .int .i64 nn] : Array Value).toList[j]? = some u → wr.cell? ⟨p, off + t * 5 + j, none⟩ = some u := hce
      have HQ := Lib.hid hce
      have hcd := lawDoes ⟨kd, s, tt, data, nn, A, m, c⟩ wr hI.both (by have := hI.done; omega) (by have := hI.done2; omega) (hI.reads hbw hrw0 hrw)
      dsimp only at hcd
      have hk1 : (t : Int) < q := by omega
      clear hce hlt
      go_wp2_with (first | go_skip | go_guarded | ((with_reducible refine dW ?_); refine wpList_load_at rfl 31 _ rfl STOp p (off + t * 5) rfl #[.int .i64 kd, strV s, strV tt, .slice A m c, .int .i64 nn] HQ.out rfl ?_) | (go_at_call 12; (refine hcd.mono ?_); rintro e w4 ⟨v9, rfl, ⟨vb, rfl, hvb⟩, hO4, hx4⟩))
      have hI5 := hI.step hbw hrw0 hO4 hx4
      have hB5 := hB.ext hx4 (fun e => BoB.ty hB (by decide) (by decide) (by decide) (by decide) e)
      go_roundw
      case rel => exact ⟨t + 1, HT.out, by go_num, ⟨_, _, hI5⟩, hB5⟩
      case measure => have := HT.out; simp [intOf]; omega
    · have hnl : ¬ ((t : Int) < q) := by omega
      have hg := hI.both.good
      have hnl64 : d.list.length ≤ 64 := by unfold Dk.DiskD.list; rw [List.length_map]; exact hg.files.few
      have hD := hI.both.disk
      go_upto_region 10 with (first | go_skip | go_guarded | (go_at_call 22; (with_reducible refine (dkList wr hD hg).mono ?_); rintro e w5 ⟨v5, rfl, ho5, hx5⟩; obtain ⟨A5, c5, rfl⟩ := own_slice ho5))
      have hs5 := row_sl ho5 rfl
      have hI5 := hI.keep0 hx5
      have hB5 := hB.e0 hx5
      have ht9 : t ≤ q := ht
      clear hI hB hx5 hD
      generalize hnn : d.list.length = n at hs5 ho5 hnl64 ⊢
      have HNN := Lib.hid hnn
      clear hnn
      have hlr : ∀ u, u ∈ d.list → (d.read u).2 = 0 ∧ u.length ≤ maxLen := fun u hu => list_read hg hu
      go_upto_region 12 with (first | go_skip | go_guarded)
      go_loopw [9, 10] (fun hv ki wr => ∃ t : Nat, t ≤ n ∧ ki = .int .i64 t ∧ ∃ (A9 : Option Addr) (c9 : Nat) (vs : List Value), hv = .slice A9 t c9 ∧ vs.length = t ∧ wr.ownsRow w5.heap.size 29 1 (.slice A9 t c9) t vs ∧ (∀ i u, i < t → d.list[i]? = some u → ∃ v, vs[i]? = some v ∧ BytesV wr (fun g => w5.heap.size ≤ g) v (d.read u).1) ∧ Ext Nothing w5 wr) (fun _ ki _ => n - (intOf ki).toNat)
      case atStart => exact ⟨0, Nat.zero_le _, rfl, none, 0, [], rfl, rfl, World.ownsRow_nil _ _ _ _, fun i u hi => by omega, Ext.refl _ _⟩
      case round =>
        obtain ⟨t, ht, rfl, A9, c9, vs, rfl, hvl, hown, hall, hx⟩ := hrel
        by_cases hlt : t < n
        · obtain ⟨hjn, q9, o9, hA9, hc9⟩ := hs5.get hx hlt
          have hmu := List.getElem_mem hjn
          have hut : d.list[t]? = some d.list[t] := List.getElem?_eq_getElem hjn
          generalize d.list[t] = u at hc9 hmu hut
          have c0 : wr.cell? ⟨q9, o9 + t, none⟩ = some (strV u) := by have h9 := hc9 0 _ rfl; simpa using h9
          have hul := (hlr u hmu).2
          subst hA9
          have hk0 : (0 : Int) ≤ (t : Int) := by omega
          have hk1 : (t : Int) < n := by omega
          have HT := Lib.hid hlt
          have HUT := Lib.hid hut
          have HVL := Lib.hid hvl
          have HALL := Lib.hid hall
          clear hc9 hlt hut hvl hall
          go_upto_region 15 with (first | go_skip | go_guarded | (go_at_call 23; (with_reducible refine (dkRead u wr (hI5.both.disk.keep0 hx) hg hul).mono ?_); rintro e w6 ⟨v6, rfl, hv6, hx6⟩))
          obtain ⟨A6, n6, c6, rfl, hq6⟩ := id hv6
          have hbs := hx.tr hx6
          have hbz := hbs.size
          have ha : Ext Nothing w6 (w6.alloc (.cells #[.slice A6 n6 c6] 29)) := Ext.auto
          have hown6 := own_ext hown (hx6.tr ha) (fun _ _ e => e)
          go_wp2_with (first | go_skip | go_guarded | ((with_reducible refine dW ?_); refine wpList_slice1 rfl 47 _ rfl SBB #[.slice A6 n6 c6] rfl rfl ?_) | (at_builtin; refine wpList_app1 rfl _ _ 47 rfl w5.heap.size SBB (.slice A9 t c9) t _ rfl hown6 w6.heap.size 1 #[.slice A6 n6 c6] rfl (Blk.new _ _ _) rfl rfl (by omega) (Nat.le_trans hbz (by simp)) ?_; intro A8 c8 w8 hown8 hgr8))
          have hx8 : Ext Nothing w5 w8 := (hbs.tr ha).grown hgr8 (fun g hg => .inl (hown6.lt g hg).1)
          have hxr : Ext (fun q => (Value.slice A9 t c9).ownBlock = some q) wr w8 := ((hx6.tr ha).mono (fun _ _ e => e.elim) : Ext (fun q => (Value.slice A9 t c9).ownBlock = some q) wr _).grown hgr8 (fun g hg => .inr hg)
          have hx68 : Ext (fun q => (Value.slice A9 t c9).ownBlock = some q) w6 w8 := (ha.mono (fun _ _ e => e.elim) : Ext (fun q => (Value.slice A9 t c9).ownBlock = some q) w6 _).grown hgr8 (fun g hg => .inr hg)
          have hoffr : Off wr (fun q => (Value.slice A9 t c9).ownBlock = some q) (fun g => w5.heap.size ≤ g) := fun g cs e hb => absurd e (own_ne hown hb (by decide))
          have hown66 := own_ext hown hx6 (fun _ _ e => e)
          have hoff6 : Off w6 (fun q => (Value.slice A9 t c9).ownBlock = some q) (fun g => w5.heap.size ≤ g) := fun g cs e hb => absurd e (own_ne hown66 hb (by decide))
          have hv8 : BytesV w8 (fun g => w5.heap.size ≤ g) (.slice A6 n6 c6) (d.read u).1 := (hv6.mono (fun g _ e => by have := hx.size; omega)).keep hx68 hoff6
          have HALL2 := Lib.hid (show ∀ i z, i < t + 1 → d.list[i]? = some z → ∃ v, (vs ++ [Value.slice A6 n6 c6])[i]? = some v ∧ BytesV w8 (fun g => w5.heap.size ≤ g) v (d.read z).1 from fun i z hi hz => by
          rcases Nat.lt_succ_iff_lt_or_eq.1 hi with h9 | rfl
          · obtain ⟨v, hv1, hv2⟩ := HALL.out i z h9 hz
            exact ⟨v, by rw [List.getElem?_append_left (by rw [HVL.out]; exact h9)]; exact hv1, hv2.keep hxr hoffr⟩
          · rw [HUT.out] at hz
            injection hz with hz
            subst hz
            exact ⟨_, by rw [List.getElem?_append_right (by rw [HVL.out]; exact Nat.le_refl _), HVL.out, Nat.sub_self]; rfl, hv8⟩)
          go_roundw
          case rel => exact ⟨t + 1, HT.out, by go_num, A8, c8, vs ++ [.slice A6 n6 c6], rfl, by rw [List.length_append, HVL.out]; rfl, hown8, HALL2.out, hx8⟩
          case measure => have := HT.out; simp [intOf]; omega
        · have hnl2 : ¬ ((t : Int) < n) := by omega
          obtain rfl : t = n := by omega
          have hI6 := hI5.keep0 hx
          have hB6 := hB5.e0 hx
          have ho6 := own_ext ho5 hx (fun _ _ e => e)
          have HALL := Lib.hid hall
          have HVL := Lib.hid hvl
          clear hI5 hB5 ho5 hs5 hx hall hvl
          obtain ⟨w6, hw6⟩ : ∃ z : World, z = wr := ⟨_, rfl⟩
          rw [← hw6] at hI6 hB6 ho6 HALL hown ⊢
          clear hw6
          have g0 : w6.cell? ⟨V, 0, none⟩ = some (.int .i64 kx) := hB6.cell 0
          cases hk7 : (kx == 7) with
          | true =>
            go_wp2_with (first | go_skip | go_guarded)
            go_ret
            exact ⟨rfl, hI6.ext⟩
          | false =>
            have hk7n : kx ≠ 7 := by simpa using hk7
            have hcd := lawDoes ⟨kx, sx, tx, dx, nx, Ax, mx, cx⟩ w6 hI6.both (by have := hI6.done; omega) (by have := hI6.done2; omega) (hI6.reads hbw hrw0 hx0)
            dsimp only at hcd
            have HRD := Lib.hid (fun u (h1 : u ≠ sx) (h2 : u ≠ tx) => Dk.step_read hg hk7n h1 h2 dx nx)
            go_upto_region 19 with (first | go_skip | go_guarded | ((with_reducible refine dW ?_); refine wpList_load_blk rfl 31 _ rfl STOp V rfl #[.int .i64 kx, strV sx, strV tx, .slice Ax mx cx, .int .i64 nx] hB6 rfl ?_) | (go_at_call 12; (refine hcd.mono ?_); rintro e w7 ⟨v9, rfl, ⟨vb, rfl, hvb⟩, hO7, hx7⟩))
            have hI7 := hI6.step hbw hrw0 hO7 hx7
            have hB7 := hB6.ext hx7 (fun e => BoB.ty hB6 (by decide) (by decide) (by decide) (by decide) e)
            have ho7 := own_ext ho6 hx7 (fun g hg9 e => by obtain ⟨cs9, h9⟩ := own_blk ho6 hg9; exact BoB.ty h9 (by decide) (by decide) (by decide) (by decide) e)
            have hown7 := own_ext hown hx7 (fun g hg9 e => by obtain ⟨cs9, h9⟩ := own_blk hown hg9; exact BoB.ty h9 (by decide) (by decide) (by decide) (by decide) e)
            have HALL7 := Lib.hid (show ∀ i u, i < t → d.list[i]? = some u → ∃ v, vs[i]? = some v ∧ BytesV w7 (fun g => w5.heap.size ≤ g) v (d.read u).1 from fun i u hi hu => by obtain ⟨v, h1, h2⟩ := HALL.out i u hi hu; exact ⟨v, h1, h2.keep hx7 BoB.off⟩)
            have hs7 := row_sl ho7 HNN.out.symm
            have hsh7 : Sl w7 1 A9 t (vs.map fun v => [v]) := Sl.of_own (f := fun v => [v]) (fun _ => rfl) (by rw [show vs.flatMap (fun v => [v]) = vs by simp]; exact hown7) HVL.out.symm
            have hgs := hI7.both.good
            have hDs := hI7.both.disk
            clear hI6 hB6 ho6 hown g0 hO7 hx7 hcd hvb ho7 hown7
            have HK7 := Lib.hid hk7
            clear hk7
            generalize hds : OpC.step ⟨kx, sx, tx, dx, nx, Ax, mx, cx⟩ d = ds at hI7 hgs hDs
            have HDS := Lib.hid hds
            clear hds
            go_upto_region 20 with (first | go_skip | go_guarded)
            go_loopw [13] (fun ki wr => ∃ i : Nat, i ≤ t ∧ ki = .int .i64 i ∧ Ext Nothing w7 wr) (fun ki _ => t - (intOf ki).toNat)
            case atStart => exact ⟨0, Nat.zero_le _, rfl, Ext.refl _ _⟩
            case round =>
              obtain ⟨i, hi, rfl, hxl⟩ := hrel
              by_cases hil : i < t
              · obtain ⟨hjn, q9, o9, hA9, hc9⟩ := hs7.get hxl hil
                have hmu := List.getElem_mem hjn
                have hut : d.list[i]? = some d.list[i] := List.getElem?_eq_getElem hjn
                generalize d.list[i] = u at hc9 hmu hut
                have c0 : wr.cell? ⟨q9, o9 + i, none⟩ = some (strV u) := by have h9 := hc9 0 _ rfl; simpa using h9
                have hul := (hlr u hmu).2
                have HU0 := Lib.hid (hlr u hmu).1
                obtain ⟨v, hvi, hbv⟩ := HALL7.out i u hil hut
                obtain ⟨hjv, q8, o8, hA8, hc8⟩ := hsh7.get hxl hil
                have hvv : vs[i] = v := by have h9 := List.getElem?_eq_getElem hjv; rw [h9] at hvi; exact Option.some.inj hvi
                rw [hvv] at hc8
                obtain ⟨A4, n4, c4, rfl, ⟨hs4, _⟩, hb4⟩ := id hbv
                have d0 : wr.cell? ⟨q8, o8 + i, none⟩ = some (.slice A4 n4 c4) := by have h9 := hc8 0 _ rfl; simpa using h9
                have hBr := hB7.e0 hxl
                have b1 : wr.cell? ⟨V, 1, none⟩ = some (strV sx) := hBr.cell 1
                have b2 : wr.cell? ⟨V, 2, none⟩ = some (strV tx) := hBr.cell 2
                subst hA9 hA8
                have hk0 : (0 : Int) ≤ (i : Int) := by omega
                have hk1 : (i : Int) < t := by omega
                have HT := Lib.hid hil
                clear hc9 hc8 hvv hvi hil hut hmu
                cases he1 : (u == sx) with
                | true =>
                  go_upto_region 22 with (first | go_skip | go_guarded)
                  go_quiet (fail)
                  have hdq := (Ext.refl Nothing wr).drewN nq
                  generalize wr.drewN nq = wq at hdq ⊢
                  go_wp2_with (first | go_skip | go_guarded)
                  go_roundw
                  case rel => exact ⟨i + 1, HT.out, by go_num, hxl.tr hdq⟩
                  case measure => have := HT.out; simp [intOf]; omega
                | false =>
                  cases he2 : (u == tx) with
                  | true =>
                    go_upto_region 22 with (first | go_skip | go_guarded)
                    go_quiet (fail)
                    have hdq := (Ext.refl Nothing wr).drewN nq
                    generalize wr.drewN nq = wq at hdq ⊢
                    go_wp2_with (first | go_skip | go_guarded)
                    go_roundw
                    case rel => exact ⟨i + 1, HT.out, by go_num, hxl.tr hdq⟩
                    case measure => have := HT.out; simp [intOf]; omega
                  | false =>
                    have HR := Lib.hid (show ds.read u = d.read u by rw [← HDS.out]; exact HRD.out u (by simpa using he1) (by simpa using he2))
                    have hrl := Dk.read_len hg u
                    go_upto_region 22 with (first | go_skip | go_guarded)
                    go_quiet (fail)
                    have hdq := (Ext.refl Nothing wr).drewN nq
                    generalize wr.drewN nq = wq at hdq ⊢
                    have hxq := hxl.tr hdq
                    have c1 := hdq.c0 c0
                    have d1 := hdq.c0 d0
                    clear he1 he2 c0 d0 b1 b2 hBr
                    go_upto_region 24 with (first | go_skip | go_guarded | (go_at_call 23; (with_reducible refine (dkRead u wq (hDs.keep0 hxq) hgs hul).mono ?_); rintro e w8 ⟨v6, rfl, hv6, hx6⟩; (rw [HR.out] at hv6 ⊢); (rw [HU0.out]); obtain ⟨A8, n8, c8, rfl, ⟨hs8, _⟩, _⟩ := hv6))
                    have d2 := hx6.c0 d1
                    have hn8 : n8 < 67108864 := by have := hs8.1; rw [List.length_map] at this; omega
                    have hcs := rSame A8 n8 c8 _ A4 n4 c4 _ w8 hs8 ((hs4.ext0 hxq).ext0 hx6) hn8
                    rw [show decide ((d.read u).1 = (d.read u).1) = true from decide_eq_true rfl] at hcs
                    clear c1 d1 hs8 hs4
                    go_wp2_with (first | go_skip | go_guarded | (go_at_call 24; (refine hcs.mono ?_); rintro e w9 ⟨rfl, hx9⟩))
                    go_roundw
                    case rel => exact ⟨i + 1, HT.out, by go_num, (hxq.tr hx6).tr hx9⟩
                    case measure => have := HT.out; simp [intOf]; omega
              · have hnl3 : ¬ ((i : Int) < t) := by omega
                go_wp2_with (first | go_skip | go_guarded)
                go_ret
                exact ⟨rfl, hI7.ext.tr hxl⟩
end Go.Proofs.YtlfpfhdagkkliaaDoor
