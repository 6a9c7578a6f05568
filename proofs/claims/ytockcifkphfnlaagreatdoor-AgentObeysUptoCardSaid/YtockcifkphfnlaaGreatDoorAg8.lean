/- The machine takes an answer: Take. (printed by wip/gen/agtake.py) -/
import Derived.Test.YtockcifkphfnlaaGreatDoorAg7
namespace Go.Proofs.YtockcifkphfnlaaGreatDoor
set_option linter.unusedVariables false
set_option linter.unusedSimpArgs false
open Go.RowKit

theorem STRes3 : StructT Tryz.prog 49 3 := .of (by kernel_rfl)
theorem ZTRes3 : ZeroT Tryz.prog 49 3 := .of (by kernel_rfl)
theorem ag_cb {s : Ag.AgD} {b mt : Nat} (h : s.beats.length = 8) {j : Nat} (hj : j < 8) : (s.cells b mt)[17 + j * 2]? = some (.int .i64 (s.beats[j]?.getD (0, 0)).1) ∧ (s.cells b mt)[17 + j * 2 + 1]? = some (.int .i64 (s.beats[j]?.getD (0, 0)).2) := by
  obtain ⟨p0, p1, p2, p3, p4, p5, p6, p7, e⟩ := beats8 h
  unfold Ag.AgD.cells
  rw [e]
  match j, hj with
  | 0, _ => exact ⟨rfl, rfl⟩
  | 1, _ => exact ⟨rfl, rfl⟩
  | 2, _ => exact ⟨rfl, rfl⟩
  | 3, _ => exact ⟨rfl, rfl⟩
  | 4, _ => exact ⟨rfl, rfl⟩
  | 5, _ => exact ⟨rfl, rfl⟩
  | 6, _ => exact ⟨rfl, rfl⟩
  | 7, _ => exact ⟨rfl, rfl⟩
theorem AgIs.ok2 {w w1 : World} {Ok : Nat → Prop} {B a b mt : Nat} {s : Ag.AgD} {d : Dk.DiskD} (h : AgIs w1 (OkN w (OkN w Ok)) B a b mt s d) : AgIs w1 (OkN w Ok) B a b mt s d := h.mono (fun q _ e => by rcases e with (e | e) | e; exact .inl e; exact .inr e; exact .inr e)
set_option maxRecDepth 20000 in
set_option maxHeartbeats 16000000 in
theorem agTake {Ok : Nat → Prop} {B a b mt : Nat} {s : Ag.AgD} {d : Dk.DiskD} (w : World) (h : AgIs w Ok B a b mt s d) (htab : HTabB B w) (hb0 : 0 ≤ s.boot) (hb1 : s.boot ≤ 1099511627776) (hdn : d.done.length < 67108863) (hc0 : 0 ≤ s.clock) (hc1 : s.clock < 1099511627777) (ht0 : 0 ≤ s.taken) (hbt : ∀ p ∈ s.beats, 0 ≤ p.2 ∧ p.2 < 1099511627777)
    (cs : Array Value) (m : Ag.MsgD) (hm : MsgIs cs m) (hx64 : In64 m.ctx) (A : Option Addr) (n c : Nat) (l : List AllocD) (h45 : cs[45]? = some (.slice A n c)) (hl : Sl w 11 A n (l.map AllocD.cells)) (hn : n ≤ 67108863) (hAa : ∀ q, A.map (·.block) = some q → l ≠ [] → q ≠ a) (hId : ∀ x ∈ l, In64 x.id) :
    Calls Tryz.prog 14 #[.pointer (some ⟨a, 0, none⟩), .agg cs] w fun e w' => ∃ mt', e = .returned (.int .i64 (Ag.take s d m l).2.2) ∧ AgIs w' (OkN w Ok) B a b mt' (Ag.take s d m l).1 (Ag.take s d m l).2.1 ∧ Ext (AgB B w) w w' := by
  have hcz := hm.size
  go_enter Tryz.func14, Tryz.ntmps14
  go_upto_region 1 with (first | go_skip | go_guarded)
  have hx0 : Ext Nothing w (w.alloc (.cells cs 51)) := Ext.auto
  have hMB := Blk.new w 51 cs
  generalize hMq : w.heap.size = M at hMB ⊢
  have HM := Lib.hid hMq
  clear hMq
  generalize (w.alloc (.cells cs 51)) = w1 at hx0 hMB ⊢
  have hI1 := (h.keep0 hx0).mono (Ok' := OkN w Ok) (fun _ _ e => .inl e)
  have hK1 : Ext (AgB B w) w w1 := hx0.mono (fun _ _ e => e.elim)
  have hna : a ≠ M := fun e => by have h9 := h.blk.lt; have h8 := HM.out; omega
  have hmM : mt ≠ M := fun e => by have h9 := h.tasks.lt; have h8 := HM.out; omega
  have k0 : w1.cell? ⟨a, 0, none⟩ = some (.int .i64 2) := hI1.blk.cell 0
  have k11 : w1.cell? ⟨a, 11, none⟩ = some (.bool s.down) := hI1.blk.cell 11
  have c0 : w1.cell? ⟨M, 0, none⟩ = some (.int .i64 m.kind) := (hMB.cell 0).trans hm.kind
  have c2 : w1.cell? ⟨M, 2, none⟩ = some (.int .i64 m.dest) := (hMB.cell 2).trans hm.dest
  have hl1 := hl.ext hx0 (fun _ _ _ e => e)
  cases e1 : (m.kind != 10) with
  | true =>
    have HE := Lib.hid (show Ag.take s d m l = (s, d, 0) by unfold Ag.take; rw [if_pos (Or.inl (by simpa using e1))])
    go_quiet (fail)
    have hdq := (Ext.refl Nothing w1).drewN nq
    generalize w1.drewN nq = w2 at hdq ⊢
    go_wp2_with (first | go_skip | go_guarded)
    go_ret
    rw [HE.out]
    exact ⟨mt, rfl, hI1.keep0 hdq, AgB.trans hK1 (hdq.mono (fun _ _ e => e.elim))⟩
  | false =>
    cases e2 : (m.dest != 102) with
    | true =>
      have HE := Lib.hid (show Ag.take s d m l = (s, d, 0) by unfold Ag.take; rw [if_pos (Or.inr (Or.inl (by simpa using e2)))])
      go_quiet (fail)
      have hdq := (Ext.refl Nothing w1).drewN nq
      generalize w1.drewN nq = w2 at hdq ⊢
      go_wp2_with (first | go_skip | go_guarded)
      go_ret
      rw [HE.out]
      exact ⟨mt, rfl, hI1.keep0 hdq, AgB.trans hK1 (hdq.mono (fun _ _ e => e.elim))⟩
    | false =>
      cases e3 : s.down with
      | true =>
        rw [e3] at k11
        have HE := Lib.hid (show Ag.take s d m l = (s, d, 0) by unfold Ag.take; rw [if_pos (Or.inr (Or.inr e3))])
        go_quiet (fail)
        have hdq := (Ext.refl Nothing w1).drewN nq
        generalize w1.drewN nq = w2 at hdq ⊢
        go_wp2_with (first | go_skip | go_guarded)
        go_ret
        rw [HE.out]
        exact ⟨mt, rfl, hI1.keep0 hdq, AgB.trans hK1 (hdq.mono (fun _ _ e => e.elim))⟩
      | false =>
        rw [e3] at k11
        have HG := Lib.hid (show ¬ (m.kind ≠ 10 ∨ m.dest ≠ 102 ∨ s.down) by rintro (e | e | e); simp at e1; exact e e1; simp at e2; exact e e2; rw [e3] at e; cases e)
        go_quiet (fail)
        have hdq := (Ext.refl Nothing w1).drewN nq
        have hI2 := hI1.keep0 hdq
        have hK2 : Ext (AgB B w) w (w1.drewN nq) := AgB.trans hK1 (hdq.mono (fun _ _ e => e.elim))
        have hM2 := hMB.e0 hdq
        have hl2 := hl1.ext hdq (fun _ _ _ e => e)
        clear k0 k11 c0 c2 hI1 hK1 hMB hl1 e1 e2 e3
        generalize w1.drewN nq = w2 at hI2 hK2 hM2 hl2 ⊢
        clear hdq
        have c11 : w2.cell? ⟨M, 11, none⟩ = some (.int .i64 m.hint) := (hM2.cell 11).trans hm.hint
        have k35 : w2.cell? ⟨a, 35, none⟩ = some (.int .i64 s.hint) := by rw [hI2.blk.cell]; exact ag_c35 hI2.beats
        have f35 : w2.frozen? ⟨a, 35, none⟩ = false := hI2.blk.frozen 35
        go_upto_region 4 with (first | go_skip | go_guarded)
        have hXa : Ext (fun q => q = a) w2 (w2.setCell ⟨a, 35, none⟩ (.int .i64 m.hint)) := Ext.set1 _ _ _ _
        have hBa : Blk (w2.setCell ⟨a, 35, none⟩ (.int .i64 m.hint)) a 84 (Ag.AgD.cells { s with hint := m.hint } b mt) := by have h9 := hI2.blk.set_ 35 (.int .i64 m.hint); rw [ag_s35 hI2.beats] at h9; exact h9
        have hI3 := hI2.set (s' := { s with hint := m.hint }) hXa hBa rfl hI2.beats
        have hK3 : Ext (AgB B w) w _ := AgB.trans hK2 (hI2.agb hXa)
        have hM3 := hM2.ext hXa (fun e => hna e.symm)
        have hl3 := hl2.ext hXa (fun q e1 e2 e => hAa q e1 (fun h9 => e2 (by rw [h9]; rfl)) e)
        clear c11 k35 f35 hBa hI2 hK2 hM2 hl2
        generalize (w2.setCell ⟨a, 35, none⟩ (.int .i64 m.hint)) = w3 at hI3 hK3 hM3 hl3 ⊢
        clear hXa
        have hcR : ∀ j u, (#[.int .i64 m.code, .int .i64 m.value, .slice A n c] : Array Value).toList[j]? = some u → w3.cell? ⟨M, 43 + j, none⟩ = some u := fun j u hu => by
          rw [hM3.cell]
          match j, hu with
          | 0, hu => cases hu; exact hm.code
          | 1, hu => cases hu; exact hm.value
          | 2, hu => cases hu; exact h45
          | (j+3), hu => simp at hu
        go_upto_region 5 with (first | go_skip | go_guarded | ((with_reducible refine isLd 49 rfl ?_); refine wpList_load_at rfl 49 _ rfl STRes3 M 43 rfl #[.int .i64 m.code, .int .i64 m.value, .slice A n c] hcR rfl ?_) | ((with_reducible refine isAl 49 rfl ?_); refine wpList_alloc_any rfl _ rfl ZTRes3 ?_; intro z hz9) | ((with_reducible refine isSt 49 rfl ?_); refine wpList_store_new rfl _ _ _ rfl STRes3 z hz9 rfl rfl #[.int .i64 m.code, .int .i64 m.value, .slice A n c] rfl rfl rfl ?_; clear hz9))
        have hxr : Ext Nothing w3 (w3.alloc (.cells #[.int .i64 m.code, .int .i64 m.value, .slice A n c] 49)) := Ext.auto
        have hR4 := Blk.new w3 49 #[.int .i64 m.code, .int .i64 m.value, .slice A n c]
        generalize hRq : w3.heap.size = R at hR4 ⊢
        have hnR : a ≠ R := fun e => by have h9 := hI3.blk.lt; omega
        have hmR : M ≠ R := fun e => by have h9 := hM3.lt; omega
        clear hRq hcR
        generalize (w3.alloc (.cells #[.int .i64 m.code, .int .i64 m.value, .slice A n c] 49)) = w4 at hxr hR4 ⊢
        have hI4 := hI3.keep0 hxr
        have hK4 : Ext (AgB B w) w w4 := AgB.trans hK3 (hxr.mono (fun _ _ e => e.elim))
        have hM4 := hM3.e0 hxr
        have hl4 := hl3.ext hxr (fun _ _ _ e => e)
        clear hI3 hK3 hM3 hl3 hxr
        obtain ⟨s1, hs1⟩ : ∃ z : Ag.AgD, z = { s with hint := m.hint } := ⟨_, rfl⟩
        rw [← hs1] at hI4
        have HS1 := Lib.hid (show s1.boot = s.boot ∧ s1.clock = s.clock ∧ s1.epoch = s.epoch ∧ s1.lease = s.lease ∧ s1.taken = s.taken ∧ s1.beats = s.beats by rw [hs1]; exact ⟨rfl, rfl, rfl, rfl, rfl, rfl⟩)
        have HS := Lib.hid hs1
        clear hs1
        have k13 : w4.cell? ⟨a, 13, none⟩ = some (.int .i64 s1.epoch) := hI4.blk.cell 13
        have d43 : w4.cell? ⟨R, 0, none⟩ = some (.int .i64 m.code) := hR4.cell 0
        have d44 : w4.cell? ⟨R, 1, none⟩ = some (.int .i64 m.value) := hR4.cell 1
        have c16 : w4.cell? ⟨M, 16, none⟩ = some (.int .i64 m.op) := (hM4.cell 16).trans hm.op
        have c8 : w4.cell? ⟨M, 8, none⟩ = some (.int .i64 m.ctx) := (hM4.cell 8).trans hm.ctx
        have k10 : w4.cell? ⟨a, 10, none⟩ = some (.int .i64 s1.boot) := hI4.blk.cell 10
        cases e0 : (s1.epoch == 0) with
        | true =>
          have HZ := Lib.hid (show s.epoch = 0 by rw [← HS1.out.2.2.1]; simpa using e0)
          go_upto_region 6 with (first | go_skip | go_guarded)
          cases e1 : (m.op == 5) with
          | false =>
            have HE := Lib.hid (show Ag.take s d m l = (s1, d, 0) by unfold Ag.take; rw [if_neg HG.out, if_pos HZ.out, if_neg (fun e => by rw [e.1] at e1; cases e1), HS.out])
            go_quiet (fail)
            have hdq := (Ext.refl Nothing w4).drewN nq
            generalize w4.drewN nq = w5 at hdq ⊢
            go_wp2_with (first | go_skip | go_guarded)
            go_ret
            rw [HE.out]
            exact ⟨mt, rfl, hI4.keep0 hdq, AgB.trans hK4 (hdq.mono (fun _ _ e => e.elim))⟩
          | true =>
            cases e2 : (m.code == 0) with
            | false =>
              have HE := Lib.hid (show Ag.take s d m l = (s1, d, 0) by unfold Ag.take; rw [if_neg HG.out, if_pos HZ.out, if_neg (fun e => by rw [e.2.1] at e2; cases e2), HS.out])
              go_quiet (fail)
              have hdq := (Ext.refl Nothing w4).drewN nq
              generalize w4.drewN nq = w5 at hdq ⊢
              go_wp2_with (first | go_skip | go_guarded)
              go_ret
              rw [HE.out]
              exact ⟨mt, rfl, hI4.keep0 hdq, AgB.trans hK4 (hdq.mono (fun _ _ e => e.elim))⟩
            | true =>
              cases e3 : decide (0 < m.value) with
              | false =>
                have HE := Lib.hid (show Ag.take s d m l = (s1, d, 0) by unfold Ag.take; rw [if_neg HG.out, if_pos HZ.out, if_neg (fun e => by rw [decide_eq_true e.2.2.1] at e3; cases e3), HS.out])
                go_quiet (fail)
                have hdq := (Ext.refl Nothing w4).drewN nq
                generalize w4.drewN nq = w5 at hdq ⊢
                go_wp2_with (first | go_skip | go_guarded)
                go_ret
                rw [HE.out]
                exact ⟨mt, rfl, hI4.keep0 hdq, AgB.trans hK4 (hdq.mono (fun _ _ e => e.elim))⟩
              | true =>
                cases e4 : (m.ctx == s1.boot) with
                | false =>
                  have HE := Lib.hid (show Ag.take s d m l = (s1, d, 0) by unfold Ag.take; rw [if_neg HG.out, if_pos HZ.out, if_neg (fun e => by rw [HS1.out.1, e.2.2.2] at e4; simp at e4), HS.out])
                  go_quiet (fail)
                  have hdq := (Ext.refl Nothing w4).drewN nq
                  generalize w4.drewN nq = w5 at hdq ⊢
                  go_wp2_with (first | go_skip | go_guarded)
                  go_ret
                  rw [HE.out]
                  exact ⟨mt, rfl, hI4.keep0 hdq, AgB.trans hK4 (hdq.mono (fun _ _ e => e.elim))⟩
                | true =>
                  have HE := Lib.hid (show Ag.take s d m l = ({ s1 with epoch := m.value, lease := s1.clock + 8 }, d, 0) by
                    unfold Ag.take
                    rw [if_neg HG.out, if_pos HZ.out, if_pos ⟨by simpa using e1, by simpa using e2, by simpa using e3, by rw [← HS1.out.1]; simpa using e4⟩, HS.out])
                  go_quiet (fail)
                  have hdq := (Ext.refl Nothing w4).drewN nq
                  generalize w4.drewN nq = w5 at hdq ⊢
                  have hI5 := hI4.keep0 hdq
                  have hK5 : Ext (AgB B w) w w5 := AgB.trans hK4 (hdq.mono (fun _ _ e => e.elim))
                  have hR5 := hR4.e0 hdq
                  have d1 : w5.cell? ⟨R, 1, none⟩ = some (.int .i64 m.value) := hR5.cell 1
                  clear hdq
                  have HB9 := hI5.blk
                  have k12 : w5.cell? ⟨a, 12, none⟩ = some (.int .i64 s1.clock) := HB9.cell 12
                  have hck : 0 ≤ s1.clock ∧ s1.clock < 1099511627777 := by rw [HS1.out.2.1]; exact ⟨hc0, hc1⟩
                  obtain ⟨hk0, hk1⟩ := hck
                  have q8 : IntKind.i64.wrap (s1.clock + 8) = s1.clock + 8 := by rw [IntKind.wrap_i64]; omega
                  go_upto_region 7 with (first | go_skip | go_guarded)
                  refine zS (S := fun W' => Ext (fun q => q = a) w5 W' ∧ W'.cell? ⟨a, 12, none⟩ = some (.int .i64 s1.clock)) (by kernel_rfl) ?_
                  have hd : Ext Nothing w5 w5.drew := (Ext.refl _ _).drew
                  generalize w5.drew = Wd at hd ⊢
                  have hS : Ext (fun q => q = a) w5 Wd ∧ Wd.cell? ⟨a, 12, none⟩ = some (.int .i64 s1.clock) := ⟨hd.mono (fun _ _ e => e.elim), hd.c0 k12⟩
                  refine zT 0 (.pointer (some ⟨a, 0, none⟩)) rfl (by kernel_rfl) (by rfl) hS (fun _ _ _ h => h) (fun W' hS' => by go_simp) ?_
                  refine zT 1 (.pointer (some ⟨a, 0, none⟩)) rfl (by kernel_rfl) (by rfl) hS (fun _ _ _ h => h) (fun W' hS' => by go_simp) ?_
                  refine zT 2 (.pointer (some ⟨R, 1, none⟩)) rfl (by kernel_rfl) (by rfl) hS (fun _ _ _ h => h) (fun W' hS' => by go_simp) ?_
                  refine zT 3 (.int .i64 m.value) rfl (by kernel_rfl) (by rfl) hS (fun _ _ _ h => h) (fun W' hS' => by have q9 := hS'.1.cell d1 (fun e => hnR e.symm); go_simp) ?_
                  refine zT 4 (.pointer (some ⟨a, 0, none⟩)) rfl (by kernel_rfl) (by rfl) hS (fun _ _ _ h => h) (fun W' hS' => by go_simp) ?_
                  refine zT 5 (.pointer (some ⟨a, 0, none⟩)) rfl (by kernel_rfl) (by rfl) hS (fun _ _ _ h => h) (fun W' hS' => by go_simp) ?_
                  refine zT 6 (.pointer (some ⟨a, 12, none⟩)) rfl (by kernel_rfl) (by rfl) hS (fun _ _ _ h => h) (fun W' hS' => by go_simp) ?_
                  refine zT 7 (.int .i64 s1.clock) rfl (by kernel_rfl) (by rfl) hS (fun _ _ _ h => h) (fun W' hS' => by have q9 := hS'.2; go_simp) ?_
                  refine zT 8 (.int .i64 (s1.clock + 8)) rfl (by kernel_rfl) (by rfl) hS (fun _ _ _ h => h) (fun W' hS' => by go_simp) ?_
                  refine zT 9 (.pointer (some ⟨a, 0, none⟩)) rfl (by kernel_rfl) (by rfl) hS (fun _ _ _ h => h) (fun W' hS' => by go_simp) ?_
                  refine zT 10 (.pointer (some ⟨a, 13, none⟩)) rfl (by kernel_rfl) (by rfl) hS (fun _ _ _ h => h) (fun W' hS' => by go_simp) ?_
                  (try simp only [Act.put, zA, zB, zC, zD, zE, zF])
                  have HB8 := HB9.e0 hd
                  have k13 : Wd.cell? ⟨a, 13, none⟩ = some (.int .i64 s1.epoch) := HB8.cell 13
                  have f13 : Wd.frozen? ⟨a, 13, none⟩ = false := HB8.frozen 13
                  have hXb : Ext (fun q => q = a) Wd (Wd.setCell ⟨a, 13, none⟩ (.int .i64 m.value)) := Ext.set1 _ _ _ _
                  have hBb : Blk (Wd.setCell ⟨a, 13, none⟩ (.int .i64 m.value)) a 84 (Ag.AgD.cells { s1 with epoch := m.value } b mt) := by have h9 := HB8.set_ 13 (.int .i64 m.value); rw [ag_set] at h9; exact h9
                  refine zO 11 (by kernel_rfl) ?_
                  refine wpOp_none (w' := Wd.setCell ⟨a, 13, none⟩ (.int .i64 m.value)) rfl (by rfl) (by go_simp) ⟨⟨hS.1.trans hXb (fun _ _ e => e), hBb.cell 12⟩, ?_⟩
                  (try simp only [Act.put, zA, zB, zC, zD, zE, zF])
                  have hS6 := hS.1.trans hXb (fun _ _ e => e)
                  clear k13 f13 hXb HB8
                  generalize (Wd.setCell ⟨a, 13, none⟩ (.int .i64 m.value)) = w6 at hBb hS6 ⊢
                  have k14 : w6.cell? ⟨a, 14, none⟩ = some (.int .i64 s1.lease) := hBb.cell 14
                  have f14 : w6.frozen? ⟨a, 14, none⟩ = false := hBb.frozen 14
                  have hXc : Ext (fun q => q = a) w6 (w6.setCell ⟨a, 14, none⟩ (.int .i64 (s1.clock + 8))) := Ext.set1 _ _ _ _
                  have hBc : Blk (w6.setCell ⟨a, 14, none⟩ (.int .i64 (s1.clock + 8))) a 84 (Ag.AgD.cells { s1 with epoch := m.value, lease := s1.clock + 8 } b mt) := by have h9 := hBb.set_ 14 (.int .i64 (s1.clock + 8)); rw [ag_set] at h9; exact h9
                  refine zO 12 (by kernel_rfl) ?_
                  refine wpOp_val (v := .pointer (some ⟨a, 0, none⟩)) rfl (by rfl) (by go_simp) ⟨⟨hS6, hBb.cell 12⟩, ?_⟩
                  (try simp only [Act.put, zA, zB, zC, zD, zE, zF])
                  refine zO 13 (by kernel_rfl) ?_
                  refine wpOp_val (v := .pointer (some ⟨a, 14, none⟩)) rfl (by rfl) (by go_simp) ⟨⟨hS6, hBb.cell 12⟩, ?_⟩
                  (try simp only [Act.put, zA, zB, zC, zD, zE, zF])
                  refine zO 14 (by kernel_rfl) ?_
                  refine wpOp_none (w' := w6.setCell ⟨a, 14, none⟩ (.int .i64 (s1.clock + 8))) rfl (by rfl) (by go_simp) ⟨⟨hS6.trans hXc (fun _ _ e => e), hBc.cell 12⟩, wpAnyH_done (by kernel_rfl) ?_ _⟩
                  (try simp only [Act.put, zA, zB, zC, zD, zE, zF])
                  have hXf := hS6.trans hXc (fun _ _ e => e)
                  have hIf := hI5.set (s' := { s1 with epoch := m.value, lease := s1.clock + 8 }) hXf hBc rfl hI5.beats
                  have hKf : Ext (AgB B w) w _ := AgB.trans hK5 (hI5.agb hXf)
                  clear k14 f14 hXc hBc hBb hS6 hS hd hXf
                  generalize (w6.setCell ⟨a, 14, none⟩ (.int .i64 (s1.clock + 8))) = w7 at hIf hKf ⊢
                  go_wp2_with (first | go_skip | go_guarded)
                  go_ret
                  rw [HE.out]
                  exact ⟨mt, rfl, hIf, hKf⟩
        | false =>
          have HZ := Lib.hid (show ¬ s.epoch = 0 by rw [← HS1.out.2.2.1]; simpa using e0)
          have c32 : w4.cell? ⟨M, 32, none⟩ = some (.int .i64 m.epoch) := (hM4.cell 32).trans hm.epoch
          go_upto_region 9 with (first | go_skip | go_guarded)
          cases e1 : (m.op != 6) with
          | true =>
            have HE := Lib.hid (show Ag.take s d m l = (s1, d, 0) by unfold Ag.take; rw [if_neg HG.out, if_neg HZ.out, if_pos (Or.inl (by simpa using e1)), HS.out])
            go_quiet (fail)
            have hdq := (Ext.refl Nothing w4).drewN nq
            generalize w4.drewN nq = w5 at hdq ⊢
            go_wp2_with (first | go_skip | go_guarded)
            go_ret
            rw [HE.out]
            exact ⟨mt, rfl, hI4.keep0 hdq, AgB.trans hK4 (hdq.mono (fun _ _ e => e.elim))⟩
          | false =>
            cases e2 : (m.epoch != s1.epoch) with
            | true =>
              have HE := Lib.hid (show Ag.take s d m l = (s1, d, 0) by unfold Ag.take; rw [if_neg HG.out, if_neg HZ.out, if_pos (Or.inr (by rw [← HS1.out.2.2.1]; simpa using e2)), HS.out])
              go_quiet (fail)
              have hdq := (Ext.refl Nothing w4).drewN nq
              generalize w4.drewN nq = w5 at hdq ⊢
              go_wp2_with (first | go_skip | go_guarded)
              go_ret
              rw [HE.out]
              exact ⟨mt, rfl, hI4.keep0 hdq, AgB.trans hK4 (hdq.mono (fun _ _ e => e.elim))⟩
            | false =>
              have HO := Lib.hid (show ¬ (m.op ≠ 6 ∨ m.epoch ≠ s.epoch) by rintro (e | e); simp at e1; exact e e1; simp at e2; rw [HS1.out.2.2.1] at e2; exact e e2)
              go_quiet (fail)
              have hdq := (Ext.refl Nothing w4).drewN nq
              generalize w4.drewN nq = w5 at hdq ⊢
              have hI5 := hI4.keep0 hdq
              have hK5 : Ext (AgB B w) w w5 := AgB.trans hK4 (hdq.mono (fun _ _ e => e.elim))
              have hR5 := hR4.e0 hdq
              have hM5 := hM4.e0 hdq
              have hl5 := hl4.ext0 hdq
              have htab5 := htab.step hK5
              have hz5 := hK5.size
              have hbb : 0 ≤ s1.boot ∧ s1.boot ≤ 1099511627776 := by rw [HS1.out.1]; exact ⟨hb0, hb1⟩
              obtain ⟨hb0', hb1'⟩ := hbb
              clear hI4 hK4 hR4 hM4 hl4 hdq d43 d44 c16 c8 k10 k13 c32 e0 e1 e2
              have d0 : w5.cell? ⟨R, 0, none⟩ = some (.int .i64 m.code) := hR5.cell 0
              cases e3 : (m.code == 31) with
              | true =>
                have HE := Lib.hid (show Ag.take s d m l = Ag.yields s1 d by unfold Ag.take; rw [if_neg HG.out, if_neg HZ.out, if_neg HO.out, if_pos (Or.inl (by simpa using e3)), HS.out])
                have hcall := agYields w5 (s := s1) hI5 htab5 hb0' hb1' hdn
                go_wp2_with (first | go_skip | go_guarded | (go_at_call 24; (with_reducible refine hcall.mono ?_); rintro e w6 ⟨rfl, hI6, hx6⟩))
                go_ret
                rw [HE.out]
                exact ⟨mt, rfl, hI6.mono (fun q _ e => by rcases e with (e | e) | e; exact .inl e; exact .inr e; exact .inr (by omega)), AgB.trans hK5 hx6⟩
              | false =>
                cases e4 : (m.code == 32) with
                | true =>
                  have HE := Lib.hid (show Ag.take s d m l = Ag.yields s1 d by unfold Ag.take; rw [if_neg HG.out, if_neg HZ.out, if_neg HO.out, if_pos (Or.inr (by simpa using e4)), HS.out])
                  have hcall := agYields w5 (s := s1) hI5 htab5 hb0' hb1' hdn
                  go_wp2_with (first | go_skip | go_guarded | (go_at_call 24; (with_reducible refine hcall.mono ?_); rintro e w6 ⟨rfl, hI6, hx6⟩))
                  go_ret
                  rw [HE.out]
                  exact ⟨mt, rfl, hI6.mono (fun q _ e => by rcases e with (e | e) | e; exact .inl e; exact .inr e; exact .inr (by omega)), AgB.trans hK5 hx6⟩
                | false =>
                  have HC := Lib.hid (show ¬ (m.code = 31 ∨ m.code = 32) by rintro (e | e); rw [e] at e3; cases e3; rw [e] at e4; cases e4)
                  cases e5 : (m.code == 0) with
                  | false =>
                    have HE := Lib.hid (show Ag.take s d m l = (s1, d, 0) by unfold Ag.take; rw [if_neg HG.out, if_neg HZ.out, if_neg HO.out, if_neg HC.out, if_pos (by simpa using e5), HS.out])
                    have hdq := Ext.refl Nothing w5
                    go_wp2_with (first | go_skip | go_guarded)
                    go_ret
                    rw [HE.out]
                    exact ⟨mt, rfl, hI5.keep0 hdq, AgB.trans hK5 (hdq.mono (fun _ _ e => e.elim))⟩
                  | true =>
                    have HC0 := Lib.hid (show ¬ (m.code ≠ 0) by simpa using e5)
                    have c8 : w5.cell? ⟨M, 8, none⟩ = some (.int .i64 m.ctx) := (hM5.cell 8).trans hm.ctx
                    have k16 : w5.cell? ⟨a, 16, none⟩ = some (.int .i64 s1.taken) := hI5.blk.cell 16
                    go_upto_region 16 with (first | go_skip | go_guarded)
                    clear e3 e4 e5 d0
                    cases e6 : decide (m.ctx ≤ s1.taken) with
                    | true =>
                      have HE := Lib.hid (show Ag.take s d m l = (s1, d, 0) by unfold Ag.take; rw [if_neg HG.out, if_neg HZ.out, if_neg HO.out, if_neg HC.out, if_neg HC0.out, if_pos (Or.inl (by rw [← HS1.out.2.2.2.2.1]; simpa using e6)), HS.out])
                      go_quiet (fail)
                      have hdq := (Ext.refl Nothing w5).drewN nq
                      generalize w5.drewN nq = w6 at hdq ⊢
                      go_wp2_with (first | go_skip | go_guarded)
                      go_ret
                      rw [HE.out]
                      exact ⟨mt, rfl, hI5.keep0 hdq, AgB.trans hK5 (hdq.mono (fun _ _ e => e.elim))⟩
                    | false =>
                      have hgt : 0 < m.ctx := by have h9 := HS1.out.2.2.2.2.1; simp at e6; omega
                      obtain ⟨j, hj0⟩ : ∃ j : Nat, j = (m.ctx % 8).toNat := ⟨_, rfl⟩
                      have hj : j < 8 := by omega
                      have hjm : m.ctx % 8 = (j : Int) := by omega
                      have hj1 : m.ctx.tmod 8 = (j : Int) := by rw [Int.tmod_eq_emod_of_nonneg (by omega)]; exact hjm
                      have hj2 : IntKind.i64.wrap (m.ctx.tmod 8) = (j : Int) := by rw [IntKind.wrap_i64, hj1]; omega
                      have HJ := Lib.hid hj0
                      clear hj0
                      obtain ⟨x1, hx1⟩ : ∃ x1, x1 = (s1.beats[j]?.getD (0, 0)).1 := ⟨_, rfl⟩
                      obtain ⟨x2, hx2⟩ : ∃ x2, x2 = (s1.beats[j]?.getD (0, 0)).2 := ⟨_, rfl⟩
                      have HXX := Lib.hid (show x1 = (s1.beats[j]?.getD (0, 0)).1 ∧ x2 = (s1.beats[j]?.getD (0, 0)).2 from ⟨hx1, hx2⟩)
                      have HX2 := Lib.hid (show 0 ≤ x2 ∧ x2 < 1099511627777 by
                        have h9 : j < s1.beats.length := by rw [hI5.beats]; exact hj
                        rw [hx2, List.getElem?_eq_getElem h9]
                        exact hbt _ (by rw [← HS1.out.2.2.2.2.2]; exact List.getElem_mem h9))
                      have kb1 : w5.cell? ⟨a, 17 + j * 2, none⟩ = some (.int .i64 x1) := by rw [hI5.blk.cell, (ag_cb hI5.beats hj).1, hx1]
                      have HXS := Lib.hid (show (s.beats[(m.ctx % 8).toNat]?.getD (0, 0)) = (x1, x2) by rw [← HJ.out, ← HS1.out.2.2.2.2.2, hx1, hx2])
                      clear hx1 hx2
                      cases e7 : (x1 != m.ctx) with
                      | true =>
                        have HE := Lib.hid (show Ag.take s d m l = (s1, d, 0) by unfold Ag.take; rw [if_neg HG.out, if_neg HZ.out, if_neg HO.out, if_neg HC.out, if_neg HC0.out, if_pos (Or.inr (by rw [HXS.out]; simpa using e7)), HS.out])
                        go_quiet (fail)
                        have hdq := (Ext.refl Nothing w5).drewN nq
                        generalize w5.drewN nq = w6 at hdq ⊢
                        go_wp2_with (first | go_skip | go_guarded)
                        go_ret
                        rw [HE.out]
                        exact ⟨mt, rfl, hI5.keep0 hdq, AgB.trans hK5 (hdq.mono (fun _ _ e => e.elim))⟩
                      | false =>
                        have HX := Lib.hid (show ¬ (m.ctx ≤ s.taken ∨ (s.beats[(m.ctx % 8).toNat]?.getD (0, 0)).1 ≠ m.ctx) by rw [HXS.out]; rintro (e | e); rw [← HS1.out.2.2.2.2.1] at e; exact of_decide_eq_false e6 e; simp at e7; exact e e7)
                        go_quiet (fail)
                        have hdq := (Ext.refl Nothing w5).drewN nq
                        generalize w5.drewN nq = w6 at hdq ⊢
                        have hI6 := hI5.keep0 hdq
                        have hK6 : Ext (AgB B w) w w6 := AgB.trans hK5 (hdq.mono (fun _ _ e => e.elim))
                        have hR6 := hR5.e0 hdq
                        have hM6 := hM5.e0 hdq
                        have hl6 := hl5.ext0 hdq
                        clear hI5 hK5 hR5 hM5 hl5 hdq e6 e7 kb1 k16 c8 htab5 hz5
                        go_upto_region 18 with (first | go_skip | go_guarded)
                        have r16 : w6.cell? ⟨a, 16, none⟩ = some (.int .i64 s1.taken) := hI6.blk.cell 16
                        have f16 : w6.frozen? ⟨a, 16, none⟩ = false := hI6.blk.frozen 16
                        have x8 : w6.cell? ⟨M, 8, none⟩ = some (.int .i64 m.ctx) := (hM6.cell 8).trans hm.ctx
                        go_upto_region 19 with (first | go_skip | go_guarded)
                        have hXa : Ext (fun q => q = a) w6 (w6.setCell ⟨a, 16, none⟩ (.int .i64 m.ctx)) := Ext.set1 _ _ _ _
                        have hBa : Blk (w6.setCell ⟨a, 16, none⟩ (.int .i64 m.ctx)) a 84 (Ag.AgD.cells { s1 with taken := m.ctx } b mt) := by have h9 := hI6.blk.set_ 16 (.int .i64 m.ctx); rw [ag_set] at h9; exact h9
                        have hI7 := hI6.set (s' := { s1 with taken := m.ctx }) hXa hBa rfl hI6.beats
                        have hK7 : Ext (AgB B w) w _ := AgB.trans hK6 (hI6.agb hXa)
                        have hM7 := hM6.ext hXa (fun e => hna e.symm)
                        have hR7 := hR6.ext hXa (fun e => hnR e.symm)
                        have hl7 := hl6.ext hXa (fun q e1 e2 e => hAa q e1 (fun h9 => e2 (by rw [h9]; rfl)) e)
                        clear r16 f16 x8 hBa hI6 hK6 hM6 hR6 hl6
                        generalize (w6.setCell ⟨a, 16, none⟩ (.int .i64 m.ctx)) = w7 at hI7 hK7 hM7 hR7 hl7 hXa ⊢
                        clear hXa
                        have x8 : w7.cell? ⟨M, 8, none⟩ = some (.int .i64 m.ctx) := (hM7.cell 8).trans hm.ctx
                        have q8 : IntKind.i64.wrap (x2 + 8) = x2 + 8 := by have h9 := HX2.out; rw [IntKind.wrap_i64]; omega
                        have hx2b : 0 ≤ x2 ∧ x2 < 1099511627777 := HX2.out
                        obtain ⟨hb2, hb3⟩ := hx2b
                        refine zS (S := fun W' => Ext (fun q => q = a) w7 W' ∧ W'.cell? ⟨a, 17 + j * 2 + 1, none⟩ = some (.int .i64 x2)) (by kernel_rfl) ?_
                        have hd : Ext Nothing w7 w7.drew := (Ext.refl _ _).drew
                        generalize w7.drew = Wd at hd ⊢
                        have HB9 := hI7.blk.e0 hd
                        have k14 : Wd.cell? ⟨a, 14, none⟩ = some (.int .i64 s1.lease) := HB9.cell 14
                        have kb2 : Wd.cell? ⟨a, 17 + j * 2 + 1, none⟩ = some (.int .i64 x2) := by rw [HB9.cell, (ag_cb (s := { s1 with taken := m.ctx }) hI7.beats hj).2]; rw [HXX.out.2]
                        have hS : Ext (fun q => q = a) w7 Wd ∧ Wd.cell? ⟨a, 17 + j * 2 + 1, none⟩ = some (.int .i64 x2) := ⟨hd.mono (fun _ _ e => e.elim), kb2⟩
                        refine zT 0 (.pointer (some ⟨a, 0, none⟩)) rfl (by kernel_rfl) (by rfl) hS (fun _ _ _ h => h) (fun W' hS' => by go_simp) ?_
                        refine zT 1 (.pointer (some ⟨a, 0, none⟩)) rfl (by kernel_rfl) (by rfl) hS (fun _ _ _ h => h) (fun W' hS' => by go_simp) ?_
                        refine zT 2 (.pointer (some ⟨a, 0, none⟩)) rfl (by kernel_rfl) (by rfl) hS (fun _ _ _ h => h) (fun W' hS' => by go_simp) ?_
                        refine zT 3 (.pointer (some ⟨a, 14, none⟩)) rfl (by kernel_rfl) (by rfl) hS (fun _ _ _ h => h) (fun W' hS' => by go_simp) ?_
                        refine zT 5 (.pointer (some ⟨a, 0, none⟩)) rfl (by kernel_rfl) (by rfl) hS (fun _ _ _ h => h) (fun W' hS' => by go_simp) ?_
                        refine zT 6 (.pointer (some ⟨M, 8, none⟩)) rfl (by kernel_rfl) (by rfl) hS (fun _ _ _ h => h) (fun W' hS' => by go_simp) ?_
                        refine zT 7 (.int .i64 m.ctx) rfl (by kernel_rfl) (by rfl) hS (fun _ _ _ h => h) (fun W' hS' => by have q9 := hS'.1.cell x8 (fun e => hna e.symm); go_simp) ?_
                        refine zT 8 (.int .i64 (j : Int)) rfl (by kernel_rfl) (by rfl) hS (fun _ _ _ h => h) (fun W' hS' => by go_simp) ?_
                        refine zT 9 (.pointer (some ⟨a, 0, none⟩)) rfl (by kernel_rfl) (by rfl) hS (fun _ _ _ h => h) (fun W' hS' => by go_simp) ?_
                        refine zT 10 (.pointer (some ⟨a, 17, none⟩)) rfl (by kernel_rfl) (by rfl) hS (fun _ _ _ h => h) (fun W' hS' => by go_simp) ?_
                        refine zT 11 (.pointer (some ⟨a, 17 + j * 2, none⟩)) rfl (by kernel_rfl) (by rfl) hS (fun _ _ _ h => h) (fun W' hS' => by go_simp; all_goals (intro h9; exfalso; omega)) ?_
                        refine zT 12 (.pointer (some ⟨a, 17 + j * 2 + 1, none⟩)) rfl (by kernel_rfl) (by rfl) hS (fun _ _ _ h => h) (fun W' hS' => by go_simp) ?_
                        refine zT 13 (.int .i64 x2) rfl (by kernel_rfl) (by rfl) hS (fun _ _ _ h => h) (fun W' hS' => by have q9 := hS'.2; go_simp) ?_
                        refine zT 14 (.int .i64 (x2 + 8)) rfl (by kernel_rfl) (by rfl) hS (fun _ _ _ h => h) (fun W' hS' => by go_simp) ?_
                        (try simp only [Act.put, zA, zB, zC, zD, zE, zF])
                        refine zO 4 (by kernel_rfl) ?_
                        refine wpOp_val (v := .int .i64 s1.lease) rfl (by rfl) (by go_simp) ⟨hS, ?_⟩
                        (try simp only [Act.put, zA, zB, zC, zD, zE, zF])
                        refine zO 15 (by kernel_rfl) ?_
                        refine wpOp_val (v := .int .i64 (max s1.lease (x2 + 8))) rfl (by rfl) (by go_simp) ⟨hS, ?_⟩
                        (try simp only [Act.put, zA, zB, zC, zD, zE, zF])
                        refine zO 16 (by kernel_rfl) ?_
                        refine wpOp_val (v := .pointer (some ⟨a, 0, none⟩)) rfl (by rfl) (by go_simp) ⟨hS, ?_⟩
                        (try simp only [Act.put, zA, zB, zC, zD, zE, zF])
                        refine zO 17 (by kernel_rfl) ?_
                        refine wpOp_val (v := .pointer (some ⟨a, 14, none⟩)) rfl (by rfl) (by go_simp) ⟨hS, ?_⟩
                        (try simp only [Act.put, zA, zB, zC, zD, zE, zF])
                        refine zO 18 (by kernel_rfl) ?_
                        have f14 : Wd.frozen? ⟨a, 14, none⟩ = false := HB9.frozen 14
                        have hXb : Ext (fun q => q = a) Wd (Wd.setCell ⟨a, 14, none⟩ (.int .i64 (max s1.lease (x2 + 8)))) := Ext.set1 _ _ _ _
                        have hBb : Blk (Wd.setCell ⟨a, 14, none⟩ (.int .i64 (max s1.lease (x2 + 8)))) a 84 (Ag.AgD.cells { s1 with taken := m.ctx, lease := max s1.lease (x2 + 8) } b mt) := by have h9 := HB9.set_ 14 (.int .i64 (max s1.lease (x2 + 8))); rw [ag_set] at h9; exact h9
                        have hXc := hS.1.trans hXb (fun _ _ e => e)
                        have kb3 : (Wd.setCell ⟨a, 14, none⟩ (.int .i64 (max s1.lease (x2 + 8)))).cell? ⟨a, 17 + j * 2 + 1, none⟩ = some (.int .i64 x2) := by rw [hBb.cell, (ag_cb (s := { s1 with taken := m.ctx, lease := max s1.lease (x2 + 8) }) hI7.beats hj).2]; rw [HXX.out.2]
                        refine wpOp_none (w' := Wd.setCell ⟨a, 14, none⟩ (.int .i64 (max s1.lease (x2 + 8)))) rfl (by rfl) (by go_simp) ⟨⟨hXc, kb3⟩, wpAnyH_done (by kernel_rfl) ?_ _⟩
                        (try simp only [Act.put, zA, zB, zC, zD, zE, zF])
                        have hI8 := hI7.set (s' := { s1 with taken := m.ctx, lease := max s1.lease (x2 + 8) }) hXc hBb rfl hI7.beats
                        have hK8 : Ext (AgB B w) w _ := AgB.trans hK7 (hI7.agb hXc)
                        have hR8 := hR7.ext hXc (fun e => hnR e.symm)
                        have hl8 := hl7.ext hXc (fun q e1 e2 e => hAa q e1 (fun h9 => e2 (by rw [h9]; rfl)) e)
                        clear f14 hXb hBb kb3 k14 kb2 hS hd HB9 hI7 hK7 hM7 hR7 hl7 x8
                        generalize (Wd.setCell ⟨a, 14, none⟩ (.int .i64 (max s1.lease (x2 + 8)))) = w8 at hI8 hK8 hR8 hl8 hXc ⊢
                        clear hXc
                        obtain ⟨s2, hs2⟩ : ∃ z : Ag.AgD, z = { s1 with taken := m.ctx, lease := max s1.lease (x2 + 8) } := ⟨_, rfl⟩
                        rw [← hs2] at hI8
                        have HS2 := Lib.hid (show s2 = { s with hint := m.hint, taken := m.ctx, lease := max s.lease ((s.beats[(m.ctx % 8).toNat]?.getD (0, 0)).2 + 8) } by rw [hs2, HXS.out, HS.out])
                        have HF2 := Lib.hid (show s2.clock = s.clock ∧ s2.lease = max s.lease ((s.beats[(m.ctx % 8).toNat]?.getD (0, 0)).2 + 8) by rw [HS2.out]; exact ⟨rfl, rfl⟩)
                        clear hs2
                        have k12 : w8.cell? ⟨a, 12, none⟩ = some (.int .i64 s2.clock) := hI8.blk.cell 12
                        have k14 : w8.cell? ⟨a, 14, none⟩ = some (.int .i64 s2.lease) := hI8.blk.cell 14
                        go_upto_region 20 with (first | go_skip | go_guarded)
                        cases e8 : decide (s2.clock ≤ s2.lease) with
                        | false =>
                          have HE := Lib.hid (show Ag.take s d m l = (s2, d, 0) by
                            have h9 := of_decide_eq_false e8
                            rw [HF2.out.1, HF2.out.2] at h9
                            unfold Ag.take
                            rw [if_neg HG.out, if_neg HZ.out, if_neg HO.out, if_neg HC.out, if_neg HC0.out, if_neg HX.out]
                            dsimp only
                            rw [if_neg h9, HS2.out])
                          go_quiet (fail)
                          have hdq := (Ext.refl Nothing w8).drewN nq
                          generalize w8.drewN nq = w9 at hdq ⊢
                          go_wp2_with (first | go_skip | go_guarded)
                          go_ret
                          rw [HE.out]
                          exact ⟨mt, rfl, hI8.keep0 hdq, AgB.trans hK8 (hdq.mono (fun _ _ e => e.elim))⟩
                        | true =>
                          have HE := Lib.hid (show Ag.take s d m l = (Ag.told s2 l, d, 0) by
                            have h9 := of_decide_eq_true e8
                            rw [HF2.out.1, HF2.out.2] at h9
                            unfold Ag.take
                            rw [if_neg HG.out, if_neg HZ.out, if_neg HO.out, if_neg HC.out, if_neg HC0.out, if_neg HX.out]
                            dsimp only
                            rw [if_pos h9, HS2.out])
                          go_quiet (fail)
                          have hdq := (Ext.refl Nothing w8).drewN nq
                          generalize w8.drewN nq = w9 at hdq ⊢
                          have hI9 := hI8.keep0 hdq
                          have hK9 : Ext (AgB B w) w w9 := AgB.trans hK8 (hdq.mono (fun _ _ e => e.elim))
                          have hl9 := hl8.ext0 hdq
                          have d2 : w9.cell? ⟨R, 2, none⟩ = some (.slice A n c) := (hR8.e0 hdq).cell 2
                          have hcall := agTold A n c l w9 hI9 hl9 hn hId
                          clear hI8 hK8 hl8 hR8 k12 k14 hdq
                          go_wp2_with (first | go_skip | go_guarded | (go_at_call 27; (with_reducible refine hcall.mono ?_); rintro e w10 ⟨rfl, hI10, hx10⟩))
                          go_ret
                          rw [HE.out]
                          exact ⟨_, rfl, hI10, AgB.trans hK9 hx10⟩
end Go.Proofs.YtockcifkphfnlaaGreatDoor
