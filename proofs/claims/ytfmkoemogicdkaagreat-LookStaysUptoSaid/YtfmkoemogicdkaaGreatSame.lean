/- The reference's Same: of equal data it returns true. (printed by wip/gen/same.py) -/
import Derived.Test.YtfmkoemogicdkaaGreatSchedR
import Derived.Test.YtfmkoemogicdkaaGreatAt
import Derived.BigQuiet
import Derived.Test.YtfmkoemogicdkaaGreatOpL
namespace Go.Proofs.YtfmkoemogicdkaaGreat
set_option linter.unusedVariables false
open Go.RowKit

theorem STGroup : StructT Tryz.prog 88 3 := .of (by kernel_rfl)

set_option maxRecDepth 100000 in
set_option maxHeartbeats 4000000 in
theorem refSameJob (x : JobD) (A1 : Option Addr) (n c1 : Nat) (A2 : Option Addr) (c2 : Nat) (w : World) (h1 : Sl w 3 A1 n (x.groups.map GroupD.cells)) (h2 : Sl w 3 A2 n (x.groups.map GroupD.cells)) (hn : n ≤ 1048576) :
    Calls Tryz.prog 46 #[.agg #[.int .i64 x.id, .int .i64 x.ty, .int .i64 x.prio, .int .i64 x.par, .slice A1 n c1, .int .i64 x.ver, .bool x.stopped], .agg #[.int .i64 x.id, .int .i64 x.ty, .int .i64 x.prio, .int .i64 x.par, .slice A2 n c2, .int .i64 x.ver, .bool x.stopped]] w fun e w' => e = .returned (.bool true) ∧ Ext Nothing w w' := by
  have hx0 : Ext Nothing w ((w.alloc (.cells #[.int .i64 x.id, .int .i64 x.ty, .int .i64 x.prio, .int .i64 x.par, .slice A1 n c1, .int .i64 x.ver, .bool x.stopped] 43)).alloc (.cells #[.int .i64 x.id, .int .i64 x.ty, .int .i64 x.prio, .int .i64 x.par, .slice A2 n c2, .int .i64 x.ver, .bool x.stopped] 43)) := by (repeat' (first | (with_reducible assumption) | (with_reducible exact Ext.refl _ _) | (with_reducible refine Ext.alloc ?_ _) | (with_reducible refine Ext.drew ?_) | (with_reducible refine Ext.drewN ?_ _) | (with_reducible refine Ext.setCell ?_ (.inl (by simp only [World.size_alloc, World.size_setCell, World.size_drew] <;> omega)) _) | (with_reducible refine Ext.trans ?_ (by assumption) (fun _ _ e => e))))
  have b1 : Blk ((w.alloc (.cells #[.int .i64 x.id, .int .i64 x.ty, .int .i64 x.prio, .int .i64 x.par, .slice A1 n c1, .int .i64 x.ver, .bool x.stopped] 43)).alloc (.cells #[.int .i64 x.id, .int .i64 x.ty, .int .i64 x.prio, .int .i64 x.par, .slice A2 n c2, .int .i64 x.ver, .bool x.stopped] 43)) w.heap.size 43 #[.int .i64 x.id, .int .i64 x.ty, .int .i64 x.prio, .int .i64 x.par, .slice A1 n c1, .int .i64 x.ver, .bool x.stopped] := (Blk.new w _ _).ext (S := Nothing) (by (repeat' (first | (with_reducible assumption) | (with_reducible exact Ext.refl _ _) | (with_reducible refine Ext.alloc ?_ _) | (with_reducible refine Ext.drew ?_) | (with_reducible refine Ext.drewN ?_ _) | (with_reducible refine Ext.setCell ?_ (.inl (by simp only [World.size_alloc, World.size_setCell, World.size_drew] <;> omega)) _) | (with_reducible refine Ext.trans ?_ (by assumption) (fun _ _ e => e))))) (fun e => e)
  have b2 : Blk ((w.alloc (.cells #[.int .i64 x.id, .int .i64 x.ty, .int .i64 x.prio, .int .i64 x.par, .slice A1 n c1, .int .i64 x.ver, .bool x.stopped] 43)).alloc (.cells #[.int .i64 x.id, .int .i64 x.ty, .int .i64 x.prio, .int .i64 x.par, .slice A2 n c2, .int .i64 x.ver, .bool x.stopped] 43)) (w.heap.size + 1) 43 #[.int .i64 x.id, .int .i64 x.ty, .int .i64 x.prio, .int .i64 x.par, .slice A2 n c2, .int .i64 x.ver, .bool x.stopped] := Blk.new' _ _ _ (by simp)
  go_enter Tryz.func46, Tryz.ntmps46
  go_wp2
  generalize ((w.alloc (.cells #[.int .i64 x.id, .int .i64 x.ty, .int .i64 x.prio, .int .i64 x.par, .slice A1 n c1, .int .i64 x.ver, .bool x.stopped] 43)).alloc (.cells #[.int .i64 x.id, .int .i64 x.ty, .int .i64 x.prio, .int .i64 x.par, .slice A2 n c2, .int .i64 x.ver, .bool x.stopped] 43)) = W at hx0 b1 b2 ⊢
  go_loopw [5] (fun i wr => ∃ t : Nat, t ≤ n ∧ i = .int .i64 t ∧ Ext Nothing W wr) (fun i _ => n - (intOf i).toNat)
  case atStart => exact ⟨0, Nat.zero_le _, rfl, Ext.refl _ _⟩
  case round =>
    obtain ⟨t, ht, rfl, hx⟩ := hrel
    have q1 : wr.cell? ⟨w.heap.size, 4, none⟩ = some (.slice A1 n c1) := (b1.ext hx (fun e => e)).cell 4
    have q2 : wr.cell? ⟨w.heap.size + 1, 4, none⟩ = some (.slice A2 n c2) := (b2.ext hx (fun e => e)).cell 4
    by_cases hlt : t < n
    · have hxw := hx0.trans hx (fun _ _ e => e)
      obtain ⟨hjn, d1, f1, hA1, hc1⟩ := h1.get hxw hlt
      obtain ⟨_, d2, f2, hA2, hc2⟩ := h2.get hxw hlt
      rw [hA1] at q1
      rw [hA2] at q2
      have HA1 := Lib.hid hA1
      have HA2 := Lib.hid hA2
      clear hA1 hA2
      generalize x.groups[t] = g at hc1 hc2
      have r0 : wr.cell? ⟨d1, f1 + t * 3, none⟩ = some (.int .i64 g.count) := hc1 0 _ rfl
      have r1 : wr.cell? ⟨d1, f1 + t * 3 + 1, none⟩ = some (.int .i64 g.ask.cpu) := hc1 1 _ rfl
      have r2 : wr.cell? ⟨d1, f1 + t * 3 + 2, none⟩ = some (.int .i64 g.ask.mem) := hc1 2 _ rfl
      have s0 : wr.cell? ⟨d2, f2 + t * 3, none⟩ = some (.int .i64 g.count) := hc2 0 _ rfl
      have s1 : wr.cell? ⟨d2, f2 + t * 3 + 1, none⟩ = some (.int .i64 g.ask.cpu) := hc2 1 _ rfl
      have s2 : wr.cell? ⟨d2, f2 + t * 3 + 2, none⟩ = some (.int .i64 g.ask.mem) := hc2 2 _ rfl
      have hk0 : (0 : Int) ≤ (t : Int) := by omega
      have hk1 : (t : Int) < n := by omega
      go_wp2
      go_quiet (fail)
      go_wp2
      go_roundw
      case rel => exact ⟨t + 1, by omega, by go_num, hx.trans (by (repeat' (first | (with_reducible assumption) | (with_reducible exact Ext.refl _ _) | (with_reducible refine Ext.alloc ?_ _) | (with_reducible refine Ext.drew ?_) | (with_reducible refine Ext.drewN ?_ _) | (with_reducible refine Ext.setCell ?_ (.inl (by simp only [World.size_alloc, World.size_setCell, World.size_drew] <;> omega)) _) | (with_reducible refine Ext.trans ?_ (by assumption) (fun _ _ e => e))))) (fun _ _ e => e)⟩
      case measure => simp [intOf]; omega
    · go_wp2
      go_ret
      exact ⟨rfl, hx0.trans hx (fun _ _ e => e)⟩


set_option maxRecDepth 100000 in
set_option maxHeartbeats 4000000 in
theorem refAllocs (l : List AllocD) (A1 : Option Addr) (n c1 : Nat) (A2 : Option Addr) (c2 : Nat) (w : World) (h1 : Sl w 11 A1 n (l.map AllocD.cells)) (h2 : Sl w 11 A2 n (l.map AllocD.cells)) (hn : n ≤ 1048576) :
    Calls Tryz.prog 28 #[.slice A1 n c1, .slice A2 n c2] w fun e w' => e = .returned (.bool true) ∧ Ext Nothing w w' := by
  go_enter Tryz.func28, Tryz.ntmps28
  go_wp2
  go_loopw [5] (fun i wr => ∃ t : Nat, t ≤ n ∧ i = .int .i64 t ∧ Ext Nothing w wr) (fun i _ => n - (intOf i).toNat)
  case atStart => exact ⟨0, Nat.zero_le _, rfl, Ext.refl _ _⟩
  case round =>
    obtain ⟨t, ht, rfl, hx⟩ := hrel
    by_cases hlt : t < n
    · obtain ⟨hjn, d1, f1, rfl, hc1⟩ := h1.get hx hlt
      obtain ⟨_, d2, f2, rfl, hc2⟩ := h2.get hx hlt
      generalize l[t] = x at hc1 hc2
      have r0 : wr.cell? ⟨d1, f1 + t * 11, none⟩ = some (.int .i64 x.id) := hc1 0 _ rfl
      have r1 : wr.cell? ⟨d1, f1 + t * 11 + 1, none⟩ = some (.int .i64 x.job) := hc1 1 _ rfl
      have r2 : wr.cell? ⟨d1, f1 + t * 11 + 2, none⟩ = some (.int .i64 x.ver) := hc1 2 _ rfl
      have r3 : wr.cell? ⟨d1, f1 + t * 11 + 3, none⟩ = some (.int .i64 x.group) := hc1 3 _ rfl
      have r4 : wr.cell? ⟨d1, f1 + t * 11 + 4, none⟩ = some (.int .i64 x.index) := hc1 4 _ rfl
      have r5 : wr.cell? ⟨d1, f1 + t * 11 + 5, none⟩ = some (.int .i64 x.node) := hc1 5 _ rfl
      have r6 : wr.cell? ⟨d1, f1 + t * 11 + 6, none⟩ = some (.int .i64 x.epoch) := hc1 6 _ rfl
      have r7 : wr.cell? ⟨d1, f1 + t * 11 + 7, none⟩ = some (.int .i64 x.ask.cpu) := hc1 7 _ rfl
      have r8 : wr.cell? ⟨d1, f1 + t * 11 + 8, none⟩ = some (.int .i64 x.ask.mem) := hc1 8 _ rfl
      have r9 : wr.cell? ⟨d1, f1 + t * 11 + 9, none⟩ = some (.bool x.stop) := hc1 9 _ rfl
      have r10 : wr.cell? ⟨d1, f1 + t * 11 + 10, none⟩ = some (.int .i64 x.state) := hc1 10 _ rfl
      have s0 : wr.cell? ⟨d2, f2 + t * 11, none⟩ = some (.int .i64 x.id) := hc2 0 _ rfl
      have s1 : wr.cell? ⟨d2, f2 + t * 11 + 1, none⟩ = some (.int .i64 x.job) := hc2 1 _ rfl
      have s2 : wr.cell? ⟨d2, f2 + t * 11 + 2, none⟩ = some (.int .i64 x.ver) := hc2 2 _ rfl
      have s3 : wr.cell? ⟨d2, f2 + t * 11 + 3, none⟩ = some (.int .i64 x.group) := hc2 3 _ rfl
      have s4 : wr.cell? ⟨d2, f2 + t * 11 + 4, none⟩ = some (.int .i64 x.index) := hc2 4 _ rfl
      have s5 : wr.cell? ⟨d2, f2 + t * 11 + 5, none⟩ = some (.int .i64 x.node) := hc2 5 _ rfl
      have s6 : wr.cell? ⟨d2, f2 + t * 11 + 6, none⟩ = some (.int .i64 x.epoch) := hc2 6 _ rfl
      have s7 : wr.cell? ⟨d2, f2 + t * 11 + 7, none⟩ = some (.int .i64 x.ask.cpu) := hc2 7 _ rfl
      have s8 : wr.cell? ⟨d2, f2 + t * 11 + 8, none⟩ = some (.int .i64 x.ask.mem) := hc2 8 _ rfl
      have s9 : wr.cell? ⟨d2, f2 + t * 11 + 9, none⟩ = some (.bool x.stop) := hc2 9 _ rfl
      have s10 : wr.cell? ⟨d2, f2 + t * 11 + 10, none⟩ = some (.int .i64 x.state) := hc2 10 _ rfl
      have hk0 : (0 : Int) ≤ (t : Int) := by omega
      have hk1 : (t : Int) < n := by omega
      go_wp2
      go_quiet (fail)
      go_wp2
      go_roundw
      case rel => exact ⟨t + 1, by omega, by go_num, hx.trans (by (repeat' (first | (with_reducible assumption) | (with_reducible exact Ext.refl _ _) | (with_reducible refine Ext.alloc ?_ _) | (with_reducible refine Ext.drew ?_) | (with_reducible refine Ext.drewN ?_ _) | (with_reducible refine Ext.setCell ?_ (.inl (by simp only [World.size_alloc, World.size_setCell, World.size_drew] <;> omega)) _) | (with_reducible refine Ext.trans ?_ (by assumption) (fun _ _ e => e))))) (fun _ _ e => e)⟩
      case measure => simp [intOf]; omega
    · go_wp2
      go_ret
      exact ⟨rfl, hx⟩


set_option maxHeartbeats 2000000 in
theorem refResults (r : ResultD) (A1 : Option Addr) (n c1 : Nat) (A2 : Option Addr) (c2 : Nat) (w : World) (h1 : Sl w 11 A1 n (r.allocs.map AllocD.cells)) (h2 : Sl w 11 A2 n (r.allocs.map AllocD.cells)) (hn : n ≤ 1048576) :
    Calls Tryz.prog 29 #[.agg #[.int .i64 r.code, .int .i64 r.value, .slice A1 n c1], .agg #[.int .i64 r.code, .int .i64 r.value, .slice A2 n c2]] w fun e w' => e = .returned (.bool true) ∧ Ext Nothing w w' := by
  have hx0 : Ext Nothing w ((w.alloc (.cells #[.int .i64 r.code, .int .i64 r.value, .slice A1 n c1] 47)).alloc (.cells #[.int .i64 r.code, .int .i64 r.value, .slice A2 n c2] 47)) := by (repeat' (first | (with_reducible assumption) | (with_reducible exact Ext.refl _ _) | (with_reducible refine Ext.alloc ?_ _) | (with_reducible refine Ext.drew ?_) | (with_reducible refine Ext.drewN ?_ _) | (with_reducible refine Ext.setCell ?_ (.inl (by simp only [World.size_alloc, World.size_setCell, World.size_drew] <;> omega)) _) | (with_reducible refine Ext.trans ?_ (by assumption) (fun _ _ e => e))))
  have b1 : Blk ((w.alloc (.cells #[.int .i64 r.code, .int .i64 r.value, .slice A1 n c1] 47)).alloc (.cells #[.int .i64 r.code, .int .i64 r.value, .slice A2 n c2] 47)) w.heap.size 47 #[.int .i64 r.code, .int .i64 r.value, .slice A1 n c1] := (Blk.new w _ _).ext (S := Nothing) (by (repeat' (first | (with_reducible assumption) | (with_reducible exact Ext.refl _ _) | (with_reducible refine Ext.alloc ?_ _) | (with_reducible refine Ext.drew ?_) | (with_reducible refine Ext.drewN ?_ _) | (with_reducible refine Ext.setCell ?_ (.inl (by simp only [World.size_alloc, World.size_setCell, World.size_drew] <;> omega)) _) | (with_reducible refine Ext.trans ?_ (by assumption) (fun _ _ e => e))))) (fun e => e)
  have b2 : Blk ((w.alloc (.cells #[.int .i64 r.code, .int .i64 r.value, .slice A1 n c1] 47)).alloc (.cells #[.int .i64 r.code, .int .i64 r.value, .slice A2 n c2] 47)) (w.heap.size + 1) 47 #[.int .i64 r.code, .int .i64 r.value, .slice A2 n c2] := Blk.new' _ _ _ (by simp)
  have e1 := h1.ext0 hx0
  have e2 := h2.ext0 hx0
  go_enter Tryz.func29, Tryz.ntmps29
  go_wp2_with (go_at_call 28; refine (refAllocs r.allocs A1 n c1 A2 c2 _ e1 e2 hn).mono ?_; rintro e w1 ⟨rfl, hx1⟩; have q0 : w1.cell? ⟨w.heap.size, 0, none⟩ = some (.int .i64 r.code) := (b1.ext hx1 (fun e => e)).cell 0; have q1 : w1.cell? ⟨w.heap.size, 1, none⟩ = some (.int .i64 r.value) := (b1.ext hx1 (fun e => e)).cell 1; have s0 : w1.cell? ⟨w.heap.size + 1, 0, none⟩ = some (.int .i64 r.code) := (b2.ext hx1 (fun e => e)).cell 0; have s1 : w1.cell? ⟨w.heap.size + 1, 1, none⟩ = some (.int .i64 r.value) := (b2.ext hx1 (fun e => e)).cell 1)
  go_ret
  exact ⟨rfl, hx0.trans hx1 (fun _ _ e => e)⟩


theorem fst_at {α β : Type} {l l' : List (α × β)} (h : l'.map (·.1) = l.map (·.1)) {i : Nat} (hi : i < l.length) (hi' : i < l'.length) : l'[i].1 = l[i].1 := by
  have h1 : (l'.map (·.1))[i]? = (l.map (·.1))[i]? := by rw [h]
  simpa [List.getElem?_eq_getElem hi, List.getElem?_eq_getElem hi'] using h1
set_option maxRecDepth 100000 in
set_option maxHeartbeats 4000000 in
theorem refJobs (l l' : List JobV) (hll : l'.map (·.1) = l.map (·.1)) (A1 : Option Addr) (n c1 : Nat) (A2 : Option Addr) (c2 : Nat) (w : World) (h1 : Sl w 7 A1 n (l.map JobV.cells)) (h2 : Sl w 7 A2 n (l'.map JobV.cells)) (k1 : ∀ x ∈ l, JobV.ok w x) (k2 : ∀ x ∈ l', JobV.ok w x) (hn : n ≤ 1048576) :
    Calls Tryz.prog 27 #[.slice A1 n c1, .slice A2 n c2] w fun e w' => e = .returned (.bool true) ∧ Ext Nothing w w' := by
  go_enter Tryz.func27, Tryz.ntmps27
  go_wp2
  go_loopw [5] (fun i wr => ∃ t : Nat, t ≤ n ∧ i = .int .i64 t ∧ Ext Nothing w wr) (fun i _ => n - (intOf i).toNat)
  case atStart => exact ⟨0, Nat.zero_le _, rfl, Ext.refl _ _⟩
  case round =>
    obtain ⟨t, ht, rfl, hx⟩ := hrel
    by_cases hlt : t < n
    · obtain ⟨hj1, d1, f1, rfl, hc1⟩ := h1.get hx hlt
      obtain ⟨hj2, d2, f2, rfl, hc2⟩ := h2.get hx hlt
      have ho1 := k1 _ (List.getElem_mem hj1)
      have ho2 := k2 _ (List.getElem_mem hj2)
      have hee := fst_at hll hj1 hj2
      generalize l[t] = y at hc1 ho1 hee
      generalize l'[t] = y' at hc2 ho2 hee
      obtain ⟨x, g1⟩ := y
      obtain ⟨x', g2⟩ := y'
      simp only at hee
      subst hee
      obtain ⟨_, B1, m1, b1, rfl, hs1, _, hm1⟩ := ho1
      obtain ⟨_, B2, m2, b2, rfl, hs2, _, hm2⟩ := ho2
      simp only at hs1 hs2
      obtain rfl : m2 = m1 := by have := hs1.len; have := hs2.len; omega
      have hk0 : (0 : Int) ≤ (t : Int) := by omega
      have hk1 : (t : Int) < n := by omega
      have hcf1 : ∀ (wz : World), Ext Nothing wr wz → ∀ q v, (#[.int .i64 x'.id, .int .i64 x'.ty, .int .i64 x'.prio, .int .i64 x'.par, .slice B1 m2 b1, .int .i64 x'.ver, .bool x'.stopped] : Array Value).toList[q]? = some v → wz.cell? ⟨d1, f1 + t * 7 + q, none⟩ = some v := fun wz hz q v hv => hz.cell (hc1 q v hv) (fun e => e)
      have hcf2 : ∀ (wz : World), Ext Nothing wr wz → ∀ q v, (#[.int .i64 x'.id, .int .i64 x'.ty, .int .i64 x'.prio, .int .i64 x'.par, .slice B2 m2 b2, .int .i64 x'.ver, .bool x'.stopped] : Array Value).toList[q]? = some v → wz.cell? ⟨d2, f2 + t * 7 + q, none⟩ = some v := fun wz hz q v hv => hz.cell (hc2 q v hv) (fun e => e)
      go_wp2
      refine wp_region_held (S := fun W => Ext Nothing wr W) (by kernel_rfl) ?_
      have hd : Ext Nothing wr wr.drew := Ext.drew (Ext.refl _ _)
      change wpAnyH _ _ _ _ _ _ _ _ wr.drew
      generalize wr.drew = Wd at hd ⊢
      refine wpAnyH_take (i := 0) (v := .slice (some ⟨d1, f1, none⟩) n c1) rfl (by kernel_rfl) (by kernel_rfl) (by kernel_rfl) (fun _ _ _ h => h) (.inl ⟨by rfl, ?_⟩) hd ?_
      · intro W' hS'
        go_simp
      refine wpAnyH_take (i := 1) (v := .int .i64 (t : Int)) rfl (by kernel_rfl) (by kernel_rfl) (by kernel_rfl) (fun _ _ _ h => h) (.inl ⟨by rfl, ?_⟩) hd ?_
      · intro W' hS'
        go_simp
      refine wpAnyH_take (i := 2) (v := .pointer (some ⟨d1, f1 + t * 7, none⟩)) rfl (by kernel_rfl) (by kernel_rfl) (by kernel_rfl) (fun _ _ _ h => h) (.inl ⟨by rfl, ?_⟩) hd ?_
      · intro W' hS'
        go_simp
      refine wpAnyH_take (i := 3) (v := .agg #[.int .i64 x'.id, .int .i64 x'.ty, .int .i64 x'.prio, .int .i64 x'.par, .slice B1 m2 b1, .int .i64 x'.ver, .bool x'.stopped]) rfl (by kernel_rfl) (by kernel_rfl) (by kernel_rfl) (fun _ _ _ h => h) (.inl ⟨by rfl, ?_⟩) hd ?_
      · intro W' hS'
        exact run_load_struct (sz := 7) (b := d1) (off := f1 + t * 7) rfl STJob (by go_simp) (hcf1 W' hS') rfl
      refine wpAnyH_take (i := 4) (v := .slice (some ⟨d2, f2, none⟩) n c2) rfl (by kernel_rfl) (by kernel_rfl) (by kernel_rfl) (fun _ _ _ h => h) (.inl ⟨by rfl, ?_⟩) hd ?_
      · intro W' hS'
        go_simp
      refine wpAnyH_take (i := 5) (v := .int .i64 (t : Int)) rfl (by kernel_rfl) (by kernel_rfl) (by kernel_rfl) (fun _ _ _ h => h) (.inl ⟨by rfl, ?_⟩) hd ?_
      · intro W' hS'
        go_simp
      refine wpAnyH_take (i := 6) (v := .pointer (some ⟨d2, f2 + t * 7, none⟩)) rfl (by kernel_rfl) (by kernel_rfl) (by kernel_rfl) (fun _ _ _ h => h) (.inl ⟨by rfl, ?_⟩) hd ?_
      · intro W' hS'
        go_simp
      refine wpAnyH_take (i := 7) (v := .agg #[.int .i64 x'.id, .int .i64 x'.ty, .int .i64 x'.prio, .int .i64 x'.par, .slice B2 m2 b2, .int .i64 x'.ver, .bool x'.stopped]) rfl (by kernel_rfl) (by kernel_rfl) (by kernel_rfl) (fun _ _ _ h => h) (.inl ⟨by rfl, ?_⟩) hd ?_
      · intro W' hS'
        exact run_load_struct (sz := 7) (b := d2) (off := f2 + t * 7) rfl STJob (by go_simp) (hcf2 W' hS') rfl
      simp only [Act.put, List.getElem_toArray, List.getElem_cons_succ, List.getElem_cons_zero, List.setIfInBounds_toArray, List.set_cons_succ, List.set_cons_zero]
      refine wpAnyH_all (rs := [8]) (by kernel_rfl) (by simp) (List.forall_mem_cons.2 ⟨?_, fun _ h => absurd h (by simp)⟩)
      refine wpOp_call (f := 46) (args := #[.agg #[.int .i64 x'.id, .int .i64 x'.ty, .int .i64 x'.prio, .int .i64 x'.par, .slice B1 m2 b1, .int .i64 x'.ver, .bool x'.stopped], .agg #[.int .i64 x'.id, .int .i64 x'.ty, .int .i64 x'.prio, .int .i64 x'.par, .slice B2 m2 b2, .int .i64 x'.ver, .bool x'.stopped]]) rfl (by rfl) (by go_simp) ((refSameJob x' B1 m2 b1 B2 b2 Wd (hs1.ext0 (hx.trans hd (fun _ _ e => e))) (hs2.ext0 (hx.trans hd (fun _ _ e => e))) (by omega)).mono ?_)
      rintro e W5 ⟨rfl, hx5⟩
      have hd5 := hd.trans hx5 (fun _ _ e => e)
      refine ⟨_, rfl, hd5, ?_⟩
      simp only [Act.put, List.getElem_toArray, List.getElem_cons_succ, List.getElem_cons_zero, List.setIfInBounds_toArray, List.set_cons_succ, List.set_cons_zero]
      refine wpAnyH_all (rs := [9]) (by kernel_rfl) (by simp) (List.forall_mem_cons.2 ⟨?_, fun _ h => absurd h (by simp)⟩)
      refine wpOp_val (v := .bool true) (w' := W5) rfl (by rfl) (by go_simp) ⟨hd5, wpAnyH_done (by kernel_rfl) ?_ _⟩
      simp only [Act.put, List.getElem_toArray, List.getElem_cons_succ, List.getElem_cons_zero, List.setIfInBounds_toArray, List.set_cons_succ, List.set_cons_zero]
      go_wp2
      go_roundw
      case rel => exact ⟨t + 1, by omega, by go_num, hx.trans hd5 (fun _ _ e => e)⟩
      case measure => simp [intOf]; omega
    · go_wp2
      go_ret
      exact ⟨rfl, hx⟩

end Go.Proofs.YtfmkoemogicdkaaGreat