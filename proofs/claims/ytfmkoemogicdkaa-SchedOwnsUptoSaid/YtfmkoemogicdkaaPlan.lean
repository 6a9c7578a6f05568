/- What the scheduler wishes for a job. (printed by wip/gen/plan.py) -/
import Derived.Test.YtfmkoemogicdkaaBest
import Derived.Test.YtfmkoemogicdkaaDiff
namespace Go.Proofs.Ytfmkoemogicdkaa
set_option linter.unusedVariables false
open Go.RowKit

theorem best_find {ns : List NodD} {l more : List AllocD} {ask : ResD} {q : Int × Int} (h : bestF ns l more ask = some q) : ∃ n, ns.find? (fun n => n.id == q.1) = some n := by
  have key : ∀ (m : List NodD) (o : Option (Int × Int)), (∀ q, o = some q → ∃ n, ns.find? (fun n => n.id == q.1) = some n) → ∀ q, m.foldl (bestStep ns l more ask) o = some q → ∃ n, ns.find? (fun n => n.id == q.1) = some n := by
    intro m
    induction m with
    | nil => intro o ho q hq; exact ho q hq
    | cons x r ih =>
      intro o ho q hq
      refine ih (bestStep ns l more ask o x) (fun q hq => ?_) q hq
      cases hm : mayF ns l more x.id ask with
      | false =>
        have e : bestStep ns l more ask o x = o := by unfold bestStep; rw [if_neg (by simp [hm])]
        rw [e] at hq
        exact ho q hq
      | true =>
        obtain ⟨n, r', hfn, hur⟩ := may_true hm
        have hid : n.id = x.id := by simpa using List.find?_some hfn
        have e : bestStep ns l more ask o x = betterF o n.id (leftF n r' ask) := bestStep_true hm hfn (by rw [hid]; exact hur)
        rw [e] at hq
        have hn : ∀ lf, ∃ n', ns.find? (fun m => m.id == ((n.id, lf) : Int × Int).1) = some n' := fun lf => ⟨n, by rw [hid]; exact hfn⟩
        cases o with
        | none => simp only [betterF, Option.some.injEq] at hq; subst hq; exact hn _
        | some b =>
          simp only [betterF] at hq
          split at hq
          · simp only [Option.some.injEq] at hq; subst hq; exact hn _
          · simp only [Option.some.injEq] at hq; subst hq; exact ho _ rfl
  exact key ns none (fun q h => by cases h) q h
theorem SLal : SliceT Try.prog 24 40 11 := .of (by kernel_rfl)
theorem BYal : (Try.prog.info? 40).map (·.bytes) = some 88 := by kernel_rfl
theorem STPlan : StructT Try.prog 35 6 := .of (by kernel_rfl)
set_option maxRecDepth 100000 in
set_option maxHeartbeats 4000000 in
theorem plan_none (AJ : Option Addr) (nJ cJ : Nat) (jvs : List JobV) (k : Int) (w : World) (s0 s1 s3 s4 s5 s6 s7 s8 : Value) (hJ : Sl w 7 AJ nJ (jvs.map JobV.cells)) (hnJ : nJ ≤ 67108864) (hp : idxI (fun x : JobV => x.1.id == k) jvs = -1) :
    Calls Try.prog 8 #[.agg #[s0, s1, .slice AJ nJ cJ, s3, s4, s5, s6, s7, s8], .int .i64 k] w fun e w' => e = .returned (.agg #[.int .i64 0, .int .i64 0, .int .i64 0, .slice none 0 0, .slice none 0 0, .bool false]) ∧ Ext Nothing w w' := by
  have HP := Lib.hid hp
  clear hp
  have hx0 : Ext Nothing w ((w.alloc (.cells #[s0, s1, .slice AJ nJ cJ, s3, s4, s5, s6, s7, s8] 29)).alloc (.cells #[.int .i64 0, .int .i64 0, .int .i64 0, .slice none 0 0, .slice none 0 0, .bool false] 35)) := by (repeat' (first | (with_reducible assumption) | (with_reducible exact Ext.refl _ _) | (with_reducible refine Ext.alloc ?_ _) | (with_reducible refine Ext.drew ?_) | (with_reducible refine Ext.drewN ?_ _) | (with_reducible refine Ext.setCell ?_ (.inl (by simp only [World.size_alloc, World.size_setCell, World.size_drew] <;> omega)) _) | (with_reducible refine Ext.trans ?_ (by assumption) (fun _ _ e => e))))
  have hR : Blk ((w.alloc (.cells #[s0, s1, .slice AJ nJ cJ, s3, s4, s5, s6, s7, s8] 29)).alloc (.cells #[.int .i64 0, .int .i64 0, .int .i64 0, .slice none 0 0, .slice none 0 0, .bool false] 35)) (w.heap.size + 1) 35 #[.int .i64 0, .int .i64 0, .int .i64 0, .slice none 0 0, .slice none 0 0, .bool false] := Blk.new' _ _ _ (by simp)
  go_enter Try.func8, Try.ntmps8
  go_wp2_with (go_at_call 12; refine (findJob AJ nJ cJ jvs k _ (hJ.ext0 hx0) hnJ s0 s1 _ s3 s4 s5 s6 s7 s8 rfl).mono ?_; rintro e w1 ⟨rfl, hx1⟩; rw [HP.out])
  refine bodyPost_ret (results_cell rfl STPlan (g := w.heap.size + 1) rfl (hR.ext hx1 (fun e => e)) rfl) rfl ⟨rfl, hx0.trans hx1 (fun _ _ e => e)⟩

set_option maxRecDepth 100000 in
set_option maxHeartbeats 16000000 in
theorem plan_some (AJ : Option Addr) (nJ cJ : Nat) (jvs : List JobV) (k : Int) (ix : Nat) (j : JobD) (AG : Option Addr) (nG cG : Nat) (AN : Option Addr) (nN cN : Nat) (ns : List NodD) (AA : Option Addr) (nA cA : Nat) (l : List AllocD) (AE : Option Addr) (nE cE : Nat) (evs : List EvalD) (w : World) (s0 s1 s3 s7 s8 : Value)
    (hJ : Sl w 7 AJ nJ (jvs.map JobV.cells)) (hnJ : nJ ≤ 1048576) (hp : idxI (fun x : JobV => x.1.id == k) jvs = ix) (hix : jvs[ix]? = some (j, .slice AG nG cG))
    (hG : Sl w 3 AG nG (j.groups.map GroupD.cells)) (hN : Sl w 8 AN nN (ns.map NodD.cells)) (hA : Sl w 11 AA nA (l.map AllocD.cells)) (hE : Sl w 4 AE nE (evs.map EvalD.cells)) (hnG : nG ≤ 1048576) (hnN : nN ≤ 1048576) (hnA : nA ≤ 1048576) (hnE : nE ≤ 1048576)
    (h64 : ∀ n ∈ ns, In64 n.id) (ha64 : ∀ a ∈ l, In64 a.group ∧ In64 a.index) :
    Calls Try.prog 8 #[.agg #[s0, s1, .slice AJ nJ cJ, s3, .slice AN nN cN, .slice AA nA cA, .slice AE nE cE, s7, s8], .int .i64 k] w fun e w' => ∃ A1 c1 A2 c2, e = .returned (.agg #[.int .i64 j.id, .int .i64 j.ver, .int .i64 (evIndex evs k), .slice A1 (stopsF ns l j).length c1, .slice A2 (placesF ns l j).1.length c2, .bool (placesF ns l j).2]) ∧
      w'.ownsRow w.heap.size 3 1 (.slice A1 (stopsF ns l j).length c1) (stopsF ns l j).length ((stopsF ns l j).flatMap intC) ∧ w'.ownsRow w.heap.size 40 11 (.slice A2 (placesF ns l j).1.length c2) (placesF ns l j).1.length ((placesF ns l j).1.flatMap AllocD.cells) ∧ Ext Nothing w w' := by
  have HP := Lib.hid hp
  have hp' := hp
  clear hp
  have hil : ix < jvs.length := (List.getElem?_eq_some_iff.1 hix).1
  have hin : ix < nJ := by have := hJ.len; omega
  have hi2 : ¬ ((ix : Int) < 0) := by omega
  have hx0 : Ext Nothing w ((w.alloc (.cells #[s0, s1, .slice AJ nJ cJ, s3, .slice AN nN cN, .slice AA nA cA, .slice AE nE cE, s7, s8] 29)).alloc (.cells #[.int .i64 0, .int .i64 0, .int .i64 0, .slice none 0 0, .slice none 0 0, .bool false] 35)) := by (repeat' (first | (with_reducible assumption) | (with_reducible exact Ext.refl _ _) | (with_reducible refine Ext.alloc ?_ _) | (with_reducible refine Ext.drew ?_) | (with_reducible refine Ext.drewN ?_ _) | (with_reducible refine Ext.setCell ?_ (.inl (by simp only [World.size_alloc, World.size_setCell, World.size_drew] <;> omega)) _) | (with_reducible refine Ext.trans ?_ (by assumption) (fun _ _ e => e))))
  have hB0 : Blk ((w.alloc (.cells #[s0, s1, .slice AJ nJ cJ, s3, .slice AN nN cN, .slice AA nA cA, .slice AE nE cE, s7, s8] 29)).alloc (.cells #[.int .i64 0, .int .i64 0, .int .i64 0, .slice none 0 0, .slice none 0 0, .bool false] 35)) w.heap.size 29 #[s0, s1, .slice AJ nJ cJ, s3, .slice AN nN cN, .slice AA nA cA, .slice AE nE cE, s7, s8] := (Blk.new w _ _).ext (S := Nothing) (by (repeat' (first | (with_reducible assumption) | (with_reducible exact Ext.refl _ _) | (with_reducible refine Ext.alloc ?_ _) | (with_reducible refine Ext.drew ?_) | (with_reducible refine Ext.drewN ?_ _) | (with_reducible refine Ext.setCell ?_ (.inl (by simp only [World.size_alloc, World.size_setCell, World.size_drew] <;> omega)) _) | (with_reducible refine Ext.trans ?_ (by assumption) (fun _ _ e => e))))) (fun e => e)
  have hR0 : Blk ((w.alloc (.cells #[s0, s1, .slice AJ nJ cJ, s3, .slice AN nN cN, .slice AA nA cA, .slice AE nE cE, s7, s8] 29)).alloc (.cells #[.int .i64 0, .int .i64 0, .int .i64 0, .slice none 0 0, .slice none 0 0, .bool false] 35)) (w.heap.size + 1) 35 #[.int .i64 0, .int .i64 0, .int .i64 0, .slice none 0 0, .slice none 0 0, .bool false] := Blk.new' _ _ _ (by simp)
  obtain ⟨_, b, off, rfl, hce⟩ := hJ.get (Ext.refl _ _) hin
  rw [(List.getElem?_eq_some_iff.1 hix).2] at hce
  go_enter Try.func8, Try.ntmps8
  go_wp2_with (first | (go_at_call 12; refine (findJob _ nJ cJ jvs k _ (hJ.ext0 hx0) (by omega) s0 s1 _ s3 _ _ _ s7 s8 rfl).mono ?_; rintro e w1 ⟨rfl, hx1⟩; rw [HP.out]; have hx01 : Ext Nothing w w1 := hx0.trans hx1 (fun _ _ e => e); have cs : w1.cell? ⟨w.heap.size, 2, none⟩ = some (.slice (some ⟨b, off, none⟩) nJ cJ) := (hB0.ext hx1 (fun e => e)).cell 2; have hjc : ∀ q u, (#[.int .i64 j.id, .int .i64 j.ty, .int .i64 j.prio, .int .i64 j.par, .slice AG nG cG, .int .i64 j.ver, .bool j.stopped] : Array Value).toList[q]? = some u → w1.cell? ⟨b, off + ix * 7 + q, none⟩ = some u := fun q u hu => hx01.cell (hce q u hu) (fun e => e)) | (refine wpList_load_at rfl 50 _ rfl STJob b (off + ix * 7) rfl #[.int .i64 j.id, .int .i64 j.ty, .int .i64 j.prio, .int .i64 j.par, .slice AG nG cG, .int .i64 j.ver, .bool j.stopped] hjc rfl ?_))
  have hx01' := hx01
  have hz1 := hx01.size
  have hb1 := hB0.ext hx1 (fun e => e)
  have hr1 := hR0.ext hx1 (fun e => e)
  have hr1lt := hr1.lt
  have hb2 : Blk (w1.alloc (.cells #[.int .i64 j.id, .int .i64 j.ty, .int .i64 j.prio, .int .i64 j.par, .slice AG nG cG, .int .i64 j.ver, .bool j.stopped] 50)) w.heap.size 29 #[s0, s1, .slice (some ⟨b, off, none⟩) nJ cJ, s3, .slice AN nN cN, .slice AA nA cA, .slice AE nE cE, s7, s8] := hb1.ext (S := Nothing) (by (repeat' (first | (with_reducible assumption) | (with_reducible exact Ext.refl _ _) | (with_reducible refine Ext.alloc ?_ _) | (with_reducible refine Ext.drew ?_) | (with_reducible refine Ext.drewN ?_ _) | (with_reducible refine Ext.setCell ?_ (.inl (by simp only [World.size_alloc, World.size_setCell, World.size_drew] <;> omega)) _) | (with_reducible refine Ext.trans ?_ (by assumption) (fun _ _ e => e))))) (fun e => e)
  have hr2 : Blk (w1.alloc (.cells #[.int .i64 j.id, .int .i64 j.ty, .int .i64 j.prio, .int .i64 j.par, .slice AG nG cG, .int .i64 j.ver, .bool j.stopped] 50)) (w.heap.size + 1) 35 #[.int .i64 0, .int .i64 0, .int .i64 0, .slice none 0 0, .slice none 0 0, .bool false] := hr1.ext (S := Nothing) (by (repeat' (first | (with_reducible assumption) | (with_reducible exact Ext.refl _ _) | (with_reducible refine Ext.alloc ?_ _) | (with_reducible refine Ext.drew ?_) | (with_reducible refine Ext.drewN ?_ _) | (with_reducible refine Ext.setCell ?_ (.inl (by simp only [World.size_alloc, World.size_setCell, World.size_drew] <;> omega)) _) | (with_reducible refine Ext.trans ?_ (by assumption) (fun _ _ e => e))))) (fun e => e)
  have hj2 : Blk (w1.alloc (.cells #[.int .i64 j.id, .int .i64 j.ty, .int .i64 j.prio, .int .i64 j.par, .slice AG nG cG, .int .i64 j.ver, .bool j.stopped] 50)) w1.heap.size 50 #[.int .i64 j.id, .int .i64 j.ty, .int .i64 j.prio, .int .i64 j.par, .slice AG nG cG, .int .i64 j.ver, .bool j.stopped] := Blk.new _ _ _
  have hw2 : Ext Nothing w (w1.alloc (.cells #[.int .i64 j.id, .int .i64 j.ty, .int .i64 j.prio, .int .i64 j.par, .slice AG nG cG, .int .i64 j.ver, .bool j.stopped] 50)) := hx01.alloc _
  generalize w1.alloc (.cells #[.int .i64 j.id, .int .i64 j.ty, .int .i64 j.prio, .int .i64 j.par, .slice AG nG cG, .int .i64 j.ver, .bool j.stopped] 50) = W2 at hb2 hr2 hj2 hw2 ⊢
  have hS : Ext (fun q => q = w.heap.size + 1) W2 W2.drew := Ext.drew (Ext.refl _ _)
  refine wp_region_held (S := fun W' => Ext (fun q => q = w.heap.size + 1) W2 W') (by kernel_rfl) ?_
  have hrd : Blk W2.drew (w.heap.size + 1) 35 #[.int .i64 0, .int .i64 0, .int .i64 0, .slice none 0 0, .slice none 0 0, .bool false] := hr2
  change wpAnyH _ _ _ _ _ _ _ _ W2.drew
  generalize W2.drew = Wd at hS hrd ⊢
  refine wpAnyH_take (i := 0) (v := .pointer (some ⟨w1.heap.size, 0, none⟩)) rfl (by kernel_rfl) (by kernel_rfl) (by kernel_rfl) (fun _ _ _ h => h) (.inl ⟨by rfl, ?_⟩) hS ?_
  · intro W' hS'
    go_simp
  refine wpAnyH_take (i := 1) (v := .int .i64 j.id) rfl (by kernel_rfl) (by kernel_rfl) (by kernel_rfl) (fun _ _ _ h => h) (.inl ⟨by rfl, ?_⟩) hS ?_
  · intro W' hS'
    have q0 : W'.cell? ⟨w1.heap.size, 0, none⟩ = some (.int .i64 j.id) := (hj2.ext hS' (by omega)).cell 0
    go_simp
  refine wpAnyH_take (i := 2) (v := .pointer (some ⟨w1.heap.size, 5, none⟩)) rfl (by kernel_rfl) (by kernel_rfl) (by kernel_rfl) (fun _ _ _ h => h) (.inl ⟨by rfl, ?_⟩) hS ?_
  · intro W' hS'
    go_simp
  refine wpAnyH_take (i := 3) (v := .int .i64 j.ver) rfl (by kernel_rfl) (by kernel_rfl) (by kernel_rfl) (fun _ _ _ h => h) (.inl ⟨by rfl, ?_⟩) hS ?_
  · intro W' hS'
    have q5 : W'.cell? ⟨w1.heap.size, 5, none⟩ = some (.int .i64 j.ver) := (hj2.ext hS' (by omega)).cell 5
    go_simp
  refine wpAnyH_take (i := 4) (v := .pointer (some ⟨w.heap.size + 1, 0, none⟩)) rfl (by kernel_rfl) (by kernel_rfl) (by kernel_rfl) (fun _ _ _ h => h) (.inl ⟨by rfl, ?_⟩) hS ?_
  · intro W' hS'
    go_simp
  simp only [Act.put, List.getElem_toArray, List.getElem_cons_succ, List.getElem_cons_zero, List.setIfInBounds_toArray, List.set_cons_succ, List.set_cons_zero]
  have q0 : Wd.cell? ⟨w.heap.size + 1, 0, none⟩ = some (.int .i64 0) := hrd.cell 0
  have q1 : Wd.cell? ⟨w.heap.size + 1, 1, none⟩ = some (.int .i64 0) := hrd.cell 1
  have f0 : Wd.frozen? ⟨w.heap.size + 1, 0, none⟩ = false := hrd.frozen 0
  have f1 : Wd.frozen? ⟨w.heap.size + 1, 1, none⟩ = false := hrd.frozen 1
  have hd2 := hrd
  have ha := hd2.set_ 0 (.int .i64 j.id)
  have ha1 : (Wd.setCell ⟨w.heap.size + 1, 0, none⟩ (.int .i64 j.id)).cell? ⟨w.heap.size + 1, 1, none⟩ = some (.int .i64 0) := ha.cell 1
  have ha2 : (Wd.setCell ⟨w.heap.size + 1, 0, none⟩ (.int .i64 j.id)).frozen? ⟨w.heap.size + 1, 1, none⟩ = false := ha.frozen 1
  refine wpAnyH_all (rs := [5]) (by kernel_rfl) (by simp) (List.forall_mem_cons.2 ⟨?_, fun _ h => absurd h (by simp)⟩)
  refine wpOp_none (w' := Wd.setCell ⟨w.heap.size + 1, 0, none⟩ (.int .i64 j.id)) rfl (by rfl) (by go_simp) ⟨hS.setCell (.inr rfl) _, ?_⟩
  simp only [Act.put, List.getElem_toArray, List.getElem_cons_succ, List.getElem_cons_zero, List.setIfInBounds_toArray, List.set_cons_succ, List.set_cons_zero]
  refine wpAnyH_take (i := 6) (v := .pointer (some ⟨w.heap.size + 1, 1, none⟩)) rfl (by kernel_rfl) (by kernel_rfl) (by kernel_rfl) (fun _ _ _ h => h) (.inl ⟨by rfl, ?_⟩) (hS.setCell (.inr rfl) _) ?_
  · intro W' hS'
    go_simp
  simp only [Act.put, List.getElem_toArray, List.getElem_cons_succ, List.getElem_cons_zero, List.setIfInBounds_toArray, List.set_cons_succ, List.set_cons_zero]
  refine wpAnyH_all (rs := [7]) (by kernel_rfl) (by simp) (List.forall_mem_cons.2 ⟨?_, fun _ h => absurd h (by simp)⟩)
  refine wpOp_none (w' := (Wd.setCell ⟨w.heap.size + 1, 0, none⟩ (.int .i64 j.id)).setCell ⟨w.heap.size + 1, 1, none⟩ (.int .i64 j.ver)) rfl (by rfl) (by go_simp) ⟨(hS.setCell (.inr rfl) _).setCell (.inr rfl) _, ?_⟩
  refine wpAnyH_done (by kernel_rfl) ?_ _
  have hr3 : Blk _ (w.heap.size + 1) 35 #[.int .i64 j.id, .int .i64 j.ver, .int .i64 0, .slice none 0 0, .slice none 0 0, .bool false] := ha.set_ 1 (.int .i64 j.ver)
  have hS3 : Ext (fun q => q = w.heap.size + 1) W2 _ := (hS.setCell (p := ⟨w.heap.size + 1, 0, none⟩) (.inr rfl) (.int .i64 j.id)).setCell (p := ⟨w.heap.size + 1, 1, none⟩) (.inr rfl) (.int .i64 j.ver)
  clear q0 q1 f0 f1 hd2 hrd ha1 ha2 ha hS
  generalize (Wd.setCell ⟨w.heap.size + 1, 0, none⟩ (.int .i64 j.id)).setCell ⟨w.heap.size + 1, 1, none⟩ (.int .i64 j.ver) = W3 at hr3 hS3 ⊢
  simp only [Act.put, List.getElem_toArray, List.getElem_cons_succ, List.getElem_cons_zero, List.setIfInBounds_toArray, List.set_cons_succ, List.set_cons_zero]
  have hb3 := hb2.ext hS3 (by omega)
  have hj3 := hj2.ext hS3 (by omega)
  have hw3 : Ext Nothing w W3 := hw2.trans hS3 (fun q hq e => absurd e (by omega))
  have hz3 := hw3.size
  have hr3lt := hr3.lt
  have hj3lt := hj3.lt
  clear hS3
  rcases idx_cases (fun e : EvalD => e.job == k) evs with ⟨he, hef, _⟩ | ⟨ie, ev, he, hei, _, hef, _⟩
  · have HE := Lib.hid he
    have HEV := Lib.hid (show evIndex evs k = 0 by unfold evIndex; rw [hef])
    clear he hef
    go_wp2_with (first | (refine wpList_load_blk rfl 29 _ rfl STStore w.heap.size rfl #[s0, s1, .slice (some ⟨b, off, none⟩) nJ cJ, s3, .slice AN nN cN, .slice AA nA cA, .slice AE nE cE, s7, s8] hb3 rfl ?_) | (go_at_call 13; refine (findEval _ nE cE evs k _ (hE.ext0 hw3) (by omega) s0 s1 _ s3 _ _ _ s7 s8 rfl).mono ?_; rintro e W4 ⟨rfl, hW4⟩; rw [HE.out]; have hb4 := hb3.ext hW4 (fun e => e); have hr4 := hr3.ext hW4 (fun e => e); have hj4 := hj3.ext hW4 (fun e => e); have hw4 : Ext Nothing w W4 := hw3.trans hW4 (fun _ _ e => e)) | (refine wpList_load_blk rfl 29 _ rfl STStore w.heap.size rfl #[s0, s1, .slice (some ⟨b, off, none⟩) nJ cJ, s3, .slice AN nN cN, .slice AA nA cA, .slice AE nE cE, s7, s8] hb4 rfl ?_) | (go_at_call 14; refine (diff_some _ nJ cJ jvs k ix j AG nG cG AN nN cN ns AA nA cA l _ s0 s1 s3 _ s7 s8 (hJ.ext0 hw4) hnJ hp' hix (hG.ext0 hw4) (hN.ext0 hw4) (hA.ext0 hw4) hnG hnN hnA h64 ha64).mono ?_; rintro e W5 ⟨A1, c1, A2, c2, rfl, own1, own2, hW5⟩; have hb5 := hb4.ext hW5 (fun e => e); have hr5 := hr4.ext hW5 (fun e => e); have hj5 := hj4.ext hW5 (fun e => e); have hw5 : Ext Nothing w W5 := hw4.trans hW5 (fun _ _ e => e); have s3c : W5.cell? ⟨w.heap.size + 1, 3, none⟩ = some (.slice none 0 0) := hr5.cell 3; have s3f : W5.frozen? ⟨w.heap.size + 1, 3, none⟩ = false := hr5.frozen 3))
    have hr4lt := hr4.lt
    have hw4z := hw4.size
    have hF := Sl.of_own (f := SlotD.cells) (fun _ => rfl) own2 rfl
    have hne2 := own_ne own2 hr5 (by decide)
    have hne1 := own_ne own1 hr5 (by decide)
    have hr6 : Blk (W5.setCell ⟨w.heap.size + 1, 3, none⟩ (.slice A1 (stopsF ns l j).length c1)) (w.heap.size + 1) 35 #[.int .i64 j.id, .int .i64 j.ver, .int .i64 (evIndex evs k), .slice A1 (stopsF ns l j).length c1, .slice none 0 0, .bool false] := by rw [HEV.out]; exact hr5.set_ 3 _
    have hx6 : Ext (fun q => q = w.heap.size + 1) W5 (W5.setCell ⟨w.heap.size + 1, 3, none⟩ (.slice A1 (stopsF ns l j).length c1)) := Ext.set1 _ _ _ _
    have hb6 := hb5.ext hx6 (by omega)
    have hj6 := hj5.ext hx6 (by omega)
    have hw6 : Ext Nothing w (W5.setCell ⟨w.heap.size + 1, 3, none⟩ (.slice A1 (stopsF ns l j).length c1)) := hw5.trans hx6 (fun q hq e => absurd e (by omega))
    have own3 := own_ext own1 hx6 (fun g hg e => by subst e; exact hne1 hg)
    have hF6 := hF.ext hx6 (fun q hq _ e => by subst e; exact hne2 (own_block_of own2 hq))
    have hz6 := hw6.size
    have hA2 : ∀ q, A2.map (·.block) = some q → q ≠ w.heap.size + 1 := fun q hq e => by subst e; exact hne2 (own_block_of own2 hq)
    have hnm : (fillF ns l j).length ≤ 1048576 * 1048580 := Nat.le_trans (List.length_filter_le _ _) (Nat.le_trans (slotsF_len ns j) (Nat.mul_le_mul (by have := hG.len; omega) (by have := hN.len; omega)))
    have hNlen := Lib.hid hN.len
    have hb6lt := hb6.lt
    have hj6lt := hj6.lt
    generalize W5.setCell ⟨w.heap.size + 1, 3, none⟩ (.slice A1 (stopsF ns l j).length c1) = W6 at hr6 hb6 hj6 hw6 own3 hF6 hz6 ⊢
    clear hx6 hF hne2 hne1 own1 own2 hr5 hb5 hj5 hw5
    go_loopw [54] (fun i wr => ∃ t : Nat, t ≤ (fillF ns l j).length ∧ i = .int .i64 t ∧ ∃ (P : List AllocD) (bl : Bool) (A' : Option Addr) (c' : Nat), ((fillF ns l j).take t).foldl (placeStep ns l j) ([], false) = (P, bl) ∧ Blk wr (w.heap.size + 1) 35 #[.int .i64 j.id, .int .i64 j.ver, .int .i64 (evIndex evs k), .slice A1 (stopsF ns l j).length c1, .slice A' P.length c', .bool bl] ∧ wr.ownsRow W6.heap.size 40 11 (.slice A' P.length c') P.length (P.flatMap AllocD.cells) ∧ P.length ≤ t ∧ Ext (fun q => q = w.heap.size + 1) W6 wr) (fun i _ => (fillF ns l j).length - (intOf i).toNat)
    case atStart => exact ⟨0, Nat.zero_le _, rfl, [], false, none, 0, rfl, hr6, World.ownsRow_nil _ _ _ _, Nat.zero_le _, Ext.refl _ _⟩
    case round =>
      obtain ⟨t, ht, rfl, P, bl, A', c', hfold, hrr, hown, hPl, hx⟩ := hrel
      have hxw : Ext Nothing w wr := hw6.trans hx (fun q hq e => absurd e (by omega))
      by_cases hlt : t < (fillF ns l j).length
      · have hzx := hx.size
        have hbr := hb6.ext hx (by omega)
        have hjr := hj6.ext hx (by omega)
        have hFr := hF6.ext hx (fun q hq _ e => hA2 q hq e)
        obtain ⟨hjn, b2, off2, hA2e, hcf⟩ := hFr.get (Ext.refl _ _) hlt
        have hst := foldl_take (placeStep ns l j) ([], false) (fillF ns l j) t hjn
        rw [hfold] at hst
        have hmem : (fillF ns l j)[t] ∈ fillF ns l j := List.getElem_mem hjn
        generalize (fillF ns l j)[t] = x at hcf hst hmem
        obtain ⟨kk, hkk, hxg⟩ := slotsF_mem (List.mem_filter.1 hmem).1
        obtain ⟨xg, xi⟩ := x
        simp only at hxg
        subst hxg
        have hkn : kk < nG := by have := hG.len; omega
        obtain ⟨_, bG, offG, hAGe, hcG⟩ := hG.get hxw hkn
        have hask : askAt j ⟨(kk : Int), xi⟩ = (j.groups[kk]).ask := by unfold askAt; simp [hkk]
        generalize j.groups[kk] = gk at hcG hask
        obtain ⟨gc, ⟨ga1, ga2⟩⟩ := gk
        simp only at hask
        have hk0 : (0 : Int) ≤ (kk : Int) := by omega
        have hk1 : (kk : Int) < nG := by omega
        have hgc : wr.cell? ⟨w1.heap.size, 4, none⟩ = some (.slice (some ⟨bG, offG, none⟩) nG cG) := by rw [← hAGe]; exact hjr.cell 4
        have hxX : Ext Nothing wr (wr.alloc (.cells #[.int .i64 (kk : Int), .int .i64 xi] 64)) := by (repeat' (first | (with_reducible assumption) | (with_reducible exact Ext.refl _ _) | (with_reducible refine Ext.alloc ?_ _) | (with_reducible refine Ext.drew ?_) | (with_reducible refine Ext.drewN ?_ _) | (with_reducible refine Ext.setCell ?_ (.inl (by simp only [World.size_alloc, World.size_setCell, World.size_drew] <;> omega)) _) | (with_reducible refine Ext.trans ?_ (by assumption) (fun _ _ e => e))))
        have gX4 : (wr.alloc (.cells #[.int .i64 (kk : Int), .int .i64 xi] 64)).cell? ⟨w1.heap.size, 4, none⟩ = some (.slice (some ⟨bG, offG, none⟩) nG cG) := hxX.cell hgc (fun e => e)
        have gX1 : (wr.alloc (.cells #[.int .i64 (kk : Int), .int .i64 xi] 64)).cell? ⟨bG, offG + kk * 3 + 1, none⟩ = some (.int .i64 ga1) := hxX.cell (hcG 1 _ rfl) (fun e => e)
        have gX2 : (wr.alloc (.cells #[.int .i64 (kk : Int), .int .i64 xi] 64)).cell? ⟨bG, offG + kk * 3 + 1 + 1, none⟩ = some (.int .i64 ga2) := hxX.cell (hcG 2 _ rfl) (fun e => e)
        have hxA : Ext Nothing wr ((wr.alloc (.cells #[.int .i64 (kk : Int), .int .i64 xi] 64)).alloc (.cells #[.int .i64 ga1, .int .i64 ga2] 38)) := by (repeat' (first | (with_reducible assumption) | (with_reducible exact Ext.refl _ _) | (with_reducible refine Ext.alloc ?_ _) | (with_reducible refine Ext.drew ?_) | (with_reducible refine Ext.drewN ?_ _) | (with_reducible refine Ext.setCell ?_ (.inl (by simp only [World.size_alloc, World.size_setCell, World.size_drew] <;> omega)) _) | (with_reducible refine Ext.trans ?_ (by assumption) (fun _ _ e => e))))
        have hbA := hbr.ext hxA (fun e => e)
        have hjA := hjr.ext hxA (fun e => e)
        have hrA := hrr.ext hxA (fun e => e)
        have tyA : ((wr.alloc (.cells #[.int .i64 (kk : Int), .int .i64 xi] 64)).alloc (.cells #[.int .i64 ga1, .int .i64 ga2] 38)).cell? ⟨w1.heap.size, 1, none⟩ = some (.int .i64 j.ty) := hjA.cell 1
        have plA : ((wr.alloc (.cells #[.int .i64 (kk : Int), .int .i64 xi] 64)).alloc (.cells #[.int .i64 ga1, .int .i64 ga2] 38)).cell? ⟨w.heap.size + 1, 4, none⟩ = some (.slice A' P.length c') := hrA.cell 4
        have xA1 : ((wr.alloc (.cells #[.int .i64 (kk : Int), .int .i64 xi] 64)).alloc (.cells #[.int .i64 ga1, .int .i64 ga2] 38)).cell? ⟨wr.heap.size, 1, none⟩ = some (.int .i64 xi) := ((Blk.new wr 64 #[.int .i64 (kk : Int), .int .i64 xi]).ext (S := Nothing) (by (repeat' (first | (with_reducible assumption) | (with_reducible exact Ext.refl _ _) | (with_reducible refine Ext.alloc ?_ _) | (with_reducible refine Ext.drew ?_) | (with_reducible refine Ext.drewN ?_ _) | (with_reducible refine Ext.setCell ?_ (.inl (by simp only [World.size_alloc, World.size_setCell, World.size_drew] <;> omega)) _) | (with_reducible refine Ext.trans ?_ (by assumption) (fun _ _ e => e))))) (fun e => e)).cell 1
        have hownA := own_ext (S := Nothing) hown hxA (fun _ _ e => e)
        have hPs := Sl.of_own (f := AllocD.cells) (fun _ => rfl) hownA rfl
        have hwA : Ext Nothing w ((wr.alloc (.cells #[.int .i64 (kk : Int), .int .i64 xi] 64)).alloc (.cells #[.int .i64 ga1, .int .i64 ga2] 38)) := hxw.trans hxA (fun _ _ e => e)
        rw [hA2e] at *
        clear hcG hgc hxX hF6 hFr hfold hmem hAGe
        have hW6lt : w.heap.size + 1 < W6.heap.size := hr6.lt
        cases et : (j.ty == 3) with
        | true =>
          have ety : j.ty = 3 := by simpa using et
          rw [ety] at tyA
          cases hm : mayF ns l P xi ⟨ga1, ga2⟩ with
          | false =>
            have HS := Lib.hid (show ((fillF ns l j).take (t + 1)).foldl (placeStep ns l j) ([], false) = (P, true) by rw [hst]; simp [placeStep, nodeFor, ety, hask, hm])
            have HM := Lib.hid hm
            clear hst hm et ety
            go_wp2_with (first | (refine wpList_load_at rfl 64 _ rfl STSlot b2 (off2 + t * 2) rfl #[.int .i64 (kk : Int), .int .i64 xi] (by exact hcf) rfl ?_) | (refine wpList_load_blk rfl 29 _ rfl STStore w.heap.size rfl #[s0, s1, .slice (some ⟨b, off, none⟩) nJ cJ, s3, .slice AN nN cN, .slice AA nA cA, .slice AE nE cE, s7, s8] (by exact hbA) rfl ?_) | (go_at_call 15; refine (may_any AN nN cN ns AA nA cA l A' P.length c' P xi ⟨ga1, ga2⟩ _ s0 s1 _ s3 _ s7 s8 (hN.ext0 hwA) (by omega) (hA.ext0 hwA) (by omega) hPs (by omega)).mono ?_; rintro e Y ⟨rfl, hY⟩; rw [HM.out]; have hxY : Ext Nothing wr Y := hxA.trans hY (fun _ _ e => e); have hrY := hrr.ext hxY (fun e => e); have y5 : Y.cell? ⟨w.heap.size + 1, 5, none⟩ = some (.bool bl) := hrY.cell 5; have y5f : Y.frozen? ⟨w.heap.size + 1, 5, none⟩ = false := hrY.frozen 5))
            go_roundw
            case rel =>
              have hx5 : Ext (fun q => q = w.heap.size + 1) Y (Y.setCell ⟨w.heap.size + 1, 5, none⟩ (.bool true)) := Ext.set1 _ _ _ _
              exact ⟨t + 1, by omega, by go_num, P, true, A', c', HS.out, hrY.set_ 5 _, own_ext (own_ext hown hxY (fun _ _ e => e)) hx5 (fun g hg e => by have := own_ge hown hg; omega), by omega, (hx.trans hxY (fun _ _ e => e.elim)).trans hx5 (fun _ _ e => e)⟩
            case measure => simp [intOf]; omega
          | true =>
            obtain ⟨n, r0, hfn, _⟩ := may_true hm
            rcases idx_cases (fun n : NodD => n.id == xi) ns with ⟨_, hfn2, _⟩ | ⟨iN, n2, hpn, hni, _, hfn2, _⟩
            · rw [hfn] at hfn2; cases hfn2
            rw [hfn] at hfn2
            obtain rfl : n = n2 := by simpa using hfn2
            have hin' : iN < nN := by have := hNlen.out; have := (List.getElem?_eq_some_iff.1 hni).1; omega
            obtain ⟨_, bN, offN, hANe, hcn⟩ := hN.get hxw hin'
            rw [(List.getElem?_eq_some_iff.1 hni).2] at hcn
            have HPN := Lib.hid hpn
            have HS := Lib.hid (show ((fillF ns l j).take (t + 1)).foldl (placeStep ns l j) ([], false) = (P ++ [⟨0, j.id, j.ver, (kk : Int), xi, xi, n.epoch, ⟨ga1, ga2⟩, false, 0⟩], bl) by rw [hst]; simp [placeStep, nodeFor, placeOf, epochAt, hask, ety, hm, hfn])
            have HM := Lib.hid hm
            have HAN := Lib.hid hANe
            clear hANe
            have hn0 : (0 : Int) ≤ (iN : Int) := by omega
            have hn1 : (iN : Int) < nN := by omega
            clear hst hm hfn hfn2 hpn hask et ety
            go_wp2_with (first | (refine wpList_load_at rfl 64 _ rfl STSlot b2 (off2 + t * 2) rfl #[.int .i64 (kk : Int), .int .i64 xi] (by exact hcf) rfl ?_) | (refine wpList_load_blk rfl 29 _ rfl STStore w.heap.size rfl #[s0, s1, .slice (some ⟨b, off, none⟩) nJ cJ, s3, .slice AN nN cN, .slice AA nA cA, .slice AE nE cE, s7, s8] (by exact hbA) rfl ?_) | (go_at_call 15; refine (may_any AN nN cN ns AA nA cA l A' P.length c' P xi ⟨ga1, ga2⟩ _ s0 s1 _ s3 _ s7 s8 (hN.ext0 hwA) (by omega) (hA.ext0 hwA) (by omega) hPs (by omega)).mono ?_; rintro e Y ⟨rfl, hY⟩; rw [HM.out]))
            have hxY : Ext Nothing wr Y := hxA.trans hY (fun _ _ e => e)
            have hwY : Ext Nothing w Y := hxw.trans hxY (fun _ _ e => e)
            have hbY := hbr.ext hxY (fun e => e)
            have hYd : Ext Nothing Y Y.drew := Ext.drew (Ext.refl _ _)
            have hY4 : Y.cell? ⟨w.heap.size, 4, none⟩ = some (.slice (some ⟨bN, offN, none⟩) nN cN) := by rw [← HAN.out]; exact hbY.cell 4
            have hcn2 : ∀ (W' : World), Ext Nothing Y W' → ∀ q u, (#[.int .i64 n.id, .int .i64 n.cap.cpu, .int .i64 n.cap.mem, .bool n.up, .bool n.drain, .int .i64 n.boot, .int .i64 n.epoch, .int .i64 n.seq] : Array Value).toList[q]? = some u → W'.cell? ⟨bN, offN + iN * 8 + q, none⟩ = some u := fun W' h q u hu => (hxY.trans h (fun _ _ e => e)).cell (hcn q u hu) (fun e => e)
            refine wp_region_held (S := fun W' => Ext Nothing Y W') (by kernel_rfl) ?_
            refine wpAnyH_take (i := 0) (v := .pointer (some ⟨w.heap.size, 4, none⟩)) rfl (by kernel_rfl) (by kernel_rfl) (by kernel_rfl) (fun _ _ _ h => h) (.inl ⟨by rfl, ?_⟩) hYd ?_
            · intro W' hS
              go_simp
            refine wpAnyH_take (i := 1) (v := .slice (some ⟨bN, offN, none⟩) nN cN) rfl (by kernel_rfl) (by kernel_rfl) (by kernel_rfl) (fun _ _ _ h => h) (.inl ⟨by rfl, ?_⟩) hYd ?_
            · intro W' hS
              have q4 : W'.cell? ⟨w.heap.size, 4, none⟩ = some (.slice (some ⟨bN, offN, none⟩) nN cN) := hS.cell hY4 (fun e => e)
              go_simp
            refine wpAnyH_take (i := 2) (v := .agg #[s0, s1, .slice (some ⟨b, off, none⟩) nJ cJ, s3, .slice AN nN cN, .slice AA nA cA, .slice AE nE cE, s7, s8]) rfl (by kernel_rfl) (by kernel_rfl) (by kernel_rfl) (fun _ _ _ h => h) (.inl ⟨by rfl, ?_⟩) hYd ?_
            · intro W' hS
              exact run_load_struct (sz := 9) (b := w.heap.size) (off := 0) rfl STStore (by go_simp) (fun j u hu => by rw [Nat.zero_add, (hbY.ext hS (fun e => e)).cell]; simpa using hu) rfl
            refine wpAnyH_take (i := 3) (v := .int .i64 xi) rfl (by kernel_rfl) (by kernel_rfl) (by kernel_rfl) (fun _ _ _ h => h) (.inl ⟨by rfl, ?_⟩) hYd ?_
            · intro W' hS
              go_simp
            simp only [Act.put, List.getElem_toArray, List.getElem_cons_succ, List.getElem_cons_zero, List.setIfInBounds_toArray, List.set_cons_succ, List.set_cons_zero]
            refine wpAnyH_all (rs := [4, 7]) (by kernel_rfl) (by simp) (List.forall_mem_cons.2 ⟨?_, List.forall_mem_cons.2 ⟨?_, fun _ h => absurd h (by simp)⟩⟩)
            refine wpOp_call (f := 17) (args := #[.agg #[s0, s1, .slice (some ⟨b, off, none⟩) nJ cJ, s3, .slice AN nN cN, .slice AA nA cA, .slice AE nE cE, s7, s8], .int .i64 xi]) rfl (by rfl) (by go_simp) ((findNode AN nN cN ns xi _ (hN.ext0 (hwY.trans hYd (fun _ _ e => e))) (by omega) s0 s1 _ s3 _ _ _ s7 s8 rfl).mono ?_)
            rintro e V5 ⟨rfl, hV5⟩
            have hS5 : Ext Nothing Y V5 := hYd.trans hV5 (fun _ _ e => e)
            refine ⟨.int .i64 (iN : Int), by rw [HPN.out], hS5, ?_⟩
            simp only [Act.put, List.getElem_toArray, List.getElem_cons_succ, List.getElem_cons_zero, List.setIfInBounds_toArray, List.set_cons_succ, List.set_cons_zero]
            refine wpAnyH_take (i := 5) (v := .pointer (some ⟨bN, offN + iN * 8, none⟩)) rfl (by kernel_rfl) (by kernel_rfl) (by kernel_rfl) (fun _ _ _ h => h) (.inl ⟨by rfl, ?_⟩) hS5 ?_
            · intro W' hS
              go_simp
            refine wpAnyH_take (i := 6) (v := .agg #[.int .i64 n.id, .int .i64 n.cap.cpu, .int .i64 n.cap.mem, .bool n.up, .bool n.drain, .int .i64 n.boot, .int .i64 n.epoch, .int .i64 n.seq]) rfl (by kernel_rfl) (by kernel_rfl) (by kernel_rfl) (fun _ _ _ h => h) (.inl ⟨by rfl, ?_⟩) hS5 ?_
            · intro W' hS
              exact run_load_struct (sz := 8) (b := bN) (off := offN + iN * 8) rfl STNode (by go_simp) (hcn2 W' hS) rfl
            simp only [Act.put, List.getElem_toArray, List.getElem_cons_succ, List.getElem_cons_zero, List.setIfInBounds_toArray, List.set_cons_succ, List.set_cons_zero]
            refine wpAnyH_all (rs := [7]) (by kernel_rfl) (by simp) (List.forall_mem_cons.2 ⟨?_, fun _ h => absurd h (by simp)⟩)
            refine wpOp_alloc rfl (by rfl) rfl ZTNode (fun z hz => ⟨hS5.alloc _, ?_⟩)
            simp only [Act.put, List.getElem_toArray, List.getElem_cons_succ, List.getElem_cons_zero, List.setIfInBounds_toArray, List.set_cons_succ, List.set_cons_zero]
            refine wpAnyH_all (rs := [8]) (by kernel_rfl) (by simp) (List.forall_mem_cons.2 ⟨?_, fun _ h => absurd h (by simp)⟩)
            refine wpOp_store (p := V5.heap.size) (cs := #[.int .i64 n.id, .int .i64 n.cap.cpu, .int .i64 n.cap.mem, .bool n.up, .bool n.drain, .int .i64 n.boot, .int .i64 n.epoch, .int .i64 n.seq]) rfl (by rfl) rfl (by go_simp) (by go_simp) (Blk.new V5 _ z) hz STNode rfl rfl (fun V6 hNB hE6 => ?_)
            have hY6 : Ext Nothing Y V6 := (hS5.alloc _).trans hE6 (fun q hq e => by have := hS5.size; omega)
            refine ⟨hY6, wpAnyH_done (by kernel_rfl) ?_ _⟩
            clear hE6
            generalize V5.heap.size = p at hNB ⊢
            simp only [Act.put, List.getElem_toArray, List.getElem_cons_succ, List.getElem_cons_zero, List.setIfInBounds_toArray, List.set_cons_succ, List.set_cons_zero]
            rotate_left
            refine wpOp_alloc rfl (by rfl) rfl ZTNode (fun z hz => ⟨hYd.alloc _, ?_⟩)
            simp only [Act.put, List.getElem_toArray, List.getElem_cons_succ, List.getElem_cons_zero, List.setIfInBounds_toArray, List.set_cons_succ, List.set_cons_zero]
            refine wpAnyH_all (rs := [4]) (by kernel_rfl) (by simp) (List.forall_mem_cons.2 ⟨?_, fun _ h => absurd h (by simp)⟩)
            have hYz : Ext Nothing Y (Y.drew.alloc (.cells z 45)) := hYd.alloc _
            refine wpOp_call (f := 17) (args := #[.agg #[s0, s1, .slice (some ⟨b, off, none⟩) nJ cJ, s3, .slice AN nN cN, .slice AA nA cA, .slice AE nE cE, s7, s8], .int .i64 xi]) rfl (by rfl) (by go_simp) ((findNode AN nN cN ns xi _ (hN.ext0 (hwY.trans hYz (fun _ _ e => e))) (by omega) s0 s1 _ s3 _ _ _ s7 s8 rfl).mono ?_)
            rintro e V5 ⟨rfl, hV5⟩
            have hS5 : Ext Nothing Y V5 := hYz.trans hV5 (fun _ _ e => e)
            have hB5 : Blk V5 Y.heap.size 45 z := (Blk.new' Y.drew 45 z (n := Y.heap.size) rfl).ext hV5 (fun e => e)
            refine ⟨.int .i64 (iN : Int), by rw [HPN.out], hS5, ?_⟩
            simp only [Act.put, List.getElem_toArray, List.getElem_cons_succ, List.getElem_cons_zero, List.setIfInBounds_toArray, List.set_cons_succ, List.set_cons_zero]
            refine wpAnyH_take (i := 5) (v := .pointer (some ⟨bN, offN + iN * 8, none⟩)) rfl (by kernel_rfl) (by kernel_rfl) (by kernel_rfl) (fun _ _ _ h => h) (.inl ⟨by rfl, ?_⟩) hS5 ?_
            · intro W' hS
              go_simp
            refine wpAnyH_take (i := 6) (v := .agg #[.int .i64 n.id, .int .i64 n.cap.cpu, .int .i64 n.cap.mem, .bool n.up, .bool n.drain, .int .i64 n.boot, .int .i64 n.epoch, .int .i64 n.seq]) rfl (by kernel_rfl) (by kernel_rfl) (by kernel_rfl) (fun _ _ _ h => h) (.inl ⟨by rfl, ?_⟩) hS5 ?_
            · intro W' hS
              exact run_load_struct (sz := 8) (b := bN) (off := offN + iN * 8) rfl STNode (by go_simp) (hcn2 W' hS) rfl
            simp only [Act.put, List.getElem_toArray, List.getElem_cons_succ, List.getElem_cons_zero, List.setIfInBounds_toArray, List.set_cons_succ, List.set_cons_zero]
            refine wpAnyH_all (rs := [8]) (by kernel_rfl) (by simp) (List.forall_mem_cons.2 ⟨?_, fun _ h => absurd h (by simp)⟩)
            refine wpOp_store (p := Y.heap.size) (cs := #[.int .i64 n.id, .int .i64 n.cap.cpu, .int .i64 n.cap.mem, .bool n.up, .bool n.drain, .int .i64 n.boot, .int .i64 n.epoch, .int .i64 n.seq]) rfl (by rfl) rfl (by go_simp) (by go_simp) hB5 hz STNode rfl rfl (fun V6 hNB hE6 => ?_)
            have hY6 : Ext Nothing Y V6 := hS5.trans hE6 (fun q hq e => by omega)
            refine ⟨hY6, wpAnyH_done (by kernel_rfl) ?_ _⟩
            clear hE6 hB5
            generalize Y.heap.size = p at hNB ⊢
            simp only [Act.put, List.getElem_toArray, List.getElem_cons_succ, List.getElem_cons_zero, List.setIfInBounds_toArray, List.set_cons_succ, List.set_cons_zero]
            all_goals (
              have hxV : Ext Nothing wr V6 := hxY.trans hY6 (fun _ _ e => e)
              have hrV := hrr.ext hxV (fun e => e)
              have hjV := hjr.ext hxV (fun e => e)
              have plV : V6.cell? ⟨w.heap.size + 1, 4, none⟩ = some (.slice A' P.length c') := hrV.cell 4
              have jV0 : V6.cell? ⟨w1.heap.size, 0, none⟩ = some (.int .i64 j.id) := hjV.cell 0
              have jV5 : V6.cell? ⟨w1.heap.size, 5, none⟩ = some (.int .i64 j.ver) := hjV.cell 5
              have hxbV : Blk V6 wr.heap.size 64 #[.int .i64 (kk : Int), .int .i64 xi] := (((Blk.new wr 64 #[.int .i64 (kk : Int), .int .i64 xi]).ext (S := Nothing) (Ext.alloc (Ext.refl _ _) (.cells #[.int .i64 ga1, .int .i64 ga2] 38)) (fun e => e)).ext hY (fun e => e)).ext hY6 (fun e => e)
              have haV : Blk V6 (wr.heap.size + 1) 38 #[.int .i64 ga1, .int .i64 ga2] := ((Blk.new' (wr.alloc (.cells #[.int .i64 (kk : Int), .int .i64 xi] 64)) 38 #[.int .i64 ga1, .int .i64 ga2] (n := wr.heap.size + 1) (by simp)).ext hY (fun e => e)).ext hY6 (fun e => e)
              have xV0 : V6.cell? ⟨wr.heap.size, 0, none⟩ = some (.int .i64 (kk : Int)) := hxbV.cell 0
              have xV1 : V6.cell? ⟨wr.heap.size, 1, none⟩ = some (.int .i64 xi) := hxbV.cell 1
              have aV0 : V6.cell? ⟨wr.heap.size + 1, 0, none⟩ = some (.int .i64 ga1) := haV.cell 0
              have aV1 : V6.cell? ⟨wr.heap.size + 1, 1, none⟩ = some (.int .i64 ga2) := haV.cell 1
              have nV6 : V6.cell? ⟨p, 6, none⟩ = some (.int .i64 n.epoch) := hNB.cell 6
              have hownV := own_ext (S := Nothing) (w' := V6.alloc (.cells #[.int .i64 0, .int .i64 j.id, .int .i64 j.ver, .int .i64 (kk : Int), .int .i64 xi, .int .i64 xi, .int .i64 n.epoch, .int .i64 ga1, .int .i64 ga2, .bool false, .int .i64 0] 40)) (own_ext hown hxV (fun _ _ e => e)) (by (repeat' (first | (with_reducible assumption) | (with_reducible exact Ext.refl _ _) | (with_reducible refine Ext.alloc ?_ _) | (with_reducible refine Ext.drew ?_) | (with_reducible refine Ext.drewN ?_ _) | (with_reducible refine Ext.setCell ?_ (.inl (by simp only [World.size_alloc, World.size_setCell, World.size_drew] <;> omega)) _) | (with_reducible refine Ext.trans ?_ (by assumption) (fun _ _ e => e))))) (fun _ _ e => e)
              have hrZ := hrV.ext (S := Nothing) (w' := V6.alloc (.cells #[.int .i64 0, .int .i64 j.id, .int .i64 j.ver, .int .i64 (kk : Int), .int .i64 xi, .int .i64 xi, .int .i64 n.epoch, .int .i64 ga1, .int .i64 ga2, .bool false, .int .i64 0] 40)) (by (repeat' (first | (with_reducible assumption) | (with_reducible exact Ext.refl _ _) | (with_reducible refine Ext.alloc ?_ _) | (with_reducible refine Ext.drew ?_) | (with_reducible refine Ext.drewN ?_ _) | (with_reducible refine Ext.setCell ?_ (.inl (by simp only [World.size_alloc, World.size_setCell, World.size_drew] <;> omega)) _) | (with_reducible refine Ext.trans ?_ (by assumption) (fun _ _ e => e))))) (fun e => e)
              have hnV : Blk (V6.alloc (.cells #[.int .i64 0, .int .i64 j.id, .int .i64 j.ver, .int .i64 (kk : Int), .int .i64 xi, .int .i64 xi, .int .i64 n.epoch, .int .i64 ga1, .int .i64 ga2, .bool false, .int .i64 0] 40)) V6.heap.size 40 #[.int .i64 0, .int .i64 j.id, .int .i64 j.ver, .int .i64 (kk : Int), .int .i64 xi, .int .i64 xi, .int .i64 n.epoch, .int .i64 ga1, .int .i64 ga2, .bool false, .int .i64 0] := Blk.new _ _ _
              have hVz := hxV.size
              go_wp2_with (first | (refine wpList_slice1 rfl 24 _ rfl SLal #[.int .i64 0, .int .i64 j.id, .int .i64 j.ver, .int .i64 (kk : Int), .int .i64 xi, .int .i64 xi, .int .i64 n.epoch, .int .i64 ga1, .int .i64 ga2, .bool false, .int .i64 0] rfl rfl ?_) | (at_builtin; refine wpList_app1w rfl _ _ 24 rfl W6.heap.size SLal 88 BYal (.slice A' P.length c') P.length (P.flatMap AllocD.cells) rfl hownV V6.heap.size 1 #[.int .i64 0, .int .i64 j.id, .int .i64 j.ver, .int .i64 (kk : Int), .int .i64 xi, .int .i64 xi, .int .i64 n.epoch, .int .i64 ga1, .int .i64 ga2, .bool false, .int .i64 0] rfl hnV rfl rfl (by unfold maxLen; omega) (by omega) (by simp; omega) ?_; intro A5 c5 w5 hown5 hgr5; have hr5 := hrZ.ext (Ext.of_grown hgr5 (S := fun q => (Value.slice A' P.length c').ownBlock = some q) (fun g e => e)) (own_ne hownV hrZ (by decide)); have k4 : w5.cell? ⟨w.heap.size + 1, 4, none⟩ = some (.slice A' P.length c') := hr5.cell 4; have k4f : w5.frozen? ⟨w.heap.size + 1, 4, none⟩ = false := hr5.frozen 4))
              go_roundw
              case rel =>
                have hx56 : Ext (fun q => q = w.heap.size + 1) w5 (w5.setCell ⟨w.heap.size + 1, 4, none⟩ (.slice A5 (P.length + 1) c5)) := Ext.set1 _ _ _ _
                have hxa : Ext (fun q => q = w.heap.size + 1) W6 (V6.alloc (.cells #[.int .i64 0, .int .i64 j.id, .int .i64 j.ver, .int .i64 (kk : Int), .int .i64 xi, .int .i64 xi, .int .i64 n.epoch, .int .i64 ga1, .int .i64 ga2, .bool false, .int .i64 0] 40)) := (hx.trans hxV (fun _ _ e => e.elim)).alloc _
                refine ⟨t + 1, by omega, by go_num, P ++ [(⟨0, j.id, j.ver, (kk : Int), xi, xi, n.epoch, ⟨ga1, ga2⟩, false, 0⟩ : AllocD)], bl, A5, c5, HS.out, ?_, ?_, by simp; omega, (hxa.grown hgr5 (fun g e => .inl (own_ge hown e))).trans hx56 (fun _ _ e => e)⟩
                · rw [List.length_append]; exact hr5.set_ 4 _
                · rw [List.flatMap_append, List.length_append]
                  exact own_ext hown5 hx56 (fun g hg e => by subst e; exact own_ne hown5 hr5 (by decide) hg)
              case measure => simp [intOf]; omega)
        | false =>
          have ety : ¬ (j.ty = 3) := by simpa using et
          cases hm : bestF ns l P ⟨ga1, ga2⟩ with
          | none =>
            have HS := Lib.hid (show ((fillF ns l j).take (t + 1)).foldl (placeStep ns l j) ([], false) = (P, true) by rw [hst]; simp [placeStep, nodeFor, ety, hask, hm])
            have HM := Lib.hid hm
            clear hst hm ety
            go_wp2_with (first | (refine wpList_load_at rfl 64 _ rfl STSlot b2 (off2 + t * 2) rfl #[.int .i64 (kk : Int), .int .i64 xi] (by exact hcf) rfl ?_) | (refine wpList_load_blk rfl 29 _ rfl STStore w.heap.size rfl #[s0, s1, .slice (some ⟨b, off, none⟩) nJ cJ, s3, .slice AN nN cN, .slice AA nA cA, .slice AE nE cE, s7, s8] (by exact hbA) rfl ?_) | (go_at_call 16; refine (best_any AN nN cN ns AA nA cA l A' P.length c' P ⟨ga1, ga2⟩ _ s0 s1 _ s3 _ s7 s8 (hN.ext0 hwA) (by omega) (hA.ext0 hwA) (by omega) hPs (by omega)).mono ?_; rintro e Y ⟨rfl, hY⟩; rw [HM.out]; simp only [Option.map_none, Option.getD_none, Option.isSome_none]; have hxY : Ext Nothing wr Y := hxA.trans hY (fun _ _ e => e); have hrY := hrr.ext hxY (fun e => e); have y5 : Y.cell? ⟨w.heap.size + 1, 5, none⟩ = some (.bool bl) := hrY.cell 5; have y5f : Y.frozen? ⟨w.heap.size + 1, 5, none⟩ = false := hrY.frozen 5))
            go_roundw
            case rel =>
              have hx5 : Ext (fun q => q = w.heap.size + 1) Y (Y.setCell ⟨w.heap.size + 1, 5, none⟩ (.bool true)) := Ext.set1 _ _ _ _
              exact ⟨t + 1, by omega, by go_num, P, true, A', c', HS.out, hrY.set_ 5 _, own_ext (own_ext hown hxY (fun _ _ e => e)) hx5 (fun g hg e => by have := own_ge hown hg; omega), by omega, (hx.trans hxY (fun _ _ e => e.elim)).trans hx5 (fun _ _ e => e)⟩
            case measure => simp [intOf]; omega
          | some q =>
            obtain ⟨n, hfn⟩ := best_find hm
            rcases idx_cases (fun n : NodD => n.id == q.1) ns with ⟨_, hfn2, _⟩ | ⟨iN, n2, hpn, hni, _, hfn2, _⟩
            · rw [hfn] at hfn2; cases hfn2
            rw [hfn] at hfn2
            obtain rfl : n = n2 := by simpa using hfn2
            have hin' : iN < nN := by have := hNlen.out; have := (List.getElem?_eq_some_iff.1 hni).1; omega
            obtain ⟨_, bN, offN, hANe, hcn⟩ := hN.get hxw hin'
            rw [(List.getElem?_eq_some_iff.1 hni).2] at hcn
            have HPN := Lib.hid hpn
            have HS := Lib.hid (show ((fillF ns l j).take (t + 1)).foldl (placeStep ns l j) ([], false) = (P ++ [⟨0, j.id, j.ver, (kk : Int), xi, q.1, n.epoch, ⟨ga1, ga2⟩, false, 0⟩], bl) by rw [hst]; simp [placeStep, nodeFor, placeOf, epochAt, hask, ety, hm, hfn])
            have HM := Lib.hid hm
            have HAN := Lib.hid hANe
            clear hANe
            have hn0 : (0 : Int) ≤ (iN : Int) := by omega
            have hn1 : (iN : Int) < nN := by omega
            clear hst hm hfn hfn2 hpn hask ety
            go_wp2_with (first | (refine wpList_load_at rfl 64 _ rfl STSlot b2 (off2 + t * 2) rfl #[.int .i64 (kk : Int), .int .i64 xi] (by exact hcf) rfl ?_) | (refine wpList_load_blk rfl 29 _ rfl STStore w.heap.size rfl #[s0, s1, .slice (some ⟨b, off, none⟩) nJ cJ, s3, .slice AN nN cN, .slice AA nA cA, .slice AE nE cE, s7, s8] (by exact hbA) rfl ?_) | (go_at_call 16; refine (best_any AN nN cN ns AA nA cA l A' P.length c' P ⟨ga1, ga2⟩ _ s0 s1 _ s3 _ s7 s8 (hN.ext0 hwA) (by omega) (hA.ext0 hwA) (by omega) hPs (by omega)).mono ?_; rintro e Y ⟨rfl, hY⟩; rw [HM.out]; simp only [Option.map_some, Option.getD_some, Option.isSome_some]))
            have hxY : Ext Nothing wr Y := hxA.trans hY (fun _ _ e => e)
            have hwY : Ext Nothing w Y := hxw.trans hxY (fun _ _ e => e)
            have hbY := hbr.ext hxY (fun e => e)
            have hYd : Ext Nothing Y Y.drew := Ext.drew (Ext.refl _ _)
            have hY4 : Y.cell? ⟨w.heap.size, 4, none⟩ = some (.slice (some ⟨bN, offN, none⟩) nN cN) := by rw [← HAN.out]; exact hbY.cell 4
            have hcn2 : ∀ (W' : World), Ext Nothing Y W' → ∀ q u, (#[.int .i64 n.id, .int .i64 n.cap.cpu, .int .i64 n.cap.mem, .bool n.up, .bool n.drain, .int .i64 n.boot, .int .i64 n.epoch, .int .i64 n.seq] : Array Value).toList[q]? = some u → W'.cell? ⟨bN, offN + iN * 8 + q, none⟩ = some u := fun W' h q u hu => (hxY.trans h (fun _ _ e => e)).cell (hcn q u hu) (fun e => e)
            refine wp_region_held (S := fun W' => Ext Nothing Y W') (by kernel_rfl) ?_
            refine wpAnyH_take (i := 0) (v := .pointer (some ⟨w.heap.size, 4, none⟩)) rfl (by kernel_rfl) (by kernel_rfl) (by kernel_rfl) (fun _ _ _ h => h) (.inl ⟨by rfl, ?_⟩) hYd ?_
            · intro W' hS
              go_simp
            refine wpAnyH_take (i := 1) (v := .slice (some ⟨bN, offN, none⟩) nN cN) rfl (by kernel_rfl) (by kernel_rfl) (by kernel_rfl) (fun _ _ _ h => h) (.inl ⟨by rfl, ?_⟩) hYd ?_
            · intro W' hS
              have q4 : W'.cell? ⟨w.heap.size, 4, none⟩ = some (.slice (some ⟨bN, offN, none⟩) nN cN) := hS.cell hY4 (fun e => e)
              go_simp
            refine wpAnyH_take (i := 2) (v := .agg #[s0, s1, .slice (some ⟨b, off, none⟩) nJ cJ, s3, .slice AN nN cN, .slice AA nA cA, .slice AE nE cE, s7, s8]) rfl (by kernel_rfl) (by kernel_rfl) (by kernel_rfl) (fun _ _ _ h => h) (.inl ⟨by rfl, ?_⟩) hYd ?_
            · intro W' hS
              exact run_load_struct (sz := 9) (b := w.heap.size) (off := 0) rfl STStore (by go_simp) (fun j u hu => by rw [Nat.zero_add, (hbY.ext hS (fun e => e)).cell]; simpa using hu) rfl
            refine wpAnyH_take (i := 3) (v := .int .i64 q.1) rfl (by kernel_rfl) (by kernel_rfl) (by kernel_rfl) (fun _ _ _ h => h) (.inl ⟨by rfl, ?_⟩) hYd ?_
            · intro W' hS
              go_simp
            simp only [Act.put, List.getElem_toArray, List.getElem_cons_succ, List.getElem_cons_zero, List.setIfInBounds_toArray, List.set_cons_succ, List.set_cons_zero]
            refine wpAnyH_all (rs := [4, 7]) (by kernel_rfl) (by simp) (List.forall_mem_cons.2 ⟨?_, List.forall_mem_cons.2 ⟨?_, fun _ h => absurd h (by simp)⟩⟩)
            refine wpOp_call (f := 17) (args := #[.agg #[s0, s1, .slice (some ⟨b, off, none⟩) nJ cJ, s3, .slice AN nN cN, .slice AA nA cA, .slice AE nE cE, s7, s8], .int .i64 q.1]) rfl (by rfl) (by go_simp) ((findNode AN nN cN ns q.1 _ (hN.ext0 (hwY.trans hYd (fun _ _ e => e))) (by omega) s0 s1 _ s3 _ _ _ s7 s8 rfl).mono ?_)
            rintro e V5 ⟨rfl, hV5⟩
            have hS5 : Ext Nothing Y V5 := hYd.trans hV5 (fun _ _ e => e)
            refine ⟨.int .i64 (iN : Int), by rw [HPN.out], hS5, ?_⟩
            simp only [Act.put, List.getElem_toArray, List.getElem_cons_succ, List.getElem_cons_zero, List.setIfInBounds_toArray, List.set_cons_succ, List.set_cons_zero]
            refine wpAnyH_take (i := 5) (v := .pointer (some ⟨bN, offN + iN * 8, none⟩)) rfl (by kernel_rfl) (by kernel_rfl) (by kernel_rfl) (fun _ _ _ h => h) (.inl ⟨by rfl, ?_⟩) hS5 ?_
            · intro W' hS
              go_simp
            refine wpAnyH_take (i := 6) (v := .agg #[.int .i64 n.id, .int .i64 n.cap.cpu, .int .i64 n.cap.mem, .bool n.up, .bool n.drain, .int .i64 n.boot, .int .i64 n.epoch, .int .i64 n.seq]) rfl (by kernel_rfl) (by kernel_rfl) (by kernel_rfl) (fun _ _ _ h => h) (.inl ⟨by rfl, ?_⟩) hS5 ?_
            · intro W' hS
              exact run_load_struct (sz := 8) (b := bN) (off := offN + iN * 8) rfl STNode (by go_simp) (hcn2 W' hS) rfl
            simp only [Act.put, List.getElem_toArray, List.getElem_cons_succ, List.getElem_cons_zero, List.setIfInBounds_toArray, List.set_cons_succ, List.set_cons_zero]
            refine wpAnyH_all (rs := [7]) (by kernel_rfl) (by simp) (List.forall_mem_cons.2 ⟨?_, fun _ h => absurd h (by simp)⟩)
            refine wpOp_alloc rfl (by rfl) rfl ZTNode (fun z hz => ⟨hS5.alloc _, ?_⟩)
            simp only [Act.put, List.getElem_toArray, List.getElem_cons_succ, List.getElem_cons_zero, List.setIfInBounds_toArray, List.set_cons_succ, List.set_cons_zero]
            refine wpAnyH_all (rs := [8]) (by kernel_rfl) (by simp) (List.forall_mem_cons.2 ⟨?_, fun _ h => absurd h (by simp)⟩)
            refine wpOp_store (p := V5.heap.size) (cs := #[.int .i64 n.id, .int .i64 n.cap.cpu, .int .i64 n.cap.mem, .bool n.up, .bool n.drain, .int .i64 n.boot, .int .i64 n.epoch, .int .i64 n.seq]) rfl (by rfl) rfl (by go_simp) (by go_simp) (Blk.new V5 _ z) hz STNode rfl rfl (fun V6 hNB hE6 => ?_)
            have hY6 : Ext Nothing Y V6 := (hS5.alloc _).trans hE6 (fun q hq e => by have := hS5.size; omega)
            refine ⟨hY6, wpAnyH_done (by kernel_rfl) ?_ _⟩
            clear hE6
            generalize V5.heap.size = p at hNB ⊢
            simp only [Act.put, List.getElem_toArray, List.getElem_cons_succ, List.getElem_cons_zero, List.setIfInBounds_toArray, List.set_cons_succ, List.set_cons_zero]
            rotate_left
            refine wpOp_alloc rfl (by rfl) rfl ZTNode (fun z hz => ⟨hYd.alloc _, ?_⟩)
            simp only [Act.put, List.getElem_toArray, List.getElem_cons_succ, List.getElem_cons_zero, List.setIfInBounds_toArray, List.set_cons_succ, List.set_cons_zero]
            refine wpAnyH_all (rs := [4]) (by kernel_rfl) (by simp) (List.forall_mem_cons.2 ⟨?_, fun _ h => absurd h (by simp)⟩)
            have hYz : Ext Nothing Y (Y.drew.alloc (.cells z 45)) := hYd.alloc _
            refine wpOp_call (f := 17) (args := #[.agg #[s0, s1, .slice (some ⟨b, off, none⟩) nJ cJ, s3, .slice AN nN cN, .slice AA nA cA, .slice AE nE cE, s7, s8], .int .i64 q.1]) rfl (by rfl) (by go_simp) ((findNode AN nN cN ns q.1 _ (hN.ext0 (hwY.trans hYz (fun _ _ e => e))) (by omega) s0 s1 _ s3 _ _ _ s7 s8 rfl).mono ?_)
            rintro e V5 ⟨rfl, hV5⟩
            have hS5 : Ext Nothing Y V5 := hYz.trans hV5 (fun _ _ e => e)
            have hB5 : Blk V5 Y.heap.size 45 z := (Blk.new' Y.drew 45 z (n := Y.heap.size) rfl).ext hV5 (fun e => e)
            refine ⟨.int .i64 (iN : Int), by rw [HPN.out], hS5, ?_⟩
            simp only [Act.put, List.getElem_toArray, List.getElem_cons_succ, List.getElem_cons_zero, List.setIfInBounds_toArray, List.set_cons_succ, List.set_cons_zero]
            refine wpAnyH_take (i := 5) (v := .pointer (some ⟨bN, offN + iN * 8, none⟩)) rfl (by kernel_rfl) (by kernel_rfl) (by kernel_rfl) (fun _ _ _ h => h) (.inl ⟨by rfl, ?_⟩) hS5 ?_
            · intro W' hS
              go_simp
            refine wpAnyH_take (i := 6) (v := .agg #[.int .i64 n.id, .int .i64 n.cap.cpu, .int .i64 n.cap.mem, .bool n.up, .bool n.drain, .int .i64 n.boot, .int .i64 n.epoch, .int .i64 n.seq]) rfl (by kernel_rfl) (by kernel_rfl) (by kernel_rfl) (fun _ _ _ h => h) (.inl ⟨by rfl, ?_⟩) hS5 ?_
            · intro W' hS
              exact run_load_struct (sz := 8) (b := bN) (off := offN + iN * 8) rfl STNode (by go_simp) (hcn2 W' hS) rfl
            simp only [Act.put, List.getElem_toArray, List.getElem_cons_succ, List.getElem_cons_zero, List.setIfInBounds_toArray, List.set_cons_succ, List.set_cons_zero]
            refine wpAnyH_all (rs := [8]) (by kernel_rfl) (by simp) (List.forall_mem_cons.2 ⟨?_, fun _ h => absurd h (by simp)⟩)
            refine wpOp_store (p := Y.heap.size) (cs := #[.int .i64 n.id, .int .i64 n.cap.cpu, .int .i64 n.cap.mem, .bool n.up, .bool n.drain, .int .i64 n.boot, .int .i64 n.epoch, .int .i64 n.seq]) rfl (by rfl) rfl (by go_simp) (by go_simp) hB5 hz STNode rfl rfl (fun V6 hNB hE6 => ?_)
            have hY6 : Ext Nothing Y V6 := hS5.trans hE6 (fun q hq e => by omega)
            refine ⟨hY6, wpAnyH_done (by kernel_rfl) ?_ _⟩
            clear hE6 hB5
            generalize Y.heap.size = p at hNB ⊢
            simp only [Act.put, List.getElem_toArray, List.getElem_cons_succ, List.getElem_cons_zero, List.setIfInBounds_toArray, List.set_cons_succ, List.set_cons_zero]
            all_goals (
              have hxV : Ext Nothing wr V6 := hxY.trans hY6 (fun _ _ e => e)
              have hrV := hrr.ext hxV (fun e => e)
              have hjV := hjr.ext hxV (fun e => e)
              have plV : V6.cell? ⟨w.heap.size + 1, 4, none⟩ = some (.slice A' P.length c') := hrV.cell 4
              have jV0 : V6.cell? ⟨w1.heap.size, 0, none⟩ = some (.int .i64 j.id) := hjV.cell 0
              have jV5 : V6.cell? ⟨w1.heap.size, 5, none⟩ = some (.int .i64 j.ver) := hjV.cell 5
              have hxbV : Blk V6 wr.heap.size 64 #[.int .i64 (kk : Int), .int .i64 xi] := (((Blk.new wr 64 #[.int .i64 (kk : Int), .int .i64 xi]).ext (S := Nothing) (Ext.alloc (Ext.refl _ _) (.cells #[.int .i64 ga1, .int .i64 ga2] 38)) (fun e => e)).ext hY (fun e => e)).ext hY6 (fun e => e)
              have haV : Blk V6 (wr.heap.size + 1) 38 #[.int .i64 ga1, .int .i64 ga2] := ((Blk.new' (wr.alloc (.cells #[.int .i64 (kk : Int), .int .i64 xi] 64)) 38 #[.int .i64 ga1, .int .i64 ga2] (n := wr.heap.size + 1) (by simp)).ext hY (fun e => e)).ext hY6 (fun e => e)
              have xV0 : V6.cell? ⟨wr.heap.size, 0, none⟩ = some (.int .i64 (kk : Int)) := hxbV.cell 0
              have xV1 : V6.cell? ⟨wr.heap.size, 1, none⟩ = some (.int .i64 xi) := hxbV.cell 1
              have aV0 : V6.cell? ⟨wr.heap.size + 1, 0, none⟩ = some (.int .i64 ga1) := haV.cell 0
              have aV1 : V6.cell? ⟨wr.heap.size + 1, 1, none⟩ = some (.int .i64 ga2) := haV.cell 1
              have nV6 : V6.cell? ⟨p, 6, none⟩ = some (.int .i64 n.epoch) := hNB.cell 6
              have hownV := own_ext (S := Nothing) (w' := V6.alloc (.cells #[.int .i64 0, .int .i64 j.id, .int .i64 j.ver, .int .i64 (kk : Int), .int .i64 xi, .int .i64 q.1, .int .i64 n.epoch, .int .i64 ga1, .int .i64 ga2, .bool false, .int .i64 0] 40)) (own_ext hown hxV (fun _ _ e => e)) (by (repeat' (first | (with_reducible assumption) | (with_reducible exact Ext.refl _ _) | (with_reducible refine Ext.alloc ?_ _) | (with_reducible refine Ext.drew ?_) | (with_reducible refine Ext.drewN ?_ _) | (with_reducible refine Ext.setCell ?_ (.inl (by simp only [World.size_alloc, World.size_setCell, World.size_drew] <;> omega)) _) | (with_reducible refine Ext.trans ?_ (by assumption) (fun _ _ e => e))))) (fun _ _ e => e)
              have hrZ := hrV.ext (S := Nothing) (w' := V6.alloc (.cells #[.int .i64 0, .int .i64 j.id, .int .i64 j.ver, .int .i64 (kk : Int), .int .i64 xi, .int .i64 q.1, .int .i64 n.epoch, .int .i64 ga1, .int .i64 ga2, .bool false, .int .i64 0] 40)) (by (repeat' (first | (with_reducible assumption) | (with_reducible exact Ext.refl _ _) | (with_reducible refine Ext.alloc ?_ _) | (with_reducible refine Ext.drew ?_) | (with_reducible refine Ext.drewN ?_ _) | (with_reducible refine Ext.setCell ?_ (.inl (by simp only [World.size_alloc, World.size_setCell, World.size_drew] <;> omega)) _) | (with_reducible refine Ext.trans ?_ (by assumption) (fun _ _ e => e))))) (fun e => e)
              have hnV : Blk (V6.alloc (.cells #[.int .i64 0, .int .i64 j.id, .int .i64 j.ver, .int .i64 (kk : Int), .int .i64 xi, .int .i64 q.1, .int .i64 n.epoch, .int .i64 ga1, .int .i64 ga2, .bool false, .int .i64 0] 40)) V6.heap.size 40 #[.int .i64 0, .int .i64 j.id, .int .i64 j.ver, .int .i64 (kk : Int), .int .i64 xi, .int .i64 q.1, .int .i64 n.epoch, .int .i64 ga1, .int .i64 ga2, .bool false, .int .i64 0] := Blk.new _ _ _
              have hVz := hxV.size
              go_wp2_with (first | (refine wpList_slice1 rfl 24 _ rfl SLal #[.int .i64 0, .int .i64 j.id, .int .i64 j.ver, .int .i64 (kk : Int), .int .i64 xi, .int .i64 q.1, .int .i64 n.epoch, .int .i64 ga1, .int .i64 ga2, .bool false, .int .i64 0] rfl rfl ?_) | (at_builtin; refine wpList_app1w rfl _ _ 24 rfl W6.heap.size SLal 88 BYal (.slice A' P.length c') P.length (P.flatMap AllocD.cells) rfl hownV V6.heap.size 1 #[.int .i64 0, .int .i64 j.id, .int .i64 j.ver, .int .i64 (kk : Int), .int .i64 xi, .int .i64 q.1, .int .i64 n.epoch, .int .i64 ga1, .int .i64 ga2, .bool false, .int .i64 0] rfl hnV rfl rfl (by unfold maxLen; omega) (by omega) (by simp; omega) ?_; intro A5 c5 w5 hown5 hgr5; have hr5 := hrZ.ext (Ext.of_grown hgr5 (S := fun q => (Value.slice A' P.length c').ownBlock = some q) (fun g e => e)) (own_ne hownV hrZ (by decide)); have k4 : w5.cell? ⟨w.heap.size + 1, 4, none⟩ = some (.slice A' P.length c') := hr5.cell 4; have k4f : w5.frozen? ⟨w.heap.size + 1, 4, none⟩ = false := hr5.frozen 4))
              go_roundw
              case rel =>
                have hx56 : Ext (fun q => q = w.heap.size + 1) w5 (w5.setCell ⟨w.heap.size + 1, 4, none⟩ (.slice A5 (P.length + 1) c5)) := Ext.set1 _ _ _ _
                have hxa : Ext (fun q => q = w.heap.size + 1) W6 (V6.alloc (.cells #[.int .i64 0, .int .i64 j.id, .int .i64 j.ver, .int .i64 (kk : Int), .int .i64 xi, .int .i64 q.1, .int .i64 n.epoch, .int .i64 ga1, .int .i64 ga2, .bool false, .int .i64 0] 40)) := (hx.trans hxV (fun _ _ e => e.elim)).alloc _
                refine ⟨t + 1, by omega, by go_num, P ++ [(⟨0, j.id, j.ver, (kk : Int), xi, q.1, n.epoch, ⟨ga1, ga2⟩, false, 0⟩ : AllocD)], bl, A5, c5, HS.out, ?_, ?_, by simp; omega, (hxa.grown hgr5 (fun g e => .inl (own_ge hown e))).trans hx56 (fun _ _ e => e)⟩
                · rw [List.length_append]; exact hr5.set_ 4 _
                · rw [List.flatMap_append, List.length_append]
                  exact own_ext hown5 hx56 (fun g hg e => by subst e; exact own_ne hown5 hr5 (by decide) hg)
              case measure => simp [intOf]; omega)
      · obtain rfl : t = (fillF ns l j).length := by omega
        rw [List.take_length] at hfold
        have hP : placesF ns l j = (P, bl) := hfold
        go_wp2
        refine bodyPost_ret (results_cell rfl STPlan (g := w.heap.size + 1) rfl hrr rfl) rfl ?_
        rw [hP]
        exact ⟨A1, c1, A', c', rfl, own_base (own_ext own3 hx (fun g hg e => by have := own_ge own3 hg; omega)) (by omega), own_base hown (by omega), hxw⟩
  · have hel : ie < evs.length := (List.getElem?_eq_some_iff.1 hei).1
    have hen : ie < nE := by have := hE.len; omega
    have he0 : (0 : Int) ≤ ie := by omega
    have he1 : (ie : Int) < nE := by omega
    obtain ⟨_, bE, offE, rfl, hcE⟩ := hE.get hw3 hen
    rw [(List.getElem?_eq_some_iff.1 hei).2] at hcE
    have HE := Lib.hid he
    have HEV := Lib.hid (show evIndex evs k = ev.index by unfold evIndex; rw [hef])
    clear he hef
    go_wp2_with (first | (refine wpList_load_blk rfl 29 _ rfl STStore w.heap.size rfl #[s0, s1, .slice (some ⟨b, off, none⟩) nJ cJ, s3, .slice AN nN cN, .slice AA nA cA, .slice (some ⟨bE, offE, none⟩) nE cE, s7, s8] hb3 rfl ?_) | (go_at_call 13; refine (findEval _ nE cE evs k _ (hE.ext0 hw3) (by omega) s0 s1 _ s3 _ _ _ s7 s8 rfl).mono ?_; rintro e W4 ⟨rfl, hW4⟩; rw [HE.out]; have hxs := Ext.set1 W4 (w.heap.size + 1) 2 (.int .i64 ev.index); have hb4 := (hb3.ext hW4 (fun e => e)).ext hxs (by omega); have hr4 := (hr3.ext hW4 (fun e => e)).set_ 2 (.int .i64 ev.index); have hj4 := (hj3.ext hW4 (fun e => e)).ext hxs (by omega); have hw4 : Ext Nothing w (W4.setCell ⟨w.heap.size + 1, 2, none⟩ (.int .i64 ev.index)) := (hw3.trans hW4 (fun _ _ e => e)).trans hxs (fun q hq e => absurd e (by omega)); have v6 : W4.cell? ⟨w.heap.size, 6, none⟩ = some (.slice (some ⟨bE, offE, none⟩) nE cE) := (hb3.ext hW4 (fun e => e)).cell 6; have vE : W4.cell? ⟨bE, offE + ie * 4 + 3, none⟩ = some (.int .i64 ev.index) := hW4.cell (hcE 3 _ rfl) (fun e => e); have v2 : W4.cell? ⟨w.heap.size + 1, 2, none⟩ = some (.int .i64 0) := (hr3.ext hW4 (fun e => e)).cell 2; have v2f : W4.frozen? ⟨w.heap.size + 1, 2, none⟩ = false := (hr3.ext hW4 (fun e => e)).frozen 2) | (refine wpList_load_blk rfl 29 _ rfl STStore w.heap.size rfl #[s0, s1, .slice (some ⟨b, off, none⟩) nJ cJ, s3, .slice AN nN cN, .slice AA nA cA, .slice (some ⟨bE, offE, none⟩) nE cE, s7, s8] hb4 rfl ?_) | (go_at_call 14; refine (diff_some _ nJ cJ jvs k ix j AG nG cG AN nN cN ns AA nA cA l _ s0 s1 s3 _ s7 s8 (hJ.ext0 hw4) hnJ hp' hix (hG.ext0 hw4) (hN.ext0 hw4) (hA.ext0 hw4) hnG hnN hnA h64 ha64).mono ?_; rintro e W5 ⟨A1, c1, A2, c2, rfl, own1, own2, hW5⟩; have hb5 := hb4.ext hW5 (fun e => e); have hr5 := hr4.ext hW5 (fun e => e); have hj5 := hj4.ext hW5 (fun e => e); have hw5 : Ext Nothing w W5 := hw4.trans hW5 (fun _ _ e => e); have s3c : W5.cell? ⟨w.heap.size + 1, 3, none⟩ = some (.slice none 0 0) := hr5.cell 3; have s3f : W5.frozen? ⟨w.heap.size + 1, 3, none⟩ = false := hr5.frozen 3))
    have hr4lt := hr4.lt
    have hw4z := hw4.size
    have hF := Sl.of_own (f := SlotD.cells) (fun _ => rfl) own2 rfl
    have hne2 := own_ne own2 hr5 (by decide)
    have hne1 := own_ne own1 hr5 (by decide)
    have hr6 : Blk (W5.setCell ⟨w.heap.size + 1, 3, none⟩ (.slice A1 (stopsF ns l j).length c1)) (w.heap.size + 1) 35 #[.int .i64 j.id, .int .i64 j.ver, .int .i64 (evIndex evs k), .slice A1 (stopsF ns l j).length c1, .slice none 0 0, .bool false] := by rw [HEV.out]; exact hr5.set_ 3 _
    have hx6 : Ext (fun q => q = w.heap.size + 1) W5 (W5.setCell ⟨w.heap.size + 1, 3, none⟩ (.slice A1 (stopsF ns l j).length c1)) := Ext.set1 _ _ _ _
    have hb6 := hb5.ext hx6 (by omega)
    have hj6 := hj5.ext hx6 (by omega)
    have hw6 : Ext Nothing w (W5.setCell ⟨w.heap.size + 1, 3, none⟩ (.slice A1 (stopsF ns l j).length c1)) := hw5.trans hx6 (fun q hq e => absurd e (by omega))
    have own3 := own_ext own1 hx6 (fun g hg e => by subst e; exact hne1 hg)
    have hF6 := hF.ext hx6 (fun q hq _ e => by subst e; exact hne2 (own_block_of own2 hq))
    have hz6 := hw6.size
    have hA2 : ∀ q, A2.map (·.block) = some q → q ≠ w.heap.size + 1 := fun q hq e => by subst e; exact hne2 (own_block_of own2 hq)
    have hnm : (fillF ns l j).length ≤ 1048576 * 1048580 := Nat.le_trans (List.length_filter_le _ _) (Nat.le_trans (slotsF_len ns j) (Nat.mul_le_mul (by have := hG.len; omega) (by have := hN.len; omega)))
    have hNlen := Lib.hid hN.len
    have hb6lt := hb6.lt
    have hj6lt := hj6.lt
    generalize W5.setCell ⟨w.heap.size + 1, 3, none⟩ (.slice A1 (stopsF ns l j).length c1) = W6 at hr6 hb6 hj6 hw6 own3 hF6 hz6 ⊢
    clear hx6 hF hne2 hne1 own1 own2 hr5 hb5 hj5 hw5
    go_loopw [54] (fun i wr => ∃ t : Nat, t ≤ (fillF ns l j).length ∧ i = .int .i64 t ∧ ∃ (P : List AllocD) (bl : Bool) (A' : Option Addr) (c' : Nat), ((fillF ns l j).take t).foldl (placeStep ns l j) ([], false) = (P, bl) ∧ Blk wr (w.heap.size + 1) 35 #[.int .i64 j.id, .int .i64 j.ver, .int .i64 (evIndex evs k), .slice A1 (stopsF ns l j).length c1, .slice A' P.length c', .bool bl] ∧ wr.ownsRow W6.heap.size 40 11 (.slice A' P.length c') P.length (P.flatMap AllocD.cells) ∧ P.length ≤ t ∧ Ext (fun q => q = w.heap.size + 1) W6 wr) (fun i _ => (fillF ns l j).length - (intOf i).toNat)
    case atStart => exact ⟨0, Nat.zero_le _, rfl, [], false, none, 0, rfl, hr6, World.ownsRow_nil _ _ _ _, Nat.zero_le _, Ext.refl _ _⟩
    case round =>
      obtain ⟨t, ht, rfl, P, bl, A', c', hfold, hrr, hown, hPl, hx⟩ := hrel
      have hxw : Ext Nothing w wr := hw6.trans hx (fun q hq e => absurd e (by omega))
      by_cases hlt : t < (fillF ns l j).length
      · have hzx := hx.size
        have hbr := hb6.ext hx (by omega)
        have hjr := hj6.ext hx (by omega)
        have hFr := hF6.ext hx (fun q hq _ e => hA2 q hq e)
        obtain ⟨hjn, b2, off2, hA2e, hcf⟩ := hFr.get (Ext.refl _ _) hlt
        have hst := foldl_take (placeStep ns l j) ([], false) (fillF ns l j) t hjn
        rw [hfold] at hst
        have hmem : (fillF ns l j)[t] ∈ fillF ns l j := List.getElem_mem hjn
        generalize (fillF ns l j)[t] = x at hcf hst hmem
        obtain ⟨kk, hkk, hxg⟩ := slotsF_mem (List.mem_filter.1 hmem).1
        obtain ⟨xg, xi⟩ := x
        simp only at hxg
        subst hxg
        have hkn : kk < nG := by have := hG.len; omega
        obtain ⟨_, bG, offG, hAGe, hcG⟩ := hG.get hxw hkn
        have hask : askAt j ⟨(kk : Int), xi⟩ = (j.groups[kk]).ask := by unfold askAt; simp [hkk]
        generalize j.groups[kk] = gk at hcG hask
        obtain ⟨gc, ⟨ga1, ga2⟩⟩ := gk
        simp only at hask
        have hk0 : (0 : Int) ≤ (kk : Int) := by omega
        have hk1 : (kk : Int) < nG := by omega
        have hgc : wr.cell? ⟨w1.heap.size, 4, none⟩ = some (.slice (some ⟨bG, offG, none⟩) nG cG) := by rw [← hAGe]; exact hjr.cell 4
        have hxX : Ext Nothing wr (wr.alloc (.cells #[.int .i64 (kk : Int), .int .i64 xi] 64)) := by (repeat' (first | (with_reducible assumption) | (with_reducible exact Ext.refl _ _) | (with_reducible refine Ext.alloc ?_ _) | (with_reducible refine Ext.drew ?_) | (with_reducible refine Ext.drewN ?_ _) | (with_reducible refine Ext.setCell ?_ (.inl (by simp only [World.size_alloc, World.size_setCell, World.size_drew] <;> omega)) _) | (with_reducible refine Ext.trans ?_ (by assumption) (fun _ _ e => e))))
        have gX4 : (wr.alloc (.cells #[.int .i64 (kk : Int), .int .i64 xi] 64)).cell? ⟨w1.heap.size, 4, none⟩ = some (.slice (some ⟨bG, offG, none⟩) nG cG) := hxX.cell hgc (fun e => e)
        have gX1 : (wr.alloc (.cells #[.int .i64 (kk : Int), .int .i64 xi] 64)).cell? ⟨bG, offG + kk * 3 + 1, none⟩ = some (.int .i64 ga1) := hxX.cell (hcG 1 _ rfl) (fun e => e)
        have gX2 : (wr.alloc (.cells #[.int .i64 (kk : Int), .int .i64 xi] 64)).cell? ⟨bG, offG + kk * 3 + 1 + 1, none⟩ = some (.int .i64 ga2) := hxX.cell (hcG 2 _ rfl) (fun e => e)
        have hxA : Ext Nothing wr ((wr.alloc (.cells #[.int .i64 (kk : Int), .int .i64 xi] 64)).alloc (.cells #[.int .i64 ga1, .int .i64 ga2] 38)) := by (repeat' (first | (with_reducible assumption) | (with_reducible exact Ext.refl _ _) | (with_reducible refine Ext.alloc ?_ _) | (with_reducible refine Ext.drew ?_) | (with_reducible refine Ext.drewN ?_ _) | (with_reducible refine Ext.setCell ?_ (.inl (by simp only [World.size_alloc, World.size_setCell, World.size_drew] <;> omega)) _) | (with_reducible refine Ext.trans ?_ (by assumption) (fun _ _ e => e))))
        have hbA := hbr.ext hxA (fun e => e)
        have hjA := hjr.ext hxA (fun e => e)
        have hrA := hrr.ext hxA (fun e => e)
        have tyA : ((wr.alloc (.cells #[.int .i64 (kk : Int), .int .i64 xi] 64)).alloc (.cells #[.int .i64 ga1, .int .i64 ga2] 38)).cell? ⟨w1.heap.size, 1, none⟩ = some (.int .i64 j.ty) := hjA.cell 1
        have plA : ((wr.alloc (.cells #[.int .i64 (kk : Int), .int .i64 xi] 64)).alloc (.cells #[.int .i64 ga1, .int .i64 ga2] 38)).cell? ⟨w.heap.size + 1, 4, none⟩ = some (.slice A' P.length c') := hrA.cell 4
        have xA1 : ((wr.alloc (.cells #[.int .i64 (kk : Int), .int .i64 xi] 64)).alloc (.cells #[.int .i64 ga1, .int .i64 ga2] 38)).cell? ⟨wr.heap.size, 1, none⟩ = some (.int .i64 xi) := ((Blk.new wr 64 #[.int .i64 (kk : Int), .int .i64 xi]).ext (S := Nothing) (by (repeat' (first | (with_reducible assumption) | (with_reducible exact Ext.refl _ _) | (with_reducible refine Ext.alloc ?_ _) | (with_reducible refine Ext.drew ?_) | (with_reducible refine Ext.drewN ?_ _) | (with_reducible refine Ext.setCell ?_ (.inl (by simp only [World.size_alloc, World.size_setCell, World.size_drew] <;> omega)) _) | (with_reducible refine Ext.trans ?_ (by assumption) (fun _ _ e => e))))) (fun e => e)).cell 1
        have hownA := own_ext (S := Nothing) hown hxA (fun _ _ e => e)
        have hPs := Sl.of_own (f := AllocD.cells) (fun _ => rfl) hownA rfl
        have hwA : Ext Nothing w ((wr.alloc (.cells #[.int .i64 (kk : Int), .int .i64 xi] 64)).alloc (.cells #[.int .i64 ga1, .int .i64 ga2] 38)) := hxw.trans hxA (fun _ _ e => e)
        rw [hA2e] at *
        clear hcG hgc hxX hF6 hFr hfold hmem hAGe
        have hW6lt : w.heap.size + 1 < W6.heap.size := hr6.lt
        cases et : (j.ty == 3) with
        | true =>
          have ety : j.ty = 3 := by simpa using et
          rw [ety] at tyA
          cases hm : mayF ns l P xi ⟨ga1, ga2⟩ with
          | false =>
            have HS := Lib.hid (show ((fillF ns l j).take (t + 1)).foldl (placeStep ns l j) ([], false) = (P, true) by rw [hst]; simp [placeStep, nodeFor, ety, hask, hm])
            have HM := Lib.hid hm
            clear hst hm et ety
            go_wp2_with (first | (refine wpList_load_at rfl 64 _ rfl STSlot b2 (off2 + t * 2) rfl #[.int .i64 (kk : Int), .int .i64 xi] (by exact hcf) rfl ?_) | (refine wpList_load_blk rfl 29 _ rfl STStore w.heap.size rfl #[s0, s1, .slice (some ⟨b, off, none⟩) nJ cJ, s3, .slice AN nN cN, .slice AA nA cA, .slice (some ⟨bE, offE, none⟩) nE cE, s7, s8] (by exact hbA) rfl ?_) | (go_at_call 15; refine (may_any AN nN cN ns AA nA cA l A' P.length c' P xi ⟨ga1, ga2⟩ _ s0 s1 _ s3 _ s7 s8 (hN.ext0 hwA) (by omega) (hA.ext0 hwA) (by omega) hPs (by omega)).mono ?_; rintro e Y ⟨rfl, hY⟩; rw [HM.out]; have hxY : Ext Nothing wr Y := hxA.trans hY (fun _ _ e => e); have hrY := hrr.ext hxY (fun e => e); have y5 : Y.cell? ⟨w.heap.size + 1, 5, none⟩ = some (.bool bl) := hrY.cell 5; have y5f : Y.frozen? ⟨w.heap.size + 1, 5, none⟩ = false := hrY.frozen 5))
            go_roundw
            case rel =>
              have hx5 : Ext (fun q => q = w.heap.size + 1) Y (Y.setCell ⟨w.heap.size + 1, 5, none⟩ (.bool true)) := Ext.set1 _ _ _ _
              exact ⟨t + 1, by omega, by go_num, P, true, A', c', HS.out, hrY.set_ 5 _, own_ext (own_ext hown hxY (fun _ _ e => e)) hx5 (fun g hg e => by have := own_ge hown hg; omega), by omega, (hx.trans hxY (fun _ _ e => e.elim)).trans hx5 (fun _ _ e => e)⟩
            case measure => simp [intOf]; omega
          | true =>
            obtain ⟨n, r0, hfn, _⟩ := may_true hm
            rcases idx_cases (fun n : NodD => n.id == xi) ns with ⟨_, hfn2, _⟩ | ⟨iN, n2, hpn, hni, _, hfn2, _⟩
            · rw [hfn] at hfn2; cases hfn2
            rw [hfn] at hfn2
            obtain rfl : n = n2 := by simpa using hfn2
            have hin' : iN < nN := by have := hNlen.out; have := (List.getElem?_eq_some_iff.1 hni).1; omega
            obtain ⟨_, bN, offN, hANe, hcn⟩ := hN.get hxw hin'
            rw [(List.getElem?_eq_some_iff.1 hni).2] at hcn
            have HPN := Lib.hid hpn
            have HS := Lib.hid (show ((fillF ns l j).take (t + 1)).foldl (placeStep ns l j) ([], false) = (P ++ [⟨0, j.id, j.ver, (kk : Int), xi, xi, n.epoch, ⟨ga1, ga2⟩, false, 0⟩], bl) by rw [hst]; simp [placeStep, nodeFor, placeOf, epochAt, hask, ety, hm, hfn])
            have HM := Lib.hid hm
            have HAN := Lib.hid hANe
            clear hANe
            have hn0 : (0 : Int) ≤ (iN : Int) := by omega
            have hn1 : (iN : Int) < nN := by omega
            clear hst hm hfn hfn2 hpn hask et ety
            go_wp2_with (first | (refine wpList_load_at rfl 64 _ rfl STSlot b2 (off2 + t * 2) rfl #[.int .i64 (kk : Int), .int .i64 xi] (by exact hcf) rfl ?_) | (refine wpList_load_blk rfl 29 _ rfl STStore w.heap.size rfl #[s0, s1, .slice (some ⟨b, off, none⟩) nJ cJ, s3, .slice AN nN cN, .slice AA nA cA, .slice (some ⟨bE, offE, none⟩) nE cE, s7, s8] (by exact hbA) rfl ?_) | (go_at_call 15; refine (may_any AN nN cN ns AA nA cA l A' P.length c' P xi ⟨ga1, ga2⟩ _ s0 s1 _ s3 _ s7 s8 (hN.ext0 hwA) (by omega) (hA.ext0 hwA) (by omega) hPs (by omega)).mono ?_; rintro e Y ⟨rfl, hY⟩; rw [HM.out]))
            have hxY : Ext Nothing wr Y := hxA.trans hY (fun _ _ e => e)
            have hwY : Ext Nothing w Y := hxw.trans hxY (fun _ _ e => e)
            have hbY := hbr.ext hxY (fun e => e)
            have hYd : Ext Nothing Y Y.drew := Ext.drew (Ext.refl _ _)
            have hY4 : Y.cell? ⟨w.heap.size, 4, none⟩ = some (.slice (some ⟨bN, offN, none⟩) nN cN) := by rw [← HAN.out]; exact hbY.cell 4
            have hcn2 : ∀ (W' : World), Ext Nothing Y W' → ∀ q u, (#[.int .i64 n.id, .int .i64 n.cap.cpu, .int .i64 n.cap.mem, .bool n.up, .bool n.drain, .int .i64 n.boot, .int .i64 n.epoch, .int .i64 n.seq] : Array Value).toList[q]? = some u → W'.cell? ⟨bN, offN + iN * 8 + q, none⟩ = some u := fun W' h q u hu => (hxY.trans h (fun _ _ e => e)).cell (hcn q u hu) (fun e => e)
            refine wp_region_held (S := fun W' => Ext Nothing Y W') (by kernel_rfl) ?_
            refine wpAnyH_take (i := 0) (v := .pointer (some ⟨w.heap.size, 4, none⟩)) rfl (by kernel_rfl) (by kernel_rfl) (by kernel_rfl) (fun _ _ _ h => h) (.inl ⟨by rfl, ?_⟩) hYd ?_
            · intro W' hS
              go_simp
            refine wpAnyH_take (i := 1) (v := .slice (some ⟨bN, offN, none⟩) nN cN) rfl (by kernel_rfl) (by kernel_rfl) (by kernel_rfl) (fun _ _ _ h => h) (.inl ⟨by rfl, ?_⟩) hYd ?_
            · intro W' hS
              have q4 : W'.cell? ⟨w.heap.size, 4, none⟩ = some (.slice (some ⟨bN, offN, none⟩) nN cN) := hS.cell hY4 (fun e => e)
              go_simp
            refine wpAnyH_take (i := 2) (v := .agg #[s0, s1, .slice (some ⟨b, off, none⟩) nJ cJ, s3, .slice AN nN cN, .slice AA nA cA, .slice (some ⟨bE, offE, none⟩) nE cE, s7, s8]) rfl (by kernel_rfl) (by kernel_rfl) (by kernel_rfl) (fun _ _ _ h => h) (.inl ⟨by rfl, ?_⟩) hYd ?_
            · intro W' hS
              exact run_load_struct (sz := 9) (b := w.heap.size) (off := 0) rfl STStore (by go_simp) (fun j u hu => by rw [Nat.zero_add, (hbY.ext hS (fun e => e)).cell]; simpa using hu) rfl
            refine wpAnyH_take (i := 3) (v := .int .i64 xi) rfl (by kernel_rfl) (by kernel_rfl) (by kernel_rfl) (fun _ _ _ h => h) (.inl ⟨by rfl, ?_⟩) hYd ?_
            · intro W' hS
              go_simp
            simp only [Act.put, List.getElem_toArray, List.getElem_cons_succ, List.getElem_cons_zero, List.setIfInBounds_toArray, List.set_cons_succ, List.set_cons_zero]
            refine wpAnyH_all (rs := [4, 7]) (by kernel_rfl) (by simp) (List.forall_mem_cons.2 ⟨?_, List.forall_mem_cons.2 ⟨?_, fun _ h => absurd h (by simp)⟩⟩)
            refine wpOp_call (f := 17) (args := #[.agg #[s0, s1, .slice (some ⟨b, off, none⟩) nJ cJ, s3, .slice AN nN cN, .slice AA nA cA, .slice (some ⟨bE, offE, none⟩) nE cE, s7, s8], .int .i64 xi]) rfl (by rfl) (by go_simp) ((findNode AN nN cN ns xi _ (hN.ext0 (hwY.trans hYd (fun _ _ e => e))) (by omega) s0 s1 _ s3 _ _ _ s7 s8 rfl).mono ?_)
            rintro e V5 ⟨rfl, hV5⟩
            have hS5 : Ext Nothing Y V5 := hYd.trans hV5 (fun _ _ e => e)
            refine ⟨.int .i64 (iN : Int), by rw [HPN.out], hS5, ?_⟩
            simp only [Act.put, List.getElem_toArray, List.getElem_cons_succ, List.getElem_cons_zero, List.setIfInBounds_toArray, List.set_cons_succ, List.set_cons_zero]
            refine wpAnyH_take (i := 5) (v := .pointer (some ⟨bN, offN + iN * 8, none⟩)) rfl (by kernel_rfl) (by kernel_rfl) (by kernel_rfl) (fun _ _ _ h => h) (.inl ⟨by rfl, ?_⟩) hS5 ?_
            · intro W' hS
              go_simp
            refine wpAnyH_take (i := 6) (v := .agg #[.int .i64 n.id, .int .i64 n.cap.cpu, .int .i64 n.cap.mem, .bool n.up, .bool n.drain, .int .i64 n.boot, .int .i64 n.epoch, .int .i64 n.seq]) rfl (by kernel_rfl) (by kernel_rfl) (by kernel_rfl) (fun _ _ _ h => h) (.inl ⟨by rfl, ?_⟩) hS5 ?_
            · intro W' hS
              exact run_load_struct (sz := 8) (b := bN) (off := offN + iN * 8) rfl STNode (by go_simp) (hcn2 W' hS) rfl
            simp only [Act.put, List.getElem_toArray, List.getElem_cons_succ, List.getElem_cons_zero, List.setIfInBounds_toArray, List.set_cons_succ, List.set_cons_zero]
            refine wpAnyH_all (rs := [7]) (by kernel_rfl) (by simp) (List.forall_mem_cons.2 ⟨?_, fun _ h => absurd h (by simp)⟩)
            refine wpOp_alloc rfl (by rfl) rfl ZTNode (fun z hz => ⟨hS5.alloc _, ?_⟩)
            simp only [Act.put, List.getElem_toArray, List.getElem_cons_succ, List.getElem_cons_zero, List.setIfInBounds_toArray, List.set_cons_succ, List.set_cons_zero]
            refine wpAnyH_all (rs := [8]) (by kernel_rfl) (by simp) (List.forall_mem_cons.2 ⟨?_, fun _ h => absurd h (by simp)⟩)
            refine wpOp_store (p := V5.heap.size) (cs := #[.int .i64 n.id, .int .i64 n.cap.cpu, .int .i64 n.cap.mem, .bool n.up, .bool n.drain, .int .i64 n.boot, .int .i64 n.epoch, .int .i64 n.seq]) rfl (by rfl) rfl (by go_simp) (by go_simp) (Blk.new V5 _ z) hz STNode rfl rfl (fun V6 hNB hE6 => ?_)
            have hY6 : Ext Nothing Y V6 := (hS5.alloc _).trans hE6 (fun q hq e => by have := hS5.size; omega)
            refine ⟨hY6, wpAnyH_done (by kernel_rfl) ?_ _⟩
            clear hE6
            generalize V5.heap.size = p at hNB ⊢
            simp only [Act.put, List.getElem_toArray, List.getElem_cons_succ, List.getElem_cons_zero, List.setIfInBounds_toArray, List.set_cons_succ, List.set_cons_zero]
            rotate_left
            refine wpOp_alloc rfl (by rfl) rfl ZTNode (fun z hz => ⟨hYd.alloc _, ?_⟩)
            simp only [Act.put, List.getElem_toArray, List.getElem_cons_succ, List.getElem_cons_zero, List.setIfInBounds_toArray, List.set_cons_succ, List.set_cons_zero]
            refine wpAnyH_all (rs := [4]) (by kernel_rfl) (by simp) (List.forall_mem_cons.2 ⟨?_, fun _ h => absurd h (by simp)⟩)
            have hYz : Ext Nothing Y (Y.drew.alloc (.cells z 45)) := hYd.alloc _
            refine wpOp_call (f := 17) (args := #[.agg #[s0, s1, .slice (some ⟨b, off, none⟩) nJ cJ, s3, .slice AN nN cN, .slice AA nA cA, .slice (some ⟨bE, offE, none⟩) nE cE, s7, s8], .int .i64 xi]) rfl (by rfl) (by go_simp) ((findNode AN nN cN ns xi _ (hN.ext0 (hwY.trans hYz (fun _ _ e => e))) (by omega) s0 s1 _ s3 _ _ _ s7 s8 rfl).mono ?_)
            rintro e V5 ⟨rfl, hV5⟩
            have hS5 : Ext Nothing Y V5 := hYz.trans hV5 (fun _ _ e => e)
            have hB5 : Blk V5 Y.heap.size 45 z := (Blk.new' Y.drew 45 z (n := Y.heap.size) rfl).ext hV5 (fun e => e)
            refine ⟨.int .i64 (iN : Int), by rw [HPN.out], hS5, ?_⟩
            simp only [Act.put, List.getElem_toArray, List.getElem_cons_succ, List.getElem_cons_zero, List.setIfInBounds_toArray, List.set_cons_succ, List.set_cons_zero]
            refine wpAnyH_take (i := 5) (v := .pointer (some ⟨bN, offN + iN * 8, none⟩)) rfl (by kernel_rfl) (by kernel_rfl) (by kernel_rfl) (fun _ _ _ h => h) (.inl ⟨by rfl, ?_⟩) hS5 ?_
            · intro W' hS
              go_simp
            refine wpAnyH_take (i := 6) (v := .agg #[.int .i64 n.id, .int .i64 n.cap.cpu, .int .i64 n.cap.mem, .bool n.up, .bool n.drain, .int .i64 n.boot, .int .i64 n.epoch, .int .i64 n.seq]) rfl (by kernel_rfl) (by kernel_rfl) (by kernel_rfl) (fun _ _ _ h => h) (.inl ⟨by rfl, ?_⟩) hS5 ?_
            · intro W' hS
              exact run_load_struct (sz := 8) (b := bN) (off := offN + iN * 8) rfl STNode (by go_simp) (hcn2 W' hS) rfl
            simp only [Act.put, List.getElem_toArray, List.getElem_cons_succ, List.getElem_cons_zero, List.setIfInBounds_toArray, List.set_cons_succ, List.set_cons_zero]
            refine wpAnyH_all (rs := [8]) (by kernel_rfl) (by simp) (List.forall_mem_cons.2 ⟨?_, fun _ h => absurd h (by simp)⟩)
            refine wpOp_store (p := Y.heap.size) (cs := #[.int .i64 n.id, .int .i64 n.cap.cpu, .int .i64 n.cap.mem, .bool n.up, .bool n.drain, .int .i64 n.boot, .int .i64 n.epoch, .int .i64 n.seq]) rfl (by rfl) rfl (by go_simp) (by go_simp) hB5 hz STNode rfl rfl (fun V6 hNB hE6 => ?_)
            have hY6 : Ext Nothing Y V6 := hS5.trans hE6 (fun q hq e => by omega)
            refine ⟨hY6, wpAnyH_done (by kernel_rfl) ?_ _⟩
            clear hE6 hB5
            generalize Y.heap.size = p at hNB ⊢
            simp only [Act.put, List.getElem_toArray, List.getElem_cons_succ, List.getElem_cons_zero, List.setIfInBounds_toArray, List.set_cons_succ, List.set_cons_zero]
            all_goals (
              have hxV : Ext Nothing wr V6 := hxY.trans hY6 (fun _ _ e => e)
              have hrV := hrr.ext hxV (fun e => e)
              have hjV := hjr.ext hxV (fun e => e)
              have plV : V6.cell? ⟨w.heap.size + 1, 4, none⟩ = some (.slice A' P.length c') := hrV.cell 4
              have jV0 : V6.cell? ⟨w1.heap.size, 0, none⟩ = some (.int .i64 j.id) := hjV.cell 0
              have jV5 : V6.cell? ⟨w1.heap.size, 5, none⟩ = some (.int .i64 j.ver) := hjV.cell 5
              have hxbV : Blk V6 wr.heap.size 64 #[.int .i64 (kk : Int), .int .i64 xi] := (((Blk.new wr 64 #[.int .i64 (kk : Int), .int .i64 xi]).ext (S := Nothing) (Ext.alloc (Ext.refl _ _) (.cells #[.int .i64 ga1, .int .i64 ga2] 38)) (fun e => e)).ext hY (fun e => e)).ext hY6 (fun e => e)
              have haV : Blk V6 (wr.heap.size + 1) 38 #[.int .i64 ga1, .int .i64 ga2] := ((Blk.new' (wr.alloc (.cells #[.int .i64 (kk : Int), .int .i64 xi] 64)) 38 #[.int .i64 ga1, .int .i64 ga2] (n := wr.heap.size + 1) (by simp)).ext hY (fun e => e)).ext hY6 (fun e => e)
              have xV0 : V6.cell? ⟨wr.heap.size, 0, none⟩ = some (.int .i64 (kk : Int)) := hxbV.cell 0
              have xV1 : V6.cell? ⟨wr.heap.size, 1, none⟩ = some (.int .i64 xi) := hxbV.cell 1
              have aV0 : V6.cell? ⟨wr.heap.size + 1, 0, none⟩ = some (.int .i64 ga1) := haV.cell 0
              have aV1 : V6.cell? ⟨wr.heap.size + 1, 1, none⟩ = some (.int .i64 ga2) := haV.cell 1
              have nV6 : V6.cell? ⟨p, 6, none⟩ = some (.int .i64 n.epoch) := hNB.cell 6
              have hownV := own_ext (S := Nothing) (w' := V6.alloc (.cells #[.int .i64 0, .int .i64 j.id, .int .i64 j.ver, .int .i64 (kk : Int), .int .i64 xi, .int .i64 xi, .int .i64 n.epoch, .int .i64 ga1, .int .i64 ga2, .bool false, .int .i64 0] 40)) (own_ext hown hxV (fun _ _ e => e)) (by (repeat' (first | (with_reducible assumption) | (with_reducible exact Ext.refl _ _) | (with_reducible refine Ext.alloc ?_ _) | (with_reducible refine Ext.drew ?_) | (with_reducible refine Ext.drewN ?_ _) | (with_reducible refine Ext.setCell ?_ (.inl (by simp only [World.size_alloc, World.size_setCell, World.size_drew] <;> omega)) _) | (with_reducible refine Ext.trans ?_ (by assumption) (fun _ _ e => e))))) (fun _ _ e => e)
              have hrZ := hrV.ext (S := Nothing) (w' := V6.alloc (.cells #[.int .i64 0, .int .i64 j.id, .int .i64 j.ver, .int .i64 (kk : Int), .int .i64 xi, .int .i64 xi, .int .i64 n.epoch, .int .i64 ga1, .int .i64 ga2, .bool false, .int .i64 0] 40)) (by (repeat' (first | (with_reducible assumption) | (with_reducible exact Ext.refl _ _) | (with_reducible refine Ext.alloc ?_ _) | (with_reducible refine Ext.drew ?_) | (with_reducible refine Ext.drewN ?_ _) | (with_reducible refine Ext.setCell ?_ (.inl (by simp only [World.size_alloc, World.size_setCell, World.size_drew] <;> omega)) _) | (with_reducible refine Ext.trans ?_ (by assumption) (fun _ _ e => e))))) (fun e => e)
              have hnV : Blk (V6.alloc (.cells #[.int .i64 0, .int .i64 j.id, .int .i64 j.ver, .int .i64 (kk : Int), .int .i64 xi, .int .i64 xi, .int .i64 n.epoch, .int .i64 ga1, .int .i64 ga2, .bool false, .int .i64 0] 40)) V6.heap.size 40 #[.int .i64 0, .int .i64 j.id, .int .i64 j.ver, .int .i64 (kk : Int), .int .i64 xi, .int .i64 xi, .int .i64 n.epoch, .int .i64 ga1, .int .i64 ga2, .bool false, .int .i64 0] := Blk.new _ _ _
              have hVz := hxV.size
              go_wp2_with (first | (refine wpList_slice1 rfl 24 _ rfl SLal #[.int .i64 0, .int .i64 j.id, .int .i64 j.ver, .int .i64 (kk : Int), .int .i64 xi, .int .i64 xi, .int .i64 n.epoch, .int .i64 ga1, .int .i64 ga2, .bool false, .int .i64 0] rfl rfl ?_) | (at_builtin; refine wpList_app1w rfl _ _ 24 rfl W6.heap.size SLal 88 BYal (.slice A' P.length c') P.length (P.flatMap AllocD.cells) rfl hownV V6.heap.size 1 #[.int .i64 0, .int .i64 j.id, .int .i64 j.ver, .int .i64 (kk : Int), .int .i64 xi, .int .i64 xi, .int .i64 n.epoch, .int .i64 ga1, .int .i64 ga2, .bool false, .int .i64 0] rfl hnV rfl rfl (by unfold maxLen; omega) (by omega) (by simp; omega) ?_; intro A5 c5 w5 hown5 hgr5; have hr5 := hrZ.ext (Ext.of_grown hgr5 (S := fun q => (Value.slice A' P.length c').ownBlock = some q) (fun g e => e)) (own_ne hownV hrZ (by decide)); have k4 : w5.cell? ⟨w.heap.size + 1, 4, none⟩ = some (.slice A' P.length c') := hr5.cell 4; have k4f : w5.frozen? ⟨w.heap.size + 1, 4, none⟩ = false := hr5.frozen 4))
              go_roundw
              case rel =>
                have hx56 : Ext (fun q => q = w.heap.size + 1) w5 (w5.setCell ⟨w.heap.size + 1, 4, none⟩ (.slice A5 (P.length + 1) c5)) := Ext.set1 _ _ _ _
                have hxa : Ext (fun q => q = w.heap.size + 1) W6 (V6.alloc (.cells #[.int .i64 0, .int .i64 j.id, .int .i64 j.ver, .int .i64 (kk : Int), .int .i64 xi, .int .i64 xi, .int .i64 n.epoch, .int .i64 ga1, .int .i64 ga2, .bool false, .int .i64 0] 40)) := (hx.trans hxV (fun _ _ e => e.elim)).alloc _
                refine ⟨t + 1, by omega, by go_num, P ++ [(⟨0, j.id, j.ver, (kk : Int), xi, xi, n.epoch, ⟨ga1, ga2⟩, false, 0⟩ : AllocD)], bl, A5, c5, HS.out, ?_, ?_, by simp; omega, (hxa.grown hgr5 (fun g e => .inl (own_ge hown e))).trans hx56 (fun _ _ e => e)⟩
                · rw [List.length_append]; exact hr5.set_ 4 _
                · rw [List.flatMap_append, List.length_append]
                  exact own_ext hown5 hx56 (fun g hg e => by subst e; exact own_ne hown5 hr5 (by decide) hg)
              case measure => simp [intOf]; omega)
        | false =>
          have ety : ¬ (j.ty = 3) := by simpa using et
          cases hm : bestF ns l P ⟨ga1, ga2⟩ with
          | none =>
            have HS := Lib.hid (show ((fillF ns l j).take (t + 1)).foldl (placeStep ns l j) ([], false) = (P, true) by rw [hst]; simp [placeStep, nodeFor, ety, hask, hm])
            have HM := Lib.hid hm
            clear hst hm ety
            go_wp2_with (first | (refine wpList_load_at rfl 64 _ rfl STSlot b2 (off2 + t * 2) rfl #[.int .i64 (kk : Int), .int .i64 xi] (by exact hcf) rfl ?_) | (refine wpList_load_blk rfl 29 _ rfl STStore w.heap.size rfl #[s0, s1, .slice (some ⟨b, off, none⟩) nJ cJ, s3, .slice AN nN cN, .slice AA nA cA, .slice (some ⟨bE, offE, none⟩) nE cE, s7, s8] (by exact hbA) rfl ?_) | (go_at_call 16; refine (best_any AN nN cN ns AA nA cA l A' P.length c' P ⟨ga1, ga2⟩ _ s0 s1 _ s3 _ s7 s8 (hN.ext0 hwA) (by omega) (hA.ext0 hwA) (by omega) hPs (by omega)).mono ?_; rintro e Y ⟨rfl, hY⟩; rw [HM.out]; simp only [Option.map_none, Option.getD_none, Option.isSome_none]; have hxY : Ext Nothing wr Y := hxA.trans hY (fun _ _ e => e); have hrY := hrr.ext hxY (fun e => e); have y5 : Y.cell? ⟨w.heap.size + 1, 5, none⟩ = some (.bool bl) := hrY.cell 5; have y5f : Y.frozen? ⟨w.heap.size + 1, 5, none⟩ = false := hrY.frozen 5))
            go_roundw
            case rel =>
              have hx5 : Ext (fun q => q = w.heap.size + 1) Y (Y.setCell ⟨w.heap.size + 1, 5, none⟩ (.bool true)) := Ext.set1 _ _ _ _
              exact ⟨t + 1, by omega, by go_num, P, true, A', c', HS.out, hrY.set_ 5 _, own_ext (own_ext hown hxY (fun _ _ e => e)) hx5 (fun g hg e => by have := own_ge hown hg; omega), by omega, (hx.trans hxY (fun _ _ e => e.elim)).trans hx5 (fun _ _ e => e)⟩
            case measure => simp [intOf]; omega
          | some q =>
            obtain ⟨n, hfn⟩ := best_find hm
            rcases idx_cases (fun n : NodD => n.id == q.1) ns with ⟨_, hfn2, _⟩ | ⟨iN, n2, hpn, hni, _, hfn2, _⟩
            · rw [hfn] at hfn2; cases hfn2
            rw [hfn] at hfn2
            obtain rfl : n = n2 := by simpa using hfn2
            have hin' : iN < nN := by have := hNlen.out; have := (List.getElem?_eq_some_iff.1 hni).1; omega
            obtain ⟨_, bN, offN, hANe, hcn⟩ := hN.get hxw hin'
            rw [(List.getElem?_eq_some_iff.1 hni).2] at hcn
            have HPN := Lib.hid hpn
            have HS := Lib.hid (show ((fillF ns l j).take (t + 1)).foldl (placeStep ns l j) ([], false) = (P ++ [⟨0, j.id, j.ver, (kk : Int), xi, q.1, n.epoch, ⟨ga1, ga2⟩, false, 0⟩], bl) by rw [hst]; simp [placeStep, nodeFor, placeOf, epochAt, hask, ety, hm, hfn])
            have HM := Lib.hid hm
            have HAN := Lib.hid hANe
            clear hANe
            have hn0 : (0 : Int) ≤ (iN : Int) := by omega
            have hn1 : (iN : Int) < nN := by omega
            clear hst hm hfn hfn2 hpn hask ety
            go_wp2_with (first | (refine wpList_load_at rfl 64 _ rfl STSlot b2 (off2 + t * 2) rfl #[.int .i64 (kk : Int), .int .i64 xi] (by exact hcf) rfl ?_) | (refine wpList_load_blk rfl 29 _ rfl STStore w.heap.size rfl #[s0, s1, .slice (some ⟨b, off, none⟩) nJ cJ, s3, .slice AN nN cN, .slice AA nA cA, .slice (some ⟨bE, offE, none⟩) nE cE, s7, s8] (by exact hbA) rfl ?_) | (go_at_call 16; refine (best_any AN nN cN ns AA nA cA l A' P.length c' P ⟨ga1, ga2⟩ _ s0 s1 _ s3 _ s7 s8 (hN.ext0 hwA) (by omega) (hA.ext0 hwA) (by omega) hPs (by omega)).mono ?_; rintro e Y ⟨rfl, hY⟩; rw [HM.out]; simp only [Option.map_some, Option.getD_some, Option.isSome_some]))
            have hxY : Ext Nothing wr Y := hxA.trans hY (fun _ _ e => e)
            have hwY : Ext Nothing w Y := hxw.trans hxY (fun _ _ e => e)
            have hbY := hbr.ext hxY (fun e => e)
            have hYd : Ext Nothing Y Y.drew := Ext.drew (Ext.refl _ _)
            have hY4 : Y.cell? ⟨w.heap.size, 4, none⟩ = some (.slice (some ⟨bN, offN, none⟩) nN cN) := by rw [← HAN.out]; exact hbY.cell 4
            have hcn2 : ∀ (W' : World), Ext Nothing Y W' → ∀ q u, (#[.int .i64 n.id, .int .i64 n.cap.cpu, .int .i64 n.cap.mem, .bool n.up, .bool n.drain, .int .i64 n.boot, .int .i64 n.epoch, .int .i64 n.seq] : Array Value).toList[q]? = some u → W'.cell? ⟨bN, offN + iN * 8 + q, none⟩ = some u := fun W' h q u hu => (hxY.trans h (fun _ _ e => e)).cell (hcn q u hu) (fun e => e)
            refine wp_region_held (S := fun W' => Ext Nothing Y W') (by kernel_rfl) ?_
            refine wpAnyH_take (i := 0) (v := .pointer (some ⟨w.heap.size, 4, none⟩)) rfl (by kernel_rfl) (by kernel_rfl) (by kernel_rfl) (fun _ _ _ h => h) (.inl ⟨by rfl, ?_⟩) hYd ?_
            · intro W' hS
              go_simp
            refine wpAnyH_take (i := 1) (v := .slice (some ⟨bN, offN, none⟩) nN cN) rfl (by kernel_rfl) (by kernel_rfl) (by kernel_rfl) (fun _ _ _ h => h) (.inl ⟨by rfl, ?_⟩) hYd ?_
            · intro W' hS
              have q4 : W'.cell? ⟨w.heap.size, 4, none⟩ = some (.slice (some ⟨bN, offN, none⟩) nN cN) := hS.cell hY4 (fun e => e)
              go_simp
            refine wpAnyH_take (i := 2) (v := .agg #[s0, s1, .slice (some ⟨b, off, none⟩) nJ cJ, s3, .slice AN nN cN, .slice AA nA cA, .slice (some ⟨bE, offE, none⟩) nE cE, s7, s8]) rfl (by kernel_rfl) (by kernel_rfl) (by kernel_rfl) (fun _ _ _ h => h) (.inl ⟨by rfl, ?_⟩) hYd ?_
            · intro W' hS
              exact run_load_struct (sz := 9) (b := w.heap.size) (off := 0) rfl STStore (by go_simp) (fun j u hu => by rw [Nat.zero_add, (hbY.ext hS (fun e => e)).cell]; simpa using hu) rfl
            refine wpAnyH_take (i := 3) (v := .int .i64 q.1) rfl (by kernel_rfl) (by kernel_rfl) (by kernel_rfl) (fun _ _ _ h => h) (.inl ⟨by rfl, ?_⟩) hYd ?_
            · intro W' hS
              go_simp
            simp only [Act.put, List.getElem_toArray, List.getElem_cons_succ, List.getElem_cons_zero, List.setIfInBounds_toArray, List.set_cons_succ, List.set_cons_zero]
            refine wpAnyH_all (rs := [4, 7]) (by kernel_rfl) (by simp) (List.forall_mem_cons.2 ⟨?_, List.forall_mem_cons.2 ⟨?_, fun _ h => absurd h (by simp)⟩⟩)
            refine wpOp_call (f := 17) (args := #[.agg #[s0, s1, .slice (some ⟨b, off, none⟩) nJ cJ, s3, .slice AN nN cN, .slice AA nA cA, .slice (some ⟨bE, offE, none⟩) nE cE, s7, s8], .int .i64 q.1]) rfl (by rfl) (by go_simp) ((findNode AN nN cN ns q.1 _ (hN.ext0 (hwY.trans hYd (fun _ _ e => e))) (by omega) s0 s1 _ s3 _ _ _ s7 s8 rfl).mono ?_)
            rintro e V5 ⟨rfl, hV5⟩
            have hS5 : Ext Nothing Y V5 := hYd.trans hV5 (fun _ _ e => e)
            refine ⟨.int .i64 (iN : Int), by rw [HPN.out], hS5, ?_⟩
            simp only [Act.put, List.getElem_toArray, List.getElem_cons_succ, List.getElem_cons_zero, List.setIfInBounds_toArray, List.set_cons_succ, List.set_cons_zero]
            refine wpAnyH_take (i := 5) (v := .pointer (some ⟨bN, offN + iN * 8, none⟩)) rfl (by kernel_rfl) (by kernel_rfl) (by kernel_rfl) (fun _ _ _ h => h) (.inl ⟨by rfl, ?_⟩) hS5 ?_
            · intro W' hS
              go_simp
            refine wpAnyH_take (i := 6) (v := .agg #[.int .i64 n.id, .int .i64 n.cap.cpu, .int .i64 n.cap.mem, .bool n.up, .bool n.drain, .int .i64 n.boot, .int .i64 n.epoch, .int .i64 n.seq]) rfl (by kernel_rfl) (by kernel_rfl) (by kernel_rfl) (fun _ _ _ h => h) (.inl ⟨by rfl, ?_⟩) hS5 ?_
            · intro W' hS
              exact run_load_struct (sz := 8) (b := bN) (off := offN + iN * 8) rfl STNode (by go_simp) (hcn2 W' hS) rfl
            simp only [Act.put, List.getElem_toArray, List.getElem_cons_succ, List.getElem_cons_zero, List.setIfInBounds_toArray, List.set_cons_succ, List.set_cons_zero]
            refine wpAnyH_all (rs := [7]) (by kernel_rfl) (by simp) (List.forall_mem_cons.2 ⟨?_, fun _ h => absurd h (by simp)⟩)
            refine wpOp_alloc rfl (by rfl) rfl ZTNode (fun z hz => ⟨hS5.alloc _, ?_⟩)
            simp only [Act.put, List.getElem_toArray, List.getElem_cons_succ, List.getElem_cons_zero, List.setIfInBounds_toArray, List.set_cons_succ, List.set_cons_zero]
            refine wpAnyH_all (rs := [8]) (by kernel_rfl) (by simp) (List.forall_mem_cons.2 ⟨?_, fun _ h => absurd h (by simp)⟩)
            refine wpOp_store (p := V5.heap.size) (cs := #[.int .i64 n.id, .int .i64 n.cap.cpu, .int .i64 n.cap.mem, .bool n.up, .bool n.drain, .int .i64 n.boot, .int .i64 n.epoch, .int .i64 n.seq]) rfl (by rfl) rfl (by go_simp) (by go_simp) (Blk.new V5 _ z) hz STNode rfl rfl (fun V6 hNB hE6 => ?_)
            have hY6 : Ext Nothing Y V6 := (hS5.alloc _).trans hE6 (fun q hq e => by have := hS5.size; omega)
            refine ⟨hY6, wpAnyH_done (by kernel_rfl) ?_ _⟩
            clear hE6
            generalize V5.heap.size = p at hNB ⊢
            simp only [Act.put, List.getElem_toArray, List.getElem_cons_succ, List.getElem_cons_zero, List.setIfInBounds_toArray, List.set_cons_succ, List.set_cons_zero]
            rotate_left
            refine wpOp_alloc rfl (by rfl) rfl ZTNode (fun z hz => ⟨hYd.alloc _, ?_⟩)
            simp only [Act.put, List.getElem_toArray, List.getElem_cons_succ, List.getElem_cons_zero, List.setIfInBounds_toArray, List.set_cons_succ, List.set_cons_zero]
            refine wpAnyH_all (rs := [4]) (by kernel_rfl) (by simp) (List.forall_mem_cons.2 ⟨?_, fun _ h => absurd h (by simp)⟩)
            have hYz : Ext Nothing Y (Y.drew.alloc (.cells z 45)) := hYd.alloc _
            refine wpOp_call (f := 17) (args := #[.agg #[s0, s1, .slice (some ⟨b, off, none⟩) nJ cJ, s3, .slice AN nN cN, .slice AA nA cA, .slice (some ⟨bE, offE, none⟩) nE cE, s7, s8], .int .i64 q.1]) rfl (by rfl) (by go_simp) ((findNode AN nN cN ns q.1 _ (hN.ext0 (hwY.trans hYz (fun _ _ e => e))) (by omega) s0 s1 _ s3 _ _ _ s7 s8 rfl).mono ?_)
            rintro e V5 ⟨rfl, hV5⟩
            have hS5 : Ext Nothing Y V5 := hYz.trans hV5 (fun _ _ e => e)
            have hB5 : Blk V5 Y.heap.size 45 z := (Blk.new' Y.drew 45 z (n := Y.heap.size) rfl).ext hV5 (fun e => e)
            refine ⟨.int .i64 (iN : Int), by rw [HPN.out], hS5, ?_⟩
            simp only [Act.put, List.getElem_toArray, List.getElem_cons_succ, List.getElem_cons_zero, List.setIfInBounds_toArray, List.set_cons_succ, List.set_cons_zero]
            refine wpAnyH_take (i := 5) (v := .pointer (some ⟨bN, offN + iN * 8, none⟩)) rfl (by kernel_rfl) (by kernel_rfl) (by kernel_rfl) (fun _ _ _ h => h) (.inl ⟨by rfl, ?_⟩) hS5 ?_
            · intro W' hS
              go_simp
            refine wpAnyH_take (i := 6) (v := .agg #[.int .i64 n.id, .int .i64 n.cap.cpu, .int .i64 n.cap.mem, .bool n.up, .bool n.drain, .int .i64 n.boot, .int .i64 n.epoch, .int .i64 n.seq]) rfl (by kernel_rfl) (by kernel_rfl) (by kernel_rfl) (fun _ _ _ h => h) (.inl ⟨by rfl, ?_⟩) hS5 ?_
            · intro W' hS
              exact run_load_struct (sz := 8) (b := bN) (off := offN + iN * 8) rfl STNode (by go_simp) (hcn2 W' hS) rfl
            simp only [Act.put, List.getElem_toArray, List.getElem_cons_succ, List.getElem_cons_zero, List.setIfInBounds_toArray, List.set_cons_succ, List.set_cons_zero]
            refine wpAnyH_all (rs := [8]) (by kernel_rfl) (by simp) (List.forall_mem_cons.2 ⟨?_, fun _ h => absurd h (by simp)⟩)
            refine wpOp_store (p := Y.heap.size) (cs := #[.int .i64 n.id, .int .i64 n.cap.cpu, .int .i64 n.cap.mem, .bool n.up, .bool n.drain, .int .i64 n.boot, .int .i64 n.epoch, .int .i64 n.seq]) rfl (by rfl) rfl (by go_simp) (by go_simp) hB5 hz STNode rfl rfl (fun V6 hNB hE6 => ?_)
            have hY6 : Ext Nothing Y V6 := hS5.trans hE6 (fun q hq e => by omega)
            refine ⟨hY6, wpAnyH_done (by kernel_rfl) ?_ _⟩
            clear hE6 hB5
            generalize Y.heap.size = p at hNB ⊢
            simp only [Act.put, List.getElem_toArray, List.getElem_cons_succ, List.getElem_cons_zero, List.setIfInBounds_toArray, List.set_cons_succ, List.set_cons_zero]
            all_goals (
              have hxV : Ext Nothing wr V6 := hxY.trans hY6 (fun _ _ e => e)
              have hrV := hrr.ext hxV (fun e => e)
              have hjV := hjr.ext hxV (fun e => e)
              have plV : V6.cell? ⟨w.heap.size + 1, 4, none⟩ = some (.slice A' P.length c') := hrV.cell 4
              have jV0 : V6.cell? ⟨w1.heap.size, 0, none⟩ = some (.int .i64 j.id) := hjV.cell 0
              have jV5 : V6.cell? ⟨w1.heap.size, 5, none⟩ = some (.int .i64 j.ver) := hjV.cell 5
              have hxbV : Blk V6 wr.heap.size 64 #[.int .i64 (kk : Int), .int .i64 xi] := (((Blk.new wr 64 #[.int .i64 (kk : Int), .int .i64 xi]).ext (S := Nothing) (Ext.alloc (Ext.refl _ _) (.cells #[.int .i64 ga1, .int .i64 ga2] 38)) (fun e => e)).ext hY (fun e => e)).ext hY6 (fun e => e)
              have haV : Blk V6 (wr.heap.size + 1) 38 #[.int .i64 ga1, .int .i64 ga2] := ((Blk.new' (wr.alloc (.cells #[.int .i64 (kk : Int), .int .i64 xi] 64)) 38 #[.int .i64 ga1, .int .i64 ga2] (n := wr.heap.size + 1) (by simp)).ext hY (fun e => e)).ext hY6 (fun e => e)
              have xV0 : V6.cell? ⟨wr.heap.size, 0, none⟩ = some (.int .i64 (kk : Int)) := hxbV.cell 0
              have xV1 : V6.cell? ⟨wr.heap.size, 1, none⟩ = some (.int .i64 xi) := hxbV.cell 1
              have aV0 : V6.cell? ⟨wr.heap.size + 1, 0, none⟩ = some (.int .i64 ga1) := haV.cell 0
              have aV1 : V6.cell? ⟨wr.heap.size + 1, 1, none⟩ = some (.int .i64 ga2) := haV.cell 1
              have nV6 : V6.cell? ⟨p, 6, none⟩ = some (.int .i64 n.epoch) := hNB.cell 6
              have hownV := own_ext (S := Nothing) (w' := V6.alloc (.cells #[.int .i64 0, .int .i64 j.id, .int .i64 j.ver, .int .i64 (kk : Int), .int .i64 xi, .int .i64 q.1, .int .i64 n.epoch, .int .i64 ga1, .int .i64 ga2, .bool false, .int .i64 0] 40)) (own_ext hown hxV (fun _ _ e => e)) (by (repeat' (first | (with_reducible assumption) | (with_reducible exact Ext.refl _ _) | (with_reducible refine Ext.alloc ?_ _) | (with_reducible refine Ext.drew ?_) | (with_reducible refine Ext.drewN ?_ _) | (with_reducible refine Ext.setCell ?_ (.inl (by simp only [World.size_alloc, World.size_setCell, World.size_drew] <;> omega)) _) | (with_reducible refine Ext.trans ?_ (by assumption) (fun _ _ e => e))))) (fun _ _ e => e)
              have hrZ := hrV.ext (S := Nothing) (w' := V6.alloc (.cells #[.int .i64 0, .int .i64 j.id, .int .i64 j.ver, .int .i64 (kk : Int), .int .i64 xi, .int .i64 q.1, .int .i64 n.epoch, .int .i64 ga1, .int .i64 ga2, .bool false, .int .i64 0] 40)) (by (repeat' (first | (with_reducible assumption) | (with_reducible exact Ext.refl _ _) | (with_reducible refine Ext.alloc ?_ _) | (with_reducible refine Ext.drew ?_) | (with_reducible refine Ext.drewN ?_ _) | (with_reducible refine Ext.setCell ?_ (.inl (by simp only [World.size_alloc, World.size_setCell, World.size_drew] <;> omega)) _) | (with_reducible refine Ext.trans ?_ (by assumption) (fun _ _ e => e))))) (fun e => e)
              have hnV : Blk (V6.alloc (.cells #[.int .i64 0, .int .i64 j.id, .int .i64 j.ver, .int .i64 (kk : Int), .int .i64 xi, .int .i64 q.1, .int .i64 n.epoch, .int .i64 ga1, .int .i64 ga2, .bool false, .int .i64 0] 40)) V6.heap.size 40 #[.int .i64 0, .int .i64 j.id, .int .i64 j.ver, .int .i64 (kk : Int), .int .i64 xi, .int .i64 q.1, .int .i64 n.epoch, .int .i64 ga1, .int .i64 ga2, .bool false, .int .i64 0] := Blk.new _ _ _
              have hVz := hxV.size
              go_wp2_with (first | (refine wpList_slice1 rfl 24 _ rfl SLal #[.int .i64 0, .int .i64 j.id, .int .i64 j.ver, .int .i64 (kk : Int), .int .i64 xi, .int .i64 q.1, .int .i64 n.epoch, .int .i64 ga1, .int .i64 ga2, .bool false, .int .i64 0] rfl rfl ?_) | (at_builtin; refine wpList_app1w rfl _ _ 24 rfl W6.heap.size SLal 88 BYal (.slice A' P.length c') P.length (P.flatMap AllocD.cells) rfl hownV V6.heap.size 1 #[.int .i64 0, .int .i64 j.id, .int .i64 j.ver, .int .i64 (kk : Int), .int .i64 xi, .int .i64 q.1, .int .i64 n.epoch, .int .i64 ga1, .int .i64 ga2, .bool false, .int .i64 0] rfl hnV rfl rfl (by unfold maxLen; omega) (by omega) (by simp; omega) ?_; intro A5 c5 w5 hown5 hgr5; have hr5 := hrZ.ext (Ext.of_grown hgr5 (S := fun q => (Value.slice A' P.length c').ownBlock = some q) (fun g e => e)) (own_ne hownV hrZ (by decide)); have k4 : w5.cell? ⟨w.heap.size + 1, 4, none⟩ = some (.slice A' P.length c') := hr5.cell 4; have k4f : w5.frozen? ⟨w.heap.size + 1, 4, none⟩ = false := hr5.frozen 4))
              go_roundw
              case rel =>
                have hx56 : Ext (fun q => q = w.heap.size + 1) w5 (w5.setCell ⟨w.heap.size + 1, 4, none⟩ (.slice A5 (P.length + 1) c5)) := Ext.set1 _ _ _ _
                have hxa : Ext (fun q => q = w.heap.size + 1) W6 (V6.alloc (.cells #[.int .i64 0, .int .i64 j.id, .int .i64 j.ver, .int .i64 (kk : Int), .int .i64 xi, .int .i64 q.1, .int .i64 n.epoch, .int .i64 ga1, .int .i64 ga2, .bool false, .int .i64 0] 40)) := (hx.trans hxV (fun _ _ e => e.elim)).alloc _
                refine ⟨t + 1, by omega, by go_num, P ++ [(⟨0, j.id, j.ver, (kk : Int), xi, q.1, n.epoch, ⟨ga1, ga2⟩, false, 0⟩ : AllocD)], bl, A5, c5, HS.out, ?_, ?_, by simp; omega, (hxa.grown hgr5 (fun g e => .inl (own_ge hown e))).trans hx56 (fun _ _ e => e)⟩
                · rw [List.length_append]; exact hr5.set_ 4 _
                · rw [List.flatMap_append, List.length_append]
                  exact own_ext hown5 hx56 (fun g hg e => by subst e; exact own_ne hown5 hr5 (by decide) hg)
              case measure => simp [intOf]; omega)
      · obtain rfl : t = (fillF ns l j).length := by omega
        rw [List.take_length] at hfold
        have hP : placesF ns l j = (P, bl) := hfold
        go_wp2
        refine bodyPost_ret (results_cell rfl STPlan (g := w.heap.size + 1) rfl hrr rfl) rfl ?_
        rw [hP]
        exact ⟨A1, c1, A', c', rfl, own_base (own_ext own3 hx (fun g hg e => by have := own_ge own3 hg; omega)) (by omega), own_base hown (by omega), hxw⟩
end Go.Proofs.Ytfmkoemogicdkaa
