/- Settled, whole: no evaluation is pending, each job is settled. (printed by wip/gen/stays.py) -/
import Derived.Test.YtfmkoemogicdkaaGreatLookT
namespace Go.Proofs.YtfmkoemogicdkaaGreat
set_option linter.unusedVariables false
open Go.RowKit

/-- the first job of that number -/
def firstJ (s : StoreV) (x : JobV) : JobD := match s.jobs.find? (fun y => y.1.id == x.1.id) with | some y => y.1 | none => x.1
def unsetB (s : StoreV) (x : JobV) : Bool := !settledF s (firstJ s x)
set_option maxRecDepth 100000 in
set_option maxHeartbeats 4000000 in
theorem isUnset (x : JobV) (bs : Nat) (s : StoreV) (w : World) (h : s.Ok w) (hb : Blk w bs 29 #[.int .i64 s.index, .int .i64 s.next, .slice s.AJ s.nJ s.cJ, .slice s.AS s.nS s.cS, .slice s.AN s.nN s.cN, .slice s.AA s.nA s.cA, .slice s.AE s.nE s.cE, .slice s.AD s.nD s.cD, .slice s.AX s.nX s.cX]) (hm : x ∈ s.jobs) :
    Calls Tryz.prog 24 #[.agg (JobV.cells x).toArray, .pointer (some ⟨bs, 0, none⟩)] w fun e w' => e = .returned (.bool (unsetB s x)) ∧ Ext Nothing w w' := by
  have hx0 : Ext Nothing w (w.alloc (.cells #[.int .i64 x.1.id, .int .i64 x.1.ty, .int .i64 x.1.prio, .int .i64 x.1.par, x.2, .int .i64 x.1.ver, .bool x.1.stopped] 43)) := (Ext.refl _ _).alloc _
  have hbs := hb.ext hx0 (fun e => e)
  have hbx : Blk (w.alloc (.cells #[.int .i64 x.1.id, .int .i64 x.1.ty, .int .i64 x.1.prio, .int .i64 x.1.par, x.2, .int .i64 x.1.ver, .bool x.1.stopped] 43)) w.heap.size 43 #[.int .i64 x.1.id, .int .i64 x.1.ty, .int .i64 x.1.prio, .int .i64 x.1.par, x.2, .int .i64 x.1.ver, .bool x.1.stopped] := Blk.new _ _ _
  have h1 := h.ext0 hx0
  have hlJ := Lib.hid h1.sJ.len
  have hmJ := h1.mJ
  rcases idx_cases (fun y : JobV => y.1.id == x.1.id) s.jobs with ⟨_, _, hno⟩ | ⟨ix, y, hp, hi, hpy, hf, _⟩
  · have := hno x hm; simp at this
  · have hid : y.1.id = x.1.id := by simpa using hpy
    have hfx : firstJ s x = y.1 := by simp only [firstJ, hf]
    obtain ⟨y, vg⟩ := y
    obtain ⟨_, AG, nG, cG, hv, _, _, _⟩ := h1.kJ _ (List.mem_of_getElem? hi)
    simp only at hv hid hfx
    subst hv
    have HU := Lib.hid (show unsetB s x = !settledF s y by rw [unsetB, hfx])
    obtain ⟨hil, hi'⟩ := List.getElem?_eq_some_iff.1 hi
    have hin : ix < s.nJ := by have := hlJ.out; omega
    have hk0 : (0 : Int) ≤ (ix : Int) := by omega
    have hk1 : (ix : Int) < s.nJ := by omega
    obtain ⟨_, d, f, hAe, hce⟩ := h1.sJ.get (Ext.refl _ _) hin
    rw [hi'] at hce
    have HA := Lib.hid hAe
    have HP := Lib.hid hp
    have hpy' : idxI (fun z : JobV => z.1.id == y.id) s.jobs = ix := by rw [hid]; exact hp
    have HI := Lib.hid hi
    clear hAe hp hpy hf hfx hi' hid hi
    generalize hsf : settledF s y = sf
    have HSF := Lib.hid hsf
    have HPY := Lib.hid hpy'
    clear hsf hpy'
    show Calls Tryz.prog 24 #[.agg #[.int .i64 x.1.id, .int .i64 x.1.ty, .int .i64 x.1.prio, .int .i64 x.1.par, x.2, .int .i64 x.1.ver, .bool x.1.stopped], .pointer (some ⟨bs, 0, none⟩)] w _
    go_enter Tryz.func24, Tryz.ntmps24
    go_wp2
    refine calm_region (by kernel_rfl) (by kernel_rfl) ?_
    have hcs : ∀ W, Ext Nothing (w.alloc (.cells #[.int .i64 x.1.id, .int .i64 x.1.ty, .int .i64 x.1.prio, .int .i64 x.1.par, x.2, .int .i64 x.1.ver, .bool x.1.stopped] 43)) W → ∀ i, W.cell? ⟨bs, i, none⟩ = (#[.int .i64 s.index, .int .i64 s.next, .slice s.AJ s.nJ s.cJ, .slice s.AS s.nS s.cS, .slice s.AN s.nN s.cN, .slice s.AA s.nA s.cA, .slice s.AE s.nE s.cE, .slice s.AD s.nD s.cD, .slice s.AX s.nX s.cX] : Array Value)[i]? := fun W hW i => (hbs.ext hW (fun e => e)).cell i
    have hcx : ∀ W, Ext Nothing (w.alloc (.cells #[.int .i64 x.1.id, .int .i64 x.1.ty, .int .i64 x.1.prio, .int .i64 x.1.par, x.2, .int .i64 x.1.ver, .bool x.1.stopped] 43)) W → ∀ i, W.cell? ⟨w.heap.size, i, none⟩ = (#[.int .i64 x.1.id, .int .i64 x.1.ty, .int .i64 x.1.prio, .int .i64 x.1.par, x.2, .int .i64 x.1.ver, .bool x.1.stopped] : Array Value)[i]? := fun W hW i => (hbx.ext hW (fun e => e)).cell i

    refine calm_val (v := .agg #[.int .i64 s.index, .int .i64 s.next, .slice s.AJ s.nJ s.cJ, .slice s.AS s.nS s.cS, .slice s.AN s.nN s.cN, .slice s.AA s.nA s.cA, .slice s.AE s.nE s.cE, .slice s.AD s.nD s.cD, .slice s.AX s.nX s.cX]) (by kernel_rfl) ?_ ?_
    · intro W hW
      exact run_load_struct (sz := 9) (b := bs) (off := 0) rfl STStore (by go_simp) (fun j u hu => by rw [Nat.zero_add, hcs W hW]; simpa using hu) rfl
    simp only [Act.put, List.setIfInBounds_toArray, List.set_cons_succ, List.set_cons_zero]
    refine calm_val (v := .pointer (some ⟨bs, 2, none⟩)) (by kernel_rfl) ?_ ?_
    · intro W hW
      go_simp
    simp only [Act.put, List.setIfInBounds_toArray, List.set_cons_succ, List.set_cons_zero]
    refine calm_val (v := .slice (some ⟨d, f, none⟩) s.nJ s.cJ) (by kernel_rfl) ?_ ?_
    · intro W hW
      have q4 : W.cell? ⟨bs, 2, none⟩ = some (.slice (some ⟨d, f, none⟩) s.nJ s.cJ) := (by rw [← HA.out]; exact hcs W hW 2)
      clear hcs hcx
      go_simp
    simp only [Act.put, List.setIfInBounds_toArray, List.set_cons_succ, List.set_cons_zero]
    refine calm_val (v := .agg #[.int .i64 s.index, .int .i64 s.next, .slice s.AJ s.nJ s.cJ, .slice s.AS s.nS s.cS, .slice s.AN s.nN s.cN, .slice s.AA s.nA s.cA, .slice s.AE s.nE s.cE, .slice s.AD s.nD s.cD, .slice s.AX s.nX s.cX]) (by kernel_rfl) ?_ ?_
    · intro W hW
      exact run_load_struct (sz := 9) (b := bs) (off := 0) rfl STStore (by go_simp) (fun j u hu => by rw [Nat.zero_add, hcs W hW]; simpa using hu) rfl
    simp only [Act.put, List.setIfInBounds_toArray, List.set_cons_succ, List.set_cons_zero]
    refine calm_val (v := .pointer (some ⟨w.heap.size, 0, none⟩)) (by kernel_rfl) ?_ ?_
    · intro W hW
      go_simp
    simp only [Act.put, List.setIfInBounds_toArray, List.set_cons_succ, List.set_cons_zero]
    refine calm_val (v := .int .i64 x.1.id) (by kernel_rfl) ?_ ?_
    · intro W hW
      have q5 : W.cell? ⟨w.heap.size, 0, none⟩ = some (.int .i64 x.1.id) := hcx W hW 0
      go_simp
    simp only [Act.put, List.setIfInBounds_toArray, List.set_cons_succ, List.set_cons_zero]
    refine calm_call (v := .int .i64 (ix : Int)) (f := 26) (args := #[.agg #[.int .i64 s.index, .int .i64 s.next, .slice s.AJ s.nJ s.cJ, .slice s.AS s.nS s.cS, .slice s.AN s.nN s.cN, .slice s.AA s.nA s.cA, .slice s.AE s.nE s.cE, .slice s.AD s.nD s.cD, .slice s.AX s.nX s.cX], .int .i64 x.1.id]) (by kernel_rfl) (fun W hW => by go_simp) (fun W hW => (findJob s.AJ s.nJ s.cJ s.jobs x.1.id W (h1.ext0 hW).sJ (by omega) _ _ _ _ _ _ _ _ _ rfl).mono fun e w' ⟨he, hx⟩ => ⟨by rw [he, HP.out], hW.trans hx (fun _ _ e => e)⟩) ?_
    simp only [Act.put, List.setIfInBounds_toArray, List.set_cons_succ, List.set_cons_zero]
    refine calm_val (v := .pointer (some ⟨d, f + ix * 7, none⟩)) (by kernel_rfl) ?_ ?_
    · intro W hW
      clear hcs hcx
      go_simp
    simp only [Act.put, List.setIfInBounds_toArray, List.set_cons_succ, List.set_cons_zero]
    refine calm_val (v := .agg #[.int .i64 y.id, .int .i64 y.ty, .int .i64 y.prio, .int .i64 y.par, .slice AG nG cG, .int .i64 y.ver, .bool y.stopped]) (by kernel_rfl) ?_ ?_
    · intro W hW
      exact run_load_struct (sz := 7) (b := d) (off := f + ix * 7) rfl STJob (by go_simp) (fun j u hu => hW.cell (hce j u hu) (fun e => e)) rfl
    simp only [Act.put, List.setIfInBounds_toArray, List.set_cons_succ, List.set_cons_zero]
    refine calm_call (v := .bool sf) (f := 25) (args := #[.agg #[.int .i64 s.index, .int .i64 s.next, .slice s.AJ s.nJ s.cJ, .slice s.AS s.nS s.cS, .slice s.AN s.nN s.cN, .slice s.AA s.nA s.cA, .slice s.AE s.nE s.cE, .slice s.AD s.nD s.cD, .slice s.AX s.nX s.cX], .agg #[.int .i64 y.id, .int .i64 y.ty, .int .i64 y.prio, .int .i64 y.par, .slice AG nG cG, .int .i64 y.ver, .bool y.stopped]]) (by kernel_rfl) (fun W hW => by go_simp) (fun W hW => (settled_any s y AG nG cG ix W (h1.ext0 hW) HPY.out HI.out).mono fun e w' ⟨he, hx⟩ => ⟨by rw [he, HSF.out], hW.trans hx (fun _ _ e => e)⟩) ?_
    simp only [Act.put, List.setIfInBounds_toArray, List.set_cons_succ, List.set_cons_zero]
    refine calm_val (v := .bool (!sf)) (by kernel_rfl) ?_ ?_
    · intro W hW
      go_simp
    simp only [Act.put, List.setIfInBounds_toArray, List.set_cons_succ, List.set_cons_zero]
    refine calm_val (v := .bool (!sf)) (by kernel_rfl) ?_ ?_
    · intro W hW
      go_simp
    simp only [Act.put, List.setIfInBounds_toArray, List.set_cons_succ, List.set_cons_zero]
    refine calm_nil (fun W hW => ?_)
    clear hcs hcx
    go_wp2
    go_ret
    exact ⟨by rw [HU.out, HSF.out]; rfl, hx0.trans hW (fun _ _ e => e)⟩


set_option maxHeartbeats 1000000 in
theorem ixUnset (A : Option Addr) (n cap : Nat) (l : List (JobV)) (w : World) (hl : Sl w 7 A n (l.map JobV.cells)) (hn : n ≤ 67108864) (bs : Nat) (s : StoreV) (h : s.Ok w) (hb : Blk w bs 29 #[.int .i64 s.index, .int .i64 s.next, .slice s.AJ s.nJ s.cJ, .slice s.AS s.nS s.cS, .slice s.AN s.nN s.cN, .slice s.AA s.nA s.cA, .slice s.AE s.nE s.cE, .slice s.AD s.nD s.cD, .slice s.AX s.nX s.cX]) (hlj : ∀ x ∈ l, x ∈ s.jobs) :
    Calls Tryz.prog 38 #[.slice A n cap, .func (.func 24) #[] #[.pointer (some ⟨bs, 0, none⟩)]] w fun e w' => e = .returned (.int .i64 (idxI (unsetB s) l)) ∧ Ext Nothing w w' := by
  have hlen := Lib.hid hl.len
  go_enter Tryz.func38, Tryz.ntmps38
  go_wp2
  go_loopw [8] (fun i wr => ∃ j : Nat, j ≤ n ∧ i = .int .i64 j ∧ (∀ i < j, ∀ y, l[i]? = some y → (unsetB s) y = false) ∧ Ext Nothing w wr) (fun i _ => n - (intOf i).toNat)
  case atStart => exact ⟨0, Nat.zero_le _, rfl, fun j hj => absurd hj (by omega), Ext.refl _ _⟩
  case round =>
    obtain ⟨j, hj, rfl, hno, hxx⟩ := hrel
    by_cases hlt : j < n
    · obtain ⟨hjn, b, off, rfl, hce⟩ := hl.get hxx hlt
      have hy : l[j]? = some l[j] := List.getElem?_eq_getElem hjn
      generalize l[j] = x at hce hy
      have hm : x ∈ l := List.mem_of_getElem? hy
      cases hp : (unsetB s) x with
      | true =>
        have hr := Lib.hid (idx_hit (p := unsetB s) hno hy hp)
        have hp' := Lib.hid hp
        clear hno hy hp
        go_wp2_with (first | (refine wpList_load_at rfl 43 _ rfl STJob b (off + j * 7) rfl (JobV.cells x).toArray (by exact hce) rfl ?_) | (go_at_call 24; refine (isUnset x bs s _ (h.ext0 hxx) (hb.ext hxx (fun e => e)) (hlj x hm)).mono ?_; rintro e w' ⟨rfl, hx1⟩; rw [hp'.out]))
        go_ret
        exact ⟨by rw [hr.out]; rfl, hxx.trans hx1 (fun _ _ e => e)⟩
      | false =>
        have hno' : ∀ i < j + 1, ∀ y, l[i]? = some y → (unsetB s) y = false := fun i hi y hy' => by
          by_cases h : i = j
          · subst h; rw [hy] at hy'; cases hy'; exact hp
          · exact hno i (by omega) y hy'
        have HN := Lib.hid hno'
        have hp' := Lib.hid hp
        clear hno hno' hy hp
        go_wp2_with (first | (refine wpList_load_at rfl 43 _ rfl STJob b (off + j * 7) rfl (JobV.cells x).toArray (by exact hce) rfl ?_) | (go_at_call 24; refine (isUnset x bs s _ (h.ext0 hxx) (hb.ext hxx (fun e => e)) (hlj x hm)).mono ?_; rintro e w' ⟨rfl, hx1⟩; rw [hp'.out]))
        go_roundw
        case rel => exact ⟨j + 1, by omega, by go_num, HN.out, hxx.trans hx1 (fun _ _ e => e)⟩
        case measure => simp [intOf]; omega
    · have hr := Lib.hid (idx_none (p := unsetB s) (l := l) (fun i hi y hy => hno i (by have := hlen.out; omega) y hy))
      clear hno
      go_wp2
      go_ret
      exact ⟨by rw [hr.out]; rfl, hxx⟩
theorem ctUnset (A : Option Addr) (n cap : Nat) (l : List (JobV)) (w : World) (hl : Sl w 7 A n (l.map JobV.cells)) (hn : n ≤ 67108864) (bs : Nat) (s : StoreV) (h : s.Ok w) (hb : Blk w bs 29 #[.int .i64 s.index, .int .i64 s.next, .slice s.AJ s.nJ s.cJ, .slice s.AS s.nS s.cS, .slice s.AN s.nN s.cN, .slice s.AA s.nA s.cA, .slice s.AE s.nE s.cE, .slice s.AD s.nD s.cD, .slice s.AX s.nX s.cX]) (hlj : ∀ x ∈ l, x ∈ s.jobs) :
    Calls Tryz.prog 23 #[.slice A n cap, .func (.func 24) #[] #[.pointer (some ⟨bs, 0, none⟩)]] w fun e w' => e = .returned (.bool (l.any (unsetB s))) ∧ Ext Nothing w w' := by
  have hi := ixUnset A n cap l w hl hn bs s h hb hlj
  rw [← idx_any (unsetB s) l]
  generalize idxI (unsetB s) l = z at hi ⊢
  go_enter Tryz.func23, Tryz.ntmps23
  cases hz : decide (z ≥ 0) with
  | true =>
    have hz' := of_decide_eq_true hz
    go_wp2_with (go_at_call 38; refine hi.mono ?_; rintro e w1 ⟨rfl, hx1⟩)
    go_ret
    exact ⟨rfl, hx1⟩
  | false =>
    have hz' := of_decide_eq_false hz
    go_wp2_with (go_at_call 38; refine hi.mono ?_; rintro e w1 ⟨rfl, hx1⟩)
    go_ret
    exact ⟨rfl, hx1⟩


def settledAll (s : StoreV) : Bool := !s.evals.any pendB && !s.jobs.any (unsetB s)
theorem settledAll_any (s : StoreV) (w : World) (h : s.Ok w) : Calls Tryz.prog 10 #[.agg #[.int .i64 s.index, .int .i64 s.next, .slice s.AJ s.nJ s.cJ, .slice s.AS s.nS s.cS, .slice s.AN s.nN s.cN, .slice s.AA s.nA s.cA, .slice s.AE s.nE s.cE, .slice s.AD s.nD s.cD, .slice s.AX s.nX s.cX]] w fun e w' => e = .returned (.bool (settledAll s)) ∧ Ext Nothing w w' := by
  have hx0 : Ext Nothing w (w.alloc (.cells #[.int .i64 s.index, .int .i64 s.next, .slice s.AJ s.nJ s.cJ, .slice s.AS s.nS s.cS, .slice s.AN s.nN s.cN, .slice s.AA s.nA s.cA, .slice s.AE s.nE s.cE, .slice s.AD s.nD s.cD, .slice s.AX s.nX s.cX] 29)) := by (repeat' (first | (with_reducible assumption) | (with_reducible exact Ext.refl _ _) | (with_reducible refine Ext.alloc ?_ _) | (with_reducible refine Ext.drew ?_) | (with_reducible refine Ext.drewN ?_ _) | (with_reducible refine Ext.setCell ?_ (.inl (by simp only [World.size_alloc, World.size_setCell, World.size_drew] <;> omega)) _) | (with_reducible refine Ext.trans ?_ (by assumption) (fun _ _ e => e))))
  have hb : Blk (w.alloc (.cells #[.int .i64 s.index, .int .i64 s.next, .slice s.AJ s.nJ s.cJ, .slice s.AS s.nS s.cS, .slice s.AN s.nN s.cN, .slice s.AA s.nA s.cA, .slice s.AE s.nE s.cE, .slice s.AD s.nD s.cD, .slice s.AX s.nX s.cX] 29)) w.heap.size 29 #[.int .i64 s.index, .int .i64 s.next, .slice s.AJ s.nJ s.cJ, .slice s.AS s.nS s.cS, .slice s.AN s.nN s.cN, .slice s.AA s.nA s.cA, .slice s.AE s.nE s.cE, .slice s.AD s.nD s.cD, .slice s.AX s.nX s.cX] := Blk.new _ _ _
  have h1 := h.ext0 hx0
  have hmE := h.mE
  have hmJ := h.mJ
  unfold settledAll
  generalize hz : s.evals.any pendB = z
  have HZ := Lib.hid hz
  clear hz
  generalize hu : s.jobs.any (unsetB s) = u
  have HU := Lib.hid hu
  clear hu
  go_enter Tryz.func10, Tryz.ntmps10
  cases z with
  | true =>
    go_wp2_with (first | (go_at_call 21; refine (ctPend s.AE s.nE s.cE s.evals _ h1.sE (by omega)).mono ?_; rintro e w1 ⟨rfl, hx1⟩; rw [HZ.out]; have k2 : w1.cell? ⟨w.heap.size, 2, none⟩ = some (.slice s.AJ s.nJ s.cJ) := (hb.ext hx1 (fun e => e)).cell 2) | (go_at_call 23; refine (ctUnset s.AJ s.nJ s.cJ s.jobs _ (h1.ext0 hx1).sJ (by omega) w.heap.size s (h1.ext0 hx1) (hb.ext hx1 (fun e => e)) (fun x hx => hx)).mono ?_; rintro e w2 ⟨rfl, hx2⟩; rw [HU.out]))
    go_ret
    exact ⟨rfl, hx0.trans hx1 (fun _ _ e => e)⟩
  | false =>
    go_wp2_with (first | (go_at_call 21; refine (ctPend s.AE s.nE s.cE s.evals _ h1.sE (by omega)).mono ?_; rintro e w1 ⟨rfl, hx1⟩; rw [HZ.out]; have k2 : w1.cell? ⟨w.heap.size, 2, none⟩ = some (.slice s.AJ s.nJ s.cJ) := (hb.ext hx1 (fun e => e)).cell 2) | (go_at_call 23; refine (ctUnset s.AJ s.nJ s.cJ s.jobs _ (h1.ext0 hx1).sJ (by omega) w.heap.size s (h1.ext0 hx1) (hb.ext hx1 (fun e => e)) (fun x hx => hx)).mono ?_; rintro e w2 ⟨rfl, hx2⟩; rw [HU.out]))
    go_ret
    exact ⟨rfl, (hx0.trans hx1 (fun _ _ e => e)).trans hx2 (fun _ _ e => e)⟩
end Go.Proofs.YtfmkoemogicdkaaGreat