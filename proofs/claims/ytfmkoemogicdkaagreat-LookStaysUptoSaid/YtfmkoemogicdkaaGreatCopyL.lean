/- What the reference's Copy keeps: words for rows of a call's own. -/
import Derived.Test.YtfmkoemogicdkaaGreatRefJob
namespace Go.Proofs.YtfmkoemogicdkaaGreat
set_option linter.unusedVariables false
open Go.RowKit

theorem own_blk {w : World} {base e sz n g : Nat} {v : Value} {xs : List Value} (h : w.ownsRow base e sz v n xs) (hv : v.ownBlock = some g) : ∃ cs, Blk w g e cs := by
  rcases h.2 with ⟨rfl, _⟩ | ⟨g', cap, cur, rfl, _, hg, _⟩
  · simp [Value.ownBlock] at hv
  · simp [Value.ownBlock] at hv
    subst hv
    exact ⟨cur, hg⟩
/-- the blocks of S hold rows of cells of none of the types of T -/
def Apart (W : World) (S : Nat → Prop) (T : List TypeId) : Prop := ∀ b, S b → ∃ t cs, Blk W b t cs ∧ t ∉ T
theorem Apart.none {W : World} {T : List TypeId} : Apart W Nothing T := fun _ h => h.elim
theorem Apart.one {W : World} {T : List TypeId} {b t : Nat} {cs : Array Value} (h : Blk W b t cs) (ht : t ∉ T) : Apart W (fun q => q = b) T := fun q e => by subst e; exact ⟨t, cs, h, ht⟩
theorem Apart.row {W : World} {T : List TypeId} {base e sz n : Nat} {v : Value} {xs : List Value} (h : W.ownsRow base e sz v n xs) (ht : e ∉ T) : Apart W (fun q => v.ownBlock = some q) T := fun q hq => by
  obtain ⟨cs, hb⟩ := own_blk h hq
  exact ⟨e, cs, hb, ht⟩
theorem Apart.or {W : World} {T : List TypeId} {S S' : Nat → Prop} (h : Apart W S T) (h' : Apart W S' T) : Apart W (fun q => S q ∨ S' q) T := fun q e => e.elim (h q) (h' q)
theorem Apart.less {W : World} {T T' : List TypeId} {S : Nat → Prop} (h : Apart W S T) (hT : ∀ t ∈ T', t ∈ T) : Apart W S T' := fun q e => by
  obtain ⟨t, cs, hb, ht⟩ := h q e
  exact ⟨t, cs, hb, fun hm => ht (hT t hm)⟩
theorem own_apart {S : Nat → Prop} {w w' : World} {base e sz n : Nat} {v : Value} {xs : List Value} (h : w.ownsRow base e sz v n xs) (hx : Ext S w w') (hS : Apart w S [e]) : w'.ownsRow base e sz v n xs :=
  own_ext h hx fun g hg hs => by
    obtain ⟨t, cs, hb, ht⟩ := hS g hs
    exact own_ne h hb (fun e' => ht (by simp [e'])) hg
theorem blk_apart {S : Nat → Prop} {w w' : World} {g t : Nat} {cs : Array Value} (h : Blk w g t cs) (hx : Ext S w w') (hS : Apart w S [t]) : Blk w' g t cs :=
  h.ext hx fun hs => by
    obtain ⟨t', cs', hb, ht⟩ := hS g hs
    exact Blk.ne h hb (fun e => ht (by simp [e])) rfl

def GrpOk (base : Nat) (W : World) (y : JobV) : Prop := ∃ A n c, y.2 = .slice A n c ∧ W.ownsRow base 88 3 (.slice A n c) n (y.1.groups.flatMap GroupD.cells) ∧ n = y.1.groups.length ∧ n ≤ 1048576
theorem GrpOk.keep {S : Nat → Prop} {base : Nat} {W W' : World} {y : JobV} (h : GrpOk base W y) (hx : Ext S W W') (hS : Apart W S [88]) : GrpOk base W' y := by
  obtain ⟨A, n, c, h1, h2, h3, h4⟩ := h
  exact ⟨A, n, c, h1, own_apart h2 hx hS, h3, h4⟩
structure JobsI (base : Nat) (W : World) (v : Value) (ys : List JobV) : Prop where
  own : W.ownsRow base 43 7 v ys.length (ys.flatMap JobV.cells)
  grp : ∀ y ∈ ys, GrpOk base W y
theorem JobsI.keep {S : Nat → Prop} {base : Nat} {W W' : World} {v : Value} {ys : List JobV} (h : JobsI base W v ys) (hx : Ext S W W') (hS : Apart W S [43, 88]) : JobsI base W' v ys :=
  ⟨own_apart h.own hx (hS.less (by simp)), fun y hy => (h.grp y hy).keep hx (hS.less (by simp))⟩
theorem JobsI.push {base : Nat} {W W' : World} {v v' : Value} {ys : List JobV} {y : JobV} (h : JobsI base W v ys) (hy : GrpOk base W y) (ho : W'.ownsRow base 43 7 v' (ys.length + 1) (ys.flatMap JobV.cells ++ JobV.cells y)) (hg : W.grownBy W' v.ownBlock) : JobsI base W' v' (ys ++ [y]) := by
  have hx : Ext (fun q => v.ownBlock = some q) W W' := Ext.of_grown hg (fun _ e => e)
  refine ⟨by simpa using ho, fun z hz => ?_⟩
  have hz' : GrpOk base W z := by
    rcases List.mem_append.1 hz with hz | hz
    · exact h.grp z hz
    · rw [List.mem_singleton] at hz; subst hz; exact hy
  exact hz'.keep hx (Apart.row h.own (by decide))
theorem JobsI.base {b b' : Nat} {W : World} {v : Value} {ys : List JobV} (h : JobsI b W v ys) (hb : b' ≤ b) : JobsI b' W v ys :=
  ⟨own_base h.own hb, fun y hy => by obtain ⟨A, n, c, h1, h2, h3, h4⟩ := h.grp y hy; exact ⟨A, n, c, h1, own_base h2 hb, h3, h4⟩⟩
theorem JobsI.keepR {S : Nat → Prop} {base B : Nat} {W W' : World} {v : Value} {ys : List JobV} (h : JobsI base W v ys) (hlt : ∀ q, v.ownBlock = some q → q < B) (hx : Ext S W W') (hB : ∀ q, S q → B ≤ q) (hS : Apart W S [88]) : JobsI base W' v ys :=
  ⟨own_ext h.own hx fun g hg hs => by have := hlt g hg; have := hB g hs; omega, fun y hy => (h.grp y hy).keep hx hS⟩
structure CopyI (w : World) (s : StoreV) (W : World) (cs : Array Value) : Prop where
  ext : Ext Nothing w W
  src : Blk W w.heap.size 29 #[.int .i64 s.index, .int .i64 s.next, .slice s.AJ s.nJ s.cJ, .slice s.AS s.nS s.cS, .slice s.AN s.nN s.cN, .slice s.AA s.nA s.cA, .slice s.AE s.nE s.cE, .slice s.AD s.nD s.cD, .slice s.AX s.nX s.cX]
  res : Blk W (w.heap.size + 1) 29 #[.int .i64 0, .int .i64 0, .slice none 0 0, .slice none 0 0, .slice none 0 0, .slice none 0 0, .slice none 0 0, .slice none 0 0, .slice none 0 0]
  out : Blk W (w.heap.size + 1 + 1) 29 cs
theorem CopyI.keep {S : Nat → Prop} {w : World} {s : StoreV} {W W' : World} {cs : Array Value} (h : CopyI w s W cs) (hx : Ext S W W') (hS : Apart W S [29]) (h0 : ∀ b, S b → w.heap.size ≤ b) : CopyI w s W' cs :=
  ⟨h.ext.trans hx (fun b hb e => by have := h0 b e; omega), blk_apart h.src hx hS, blk_apart h.res hx hS, blk_apart h.out hx hS⟩
theorem CopyI.keep0 {w : World} {s : StoreV} {W W' : World} {cs : Array Value} (h : CopyI w s W cs) (hx : Ext Nothing W W') : CopyI w s W' cs := h.keep hx Apart.none (fun _ e => e.elim)
theorem CopyI.grown {w : World} {s : StoreV} {W W' : World} {cs : Array Value} {e sz n : Nat} {v : Value} {xs : List Value} (h : CopyI w s W cs) (ho : W.ownsRow w.heap.size e sz v n xs) (he : e ≠ 29) (hg : W.grownBy W' v.ownBlock) : CopyI w s W' cs :=
  h.keep (Ext.of_grown (S := fun q => v.ownBlock = some q) hg (fun _ e => e)) (Apart.row ho (by simpa using he)) (fun b hb => own_ge ho hb)
theorem CopyI.put {w : World} {s : StoreV} {W : World} {cs : Array Value} (h : CopyI w s W cs) (i : Nat) (u : Value) : CopyI w s (W.setCell ⟨w.heap.size + 1 + 1, i, none⟩ u) (cs.setIfInBounds i u) := by
  have hx : Ext (fun q => q = w.heap.size + 1 + 1) W (W.setCell ⟨w.heap.size + 1 + 1, i, none⟩ u) := Ext.set1 _ _ _ _
  exact ⟨h.ext.trans hx (fun b hb e => by omega), h.src.ext hx (by omega), h.res.ext hx (by omega), h.out.set_ i u⟩
def AnsOk (base : Nat) (W : World) (y : SeenV) : Prop := ∃ A n c, y.2 = .slice A n c ∧ W.ownsRow base 55 11 (.slice A n c) n (y.1.answer.allocs.flatMap AllocD.cells) ∧ n = y.1.answer.allocs.length ∧ n ≤ 1048576
theorem AnsOk.keep {S : Nat → Prop} {base : Nat} {W W' : World} {y : SeenV} (h : AnsOk base W y) (hx : Ext S W W') (hS : Apart W S [55]) : AnsOk base W' y := by
  obtain ⟨A, n, c, h1, h2, h3, h4⟩ := h
  exact ⟨A, n, c, h1, own_apart h2 hx hS, h3, h4⟩
structure SeenI (base : Nat) (W : World) (v : Value) (ys : List SeenV) : Prop where
  own : W.ownsRow base 49 5 v ys.length (ys.flatMap SeenV.cells)
  ans : ∀ y ∈ ys, AnsOk base W y
theorem SeenI.keep {S : Nat → Prop} {base : Nat} {W W' : World} {v : Value} {ys : List SeenV} (h : SeenI base W v ys) (hx : Ext S W W') (hS : Apart W S [49, 55]) : SeenI base W' v ys :=
  ⟨own_apart h.own hx (hS.less (by simp)), fun y hy => (h.ans y hy).keep hx (hS.less (by simp))⟩
theorem SeenI.push {base : Nat} {W W' : World} {v v' : Value} {ys : List SeenV} {y : SeenV} (h : SeenI base W v ys) (hy : AnsOk base W y) (ho : W'.ownsRow base 49 5 v' (ys.length + 1) (ys.flatMap SeenV.cells ++ SeenV.cells y)) (hg : W.grownBy W' v.ownBlock) : SeenI base W' v' (ys ++ [y]) := by
  have hx : Ext (fun q => v.ownBlock = some q) W W' := Ext.of_grown hg (fun _ e => e)
  refine ⟨by simpa using ho, fun z hz => ?_⟩
  have hz' : AnsOk base W z := by
    rcases List.mem_append.1 hz with hz | hz
    · exact h.ans z hz
    · rw [List.mem_singleton] at hz; subst hz; exact hy
  exact hz'.keep hx (Apart.row h.own (by decide))
structure CopyS (w : World) (s : StoreV) (W : World) (vJ vS vN vA vE vD vX : Value) (ys zs : List JobV) (ns : List NodD) (as_ : List AllocD) (es : List EvalD) (ds : List DepD) (xs : List SeenV) : Prop where
  i : CopyI w s W #[.int .i64 s.index, .int .i64 s.next, vJ, vS, vN, vA, vE, vD, vX]
  j : JobsI w.heap.size W vJ ys
  t : JobsI w.heap.size W vS zs
  n : W.ownsRow w.heap.size 37 8 vN ns.length (ns.flatMap NodD.cells)
  a : W.ownsRow w.heap.size 55 11 vA as_.length (as_.flatMap AllocD.cells)
  e : W.ownsRow w.heap.size 39 4 vE es.length (es.flatMap EvalD.cells)
  d : W.ownsRow w.heap.size 69 4 vD ds.length (ds.flatMap DepD.cells)
  x : SeenI w.heap.size W vX xs
section
variable {w : World} {s : StoreV} {W W' : World} {vJ vS vN vA vE vD vX v' : Value} {ys zs : List JobV} {ns : List NodD} {as_ : List AllocD} {es : List EvalD} {ds : List DepD} {xs : List SeenV}
theorem CopyS.keep {S : Nat → Prop} (C : CopyS w s W vJ vS vN vA vE vD vX ys zs ns as_ es ds xs) (hx : Ext S W W') (hS : Apart W S [29, 43, 88, 37, 55, 39, 69, 49]) (h0 : ∀ b, S b → w.heap.size ≤ b) : CopyS w s W' vJ vS vN vA vE vD vX ys zs ns as_ es ds xs :=
  ⟨C.i.keep hx (hS.less (by decide)) h0, C.j.keep hx (hS.less (by decide)), C.t.keep hx (hS.less (by decide)), own_apart C.n hx (hS.less (by decide)), own_apart C.a hx (hS.less (by decide)), own_apart C.e hx (hS.less (by decide)), own_apart C.d hx (hS.less (by decide)), C.x.keep hx (hS.less (by decide))⟩
theorem CopyS.keep0 (C : CopyS w s W vJ vS vN vA vE vD vX ys zs ns as_ es ds xs) (hx : Ext Nothing W W') : CopyS w s W' vJ vS vN vA vE vD vX ys zs ns as_ es ds xs := C.keep hx Apart.none (fun _ e => e.elim)
theorem CopyS.setN (C : CopyS w s W vJ vS (.slice none 0 0) vA vE vD vX ys zs [] as_ es ds xs) {m : List NodD} (o : W'.ownsRow w.heap.size 37 8 v' m.length (m.flatMap NodD.cells)) (g : W.grownBy W' (Value.slice none 0 0).ownBlock) : CopyS w s (W'.setCell ⟨w.heap.size + 1 + 1, 4, none⟩ v') vJ vS v' vA vE vD vX ys zs m as_ es ds xs := by
  have hx : Ext Nothing W W' := Ext.of_grown g (fun b e => by simp [Value.ownBlock] at e)
  have C1 := C.keep0 hx
  have hp : Ext (fun q => q = w.heap.size + 1 + 1) W' (W'.setCell ⟨w.heap.size + 1 + 1, 4, none⟩ v') := Ext.set1 _ _ _ _
  exact ⟨C1.i.put 4 v', C1.j.keep hp (Apart.one C1.i.out (by decide)), C1.t.keep hp (Apart.one C1.i.out (by decide)), own_apart o hp (Apart.one C1.i.out (by decide)), own_apart C1.a hp (Apart.one C1.i.out (by decide)), own_apart C1.e hp (Apart.one C1.i.out (by decide)), own_apart C1.d hp (Apart.one C1.i.out (by decide)), C1.x.keep hp (Apart.one C1.i.out (by decide))⟩
theorem CopyS.setA (C : CopyS w s W vJ vS vN (.slice none 0 0) vE vD vX ys zs ns [] es ds xs) {m : List AllocD} (o : W'.ownsRow w.heap.size 55 11 v' m.length (m.flatMap AllocD.cells)) (g : W.grownBy W' (Value.slice none 0 0).ownBlock) : CopyS w s (W'.setCell ⟨w.heap.size + 1 + 1, 5, none⟩ v') vJ vS vN v' vE vD vX ys zs ns m es ds xs := by
  have hx : Ext Nothing W W' := Ext.of_grown g (fun b e => by simp [Value.ownBlock] at e)
  have C1 := C.keep0 hx
  have hp : Ext (fun q => q = w.heap.size + 1 + 1) W' (W'.setCell ⟨w.heap.size + 1 + 1, 5, none⟩ v') := Ext.set1 _ _ _ _
  exact ⟨C1.i.put 5 v', C1.j.keep hp (Apart.one C1.i.out (by decide)), C1.t.keep hp (Apart.one C1.i.out (by decide)), own_apart C1.n hp (Apart.one C1.i.out (by decide)), own_apart o hp (Apart.one C1.i.out (by decide)), own_apart C1.e hp (Apart.one C1.i.out (by decide)), own_apart C1.d hp (Apart.one C1.i.out (by decide)), C1.x.keep hp (Apart.one C1.i.out (by decide))⟩
theorem CopyS.setE (C : CopyS w s W vJ vS vN vA (.slice none 0 0) vD vX ys zs ns as_ [] ds xs) {m : List EvalD} (o : W'.ownsRow w.heap.size 39 4 v' m.length (m.flatMap EvalD.cells)) (g : W.grownBy W' (Value.slice none 0 0).ownBlock) : CopyS w s (W'.setCell ⟨w.heap.size + 1 + 1, 6, none⟩ v') vJ vS vN vA v' vD vX ys zs ns as_ m ds xs := by
  have hx : Ext Nothing W W' := Ext.of_grown g (fun b e => by simp [Value.ownBlock] at e)
  have C1 := C.keep0 hx
  have hp : Ext (fun q => q = w.heap.size + 1 + 1) W' (W'.setCell ⟨w.heap.size + 1 + 1, 6, none⟩ v') := Ext.set1 _ _ _ _
  exact ⟨C1.i.put 6 v', C1.j.keep hp (Apart.one C1.i.out (by decide)), C1.t.keep hp (Apart.one C1.i.out (by decide)), own_apart C1.n hp (Apart.one C1.i.out (by decide)), own_apart C1.a hp (Apart.one C1.i.out (by decide)), own_apart o hp (Apart.one C1.i.out (by decide)), own_apart C1.d hp (Apart.one C1.i.out (by decide)), C1.x.keep hp (Apart.one C1.i.out (by decide))⟩
theorem CopyS.setD (C : CopyS w s W vJ vS vN vA vE (.slice none 0 0) vX ys zs ns as_ es [] xs) {m : List DepD} (o : W'.ownsRow w.heap.size 69 4 v' m.length (m.flatMap DepD.cells)) (g : W.grownBy W' (Value.slice none 0 0).ownBlock) : CopyS w s (W'.setCell ⟨w.heap.size + 1 + 1, 7, none⟩ v') vJ vS vN vA vE v' vX ys zs ns as_ es m xs := by
  have hx : Ext Nothing W W' := Ext.of_grown g (fun b e => by simp [Value.ownBlock] at e)
  have C1 := C.keep0 hx
  have hp : Ext (fun q => q = w.heap.size + 1 + 1) W' (W'.setCell ⟨w.heap.size + 1 + 1, 7, none⟩ v') := Ext.set1 _ _ _ _
  exact ⟨C1.i.put 7 v', C1.j.keep hp (Apart.one C1.i.out (by decide)), C1.t.keep hp (Apart.one C1.i.out (by decide)), own_apart C1.n hp (Apart.one C1.i.out (by decide)), own_apart C1.a hp (Apart.one C1.i.out (by decide)), own_apart C1.e hp (Apart.one C1.i.out (by decide)), own_apart o hp (Apart.one C1.i.out (by decide)), C1.x.keep hp (Apart.one C1.i.out (by decide))⟩
theorem CopyS.pushX {y : SeenV} (C : CopyS w s W vJ vS vN vA vE vD vX ys zs ns as_ es ds xs) (hy : AnsOk w.heap.size W y) (o : W'.ownsRow w.heap.size 49 5 v' (xs.length + 1) (xs.flatMap SeenV.cells ++ SeenV.cells y)) (g : W.grownBy W' vX.ownBlock) : CopyS w s (W'.setCell ⟨w.heap.size + 1 + 1, 8, none⟩ v') vJ vS vN vA vE vD v' ys zs ns as_ es ds (xs ++ [y]) := by
  have hx : Ext (fun q => vX.ownBlock = some q) W W' := Ext.of_grown g (fun _ e => e)
  have ap : ∀ {T : List TypeId}, 49 ∉ T → Apart W (fun q => vX.ownBlock = some q) T := fun h => Apart.row C.x.own h
  have hp : Ext (fun q => q = w.heap.size + 1 + 1) W' (W'.setCell ⟨w.heap.size + 1 + 1, 8, none⟩ v') := Ext.set1 _ _ _ _
  have i1 := C.i.keep hx (ap (by decide)) (fun b e => own_ge C.x.own e)
  have ap1 : ∀ {T : List TypeId}, 29 ∉ T → Apart W' (fun q => q = w.heap.size + 1 + 1) T := fun h => Apart.one i1.out h
  exact ⟨i1.put 8 v', (C.j.keep hx (ap (by decide))).keep hp (ap1 (by decide)), (C.t.keep hx (ap (by decide))).keep hp (ap1 (by decide)), own_apart (own_apart C.n hx (ap (by decide))) hp (ap1 (by decide)), own_apart (own_apart C.a hx (ap (by decide))) hp (ap1 (by decide)), own_apart (own_apart C.e hx (ap (by decide))) hp (ap1 (by decide)), own_apart (own_apart C.d hx (ap (by decide))) hp (ap1 (by decide)), (C.x.push hy o g).keep hp (ap1 (by decide))⟩
end
structure Copied (base : Nat) (W : World) (s s' : StoreV) : Prop where
  index : s'.index = s.index
  next : s'.next = s.next
  j : JobsI base W (.slice s'.AJ s'.nJ s'.cJ) s'.jobs
  jl : s'.nJ = s'.jobs.length
  jm : s'.jobs.map (·.1) = s.jobs.map (·.1)
  t : JobsI base W (.slice s'.AS s'.nS s'.cS) s'.stable
  tl : s'.nS = s'.stable.length
  tm : s'.stable.map (·.1) = s.stable.map (·.1)
  n : W.ownsRow base 37 8 (.slice s'.AN s'.nN s'.cN) s'.nodes.length (s'.nodes.flatMap NodD.cells)
  nl : s'.nN = s'.nodes.length
  nm : s'.nodes = s.nodes
  a : W.ownsRow base 55 11 (.slice s'.AA s'.nA s'.cA) s'.allocs.length (s'.allocs.flatMap AllocD.cells)
  al : s'.nA = s'.allocs.length
  am : s'.allocs = s.allocs
  e : W.ownsRow base 39 4 (.slice s'.AE s'.nE s'.cE) s'.evals.length (s'.evals.flatMap EvalD.cells)
  el : s'.nE = s'.evals.length
  em : s'.evals = s.evals
  d : W.ownsRow base 69 4 (.slice s'.AD s'.nD s'.cD) s'.deploys.length (s'.deploys.flatMap DepD.cells)
  dl : s'.nD = s'.deploys.length
  dm : s'.deploys = s.deploys
  x : SeenI base W (.slice s'.AX s'.nX s'.cX) s'.seen
  xl : s'.nX = s'.seen.length
  xm : s'.seen.map (·.1) = s.seen.map (·.1)
theorem mem_map_fst {α β : Type} {l l' : List (α × β)} (h : l'.map (·.1) = l.map (·.1)) {y : α × β} (hy : y ∈ l') : ∃ x ∈ l, x.1 = y.1 := by
  have : y.1 ∈ l'.map (·.1) := List.mem_map_of_mem hy
  rw [h] at this
  obtain ⟨x, hx, e⟩ := List.mem_map.1 this
  exact ⟨x, hx, e⟩
theorem jobs_ok {base : Nat} {w W : World} {v : Value} {ys l : List JobV} (h : JobsI base W v ys) (hm : ys.map (·.1) = l.map (·.1)) (hl : ∀ x ∈ l, JobV.ok w x) : ∀ y ∈ ys, JobV.ok W y := fun y hy => by
  obtain ⟨x, hx, e⟩ := mem_map_fst hm hy
  obtain ⟨h0, _, _, _, _, _, hg, _⟩ := hl x hx
  obtain ⟨A, n, c, h1, h2, h3, h4⟩ := h.grp y hy
  exact ⟨e ▸ h0, A, n, c, h1, Sl.of_own (fun _ => rfl) h2 h3, e ▸ hg, h4⟩
theorem seen_ok {base : Nat} {w W : World} {v : Value} {ys l : List SeenV} (h : SeenI base W v ys) (hm : ys.map (·.1) = l.map (·.1)) (hl : ∀ x ∈ l, SeenV.ok w x) : ∀ y ∈ ys, SeenV.ok W y := fun y hy => by
  obtain ⟨x, hx, e⟩ := mem_map_fst hm hy
  obtain ⟨h0, _, _, _, _, _, hg, _⟩ := hl x hx
  obtain ⟨A, n, c, h1, h2, h3, h4⟩ := h.ans y hy
  exact ⟨e ▸ h0, A, n, c, h1, Sl.of_own (fun _ => rfl) h2 h3, e ▸ hg, h4⟩
theorem Copied.ok {base : Nat} {w W : World} {s s' : StoreV} (C : Copied base W s s') (h : s.Ok w) : s'.Ok W := by
  have e1 : s'.jobs.length = s.jobs.length := by have := congrArg List.length C.jm; simpa using this
  have e2 : s'.stable.length = s.stable.length := by have := congrArg List.length C.tm; simpa using this
  have e3 : s'.seen.length = s.seen.length := by have := congrArg List.length C.xm; simpa using this
  have l1 := h.sJ.len
  have l2 := h.sS.len
  have l3 := h.sX.len
  have l4 := h.sN.len
  have l5 := h.sA.len
  have l6 := h.sE.len
  have l7 := h.sD.len
  have m1 := h.mJ
  have m2 := h.mS
  have m3 := h.mX
  have m4 := h.mN
  have m5 := h.mA
  have m6 := h.mE
  have m7 := h.mD
  refine ⟨Sl.of_own (fun _ => rfl) (by rw [C.jl]; exact C.jl ▸ C.j.own) C.jl, jobs_ok C.j C.jm h.kJ, by rw [C.jl]; omega, Sl.of_own (fun _ => rfl) (by rw [C.tl]; exact C.tl ▸ C.t.own) C.tl, jobs_ok C.t C.tm h.kS, by rw [C.tl]; omega,
    Sl.of_own (fun _ => rfl) (by rw [C.nl]; exact C.nl ▸ C.n) C.nl, C.nm ▸ h.kN, by rw [C.nl, C.nm]; omega, Sl.of_own (fun _ => rfl) (by rw [C.al]; exact C.al ▸ C.a) C.al, C.am ▸ h.kA, by rw [C.al, C.am]; omega,
    Sl.of_own (fun _ => rfl) (by rw [C.el]; exact C.el ▸ C.e) C.el, C.em ▸ h.kE, by rw [C.el, C.em]; omega, Sl.of_own (fun _ => rfl) (by rw [C.dl]; exact C.dl ▸ C.d) C.dl, C.dm ▸ h.kD, by rw [C.dl, C.dm]; omega,
    Sl.of_own (fun _ => rfl) (by rw [C.xl]; exact C.xl ▸ C.x.own) C.xl, seen_ok C.x C.xm h.kX, by rw [C.xl]; omega⟩
end Go.Proofs.YtfmkoemogicdkaaGreat
