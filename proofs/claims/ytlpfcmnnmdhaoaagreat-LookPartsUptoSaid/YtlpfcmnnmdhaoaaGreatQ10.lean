/- Parts of the proof: RefO RefE RefC RefP -/
import Derived.Test.YtlpfcmnnmdhaoaaGreatQ08
import Derived.Test.YtlpfcmnnmdhaoaaGreatQ05
import Derived.Deep.CutRange
namespace Go.Proofs.YtlpfcmnnmdhaoaaGreat
set_option linter.unusedVariables false
set_option linter.unusedSimpArgs false
set_option linter.unusedSectionVars false
section
open Go.RowKit
theorem flat_set {α : Type} {f : α → List Value} {sz : Nat} (hf : ∀ x, (f x).length = sz) {x x' : α} {j : Nat} {u : Value} (hj : j < sz) (hx : f x' = (f x).set j u) : ∀ {xs : List α} {i : Nat}, xs[i]? = some x → (xs.set i x').flatMap f = (xs.flatMap f).set (i * sz + j) u
 | [], i, h => by simp at h
 | y :: r, 0, h => by
  simp at h; subst h
  rw [List.set_cons_zero, List.flatMap_cons, List.flatMap_cons, Nat.zero_mul, Nat.zero_add, List.set_append_left _ _ (by rw [hf]; exact hj), hx]
 | y :: r, i + 1, h => by
  rw [List.set_cons_succ, List.flatMap_cons, List.flatMap_cons, flat_set hf hj hx (xs := r) (i := i) (by simpa using h), List.set_append_right _ _ (by rw [hf, Nat.add_mul]; omega), hf, show (i + 1) * sz + j - sz = i * sz + j from by rw [Nat.add_mul]; omega]
theorem own_set {α : Type} {f : α → List Value} {w : World} {base e sz n g c : Nat} {A : Option Addr} {xs : List α} (hf : ∀ x, (f x).length = sz) (h : w.ownsRow base e sz (.slice A n c) n (xs.flatMap f)) (hn : n = xs.length) {i : Nat} {x x' : α} {j : Nat} {u : Value} (hi : xs[i]? = some x) (hj : j < sz) (hx : f x' = (f x).set j u) (hA : A = some ⟨g, 0, none⟩) :
  (w.setCell ⟨g, i * sz + j, none⟩ u).ownsRow base e sz (.slice A n c) n ((xs.set i x').flatMap f) := by
 have hfl := flat_set hf hj hx hi
 refine ⟨by rw [hfl, List.length_set]; exact h.1, ?_⟩
 rcases h.2 with ⟨h1, h2⟩ | ⟨g', cap, cur, hv, hb, hg, h1, h2, h3, h4⟩
 ·subst hA; cases h1
 ·injection hv with hA' _ hc
  subst hA
  injection hA' with hA'
  injection hA' with hA'
  subst hA'
  subst hc
  refine .inr ⟨g, c, cur.setIfInBounds (i * sz + j) u, rfl, hb, Blk.set_ hg _ _, h1, h2, by simpa using h3, ?_⟩
  rw [hfl, ← h4, Array.toList_setIfInBounds]
  rw [List.take_set]
  try rfl
theorem own_at {α : Type} {f : α → List Value} {w : World} {base e sz n c : Nat} {A : Option Addr} {xs : List α} (h : w.ownsRow base e sz (.slice A n c) n (xs.flatMap f)) (hn : n = xs.length) {i : Nat} (hi : i < xs.length) : ∃ g cur, A = some ⟨g, 0, none⟩ ∧ (Value.slice A n c).ownBlock = some g ∧ Blk w g e cur := by
 rcases h.2 with ⟨h1, h2⟩ | ⟨g', cap, cur, hv, hb, hg, _⟩
 ·omega
 ·injection hv with hA _ _
  exact ⟨g', cur, hA, by rw [hA]; rfl, hg⟩
theorem own_snoc {α : Type} {f : α → List Value} {w : World} {base e sz n c : Nat} {A : Option Addr} {xs : List α} {x : α} {cs : List Value} (h : w.ownsRow base e sz (.slice A (n + 1) c) (n + 1) (xs.flatMap f ++ cs)) (hcs : cs = f x) (hn : xs.length = n) :
  w.ownsRow base e sz (.slice A (xs ++ [x]).length c) (xs ++ [x]).length ((xs ++ [x]).flatMap f) := by
 rw [show (xs ++ [x]).length = n + 1 from by simp [hn], List.flatMap_append, List.flatMap_singleton, ← hcs]; exact h
theorem own_snoc2 {α : Type} {f : α → List Value} {w : World} {base e sz n c : Nat} {A : Option Addr} {xs : List α} {x y : α} {cs ds : List Value} (h : w.ownsRow base e sz (.slice A (n + 1 + 1) c) (n + 1 + 1) (xs.flatMap f ++ cs ++ ds)) (hcs : cs = f x) (hds : ds = f y) (hn : xs.length = n) :
  w.ownsRow base e sz (.slice A (xs ++ [x] ++ [y]).length c) (xs ++ [x] ++ [y]).length ((xs ++ [x] ++ [y]).flatMap f) := by
 rw [show (xs ++ [x] ++ [y]).length = n + 1 + 1 from by simp [hn], List.flatMap_append, List.flatMap_append, List.flatMap_singleton, List.flatMap_singleton, ← hcs, ← hds]; exact h
section
variable {P : Program} {w : World} {ops : Array Oper} {rest : List Oper} {o1 o2 : Oper} {a : Act} {Q : Exit → Act → World → Prop}
theorem isW {o : Oper} (h : wpList P ops Q (o :: rest) a w) : wpList P ops Q (o :: rest) a w := h
theorem isW2 (h : wpList P ops Q (o1 :: o2 :: rest) a w) : wpList P ops Q (o1 :: o2 :: rest) a w := h
theorem wpList_push (hg1 : o1.guard = none) (hg2 : o2.guard = none) (t : TypeId) (x : Operand) (ho1 : o1.op = .buildSlice t 1 #[(0, x)]) (s y : Operand) (ho2 : o2.op = .call { callee := .builtin .append, args := #[s, y], argTypes := #[t, t] })
  {e sz : Nat} (E : SliceT P t e sz) (cs : Array Value) (hx : (a.eval x).cells = cs) (hv : cs.size = sz) (base : Nat) (v : Value) (n : Nat) (xs : List Value)
  (hs : (a.put o1.dst (.slice (some ⟨w.heap.size, 0, none⟩) 1 1)).eval s = v) (hy : (a.put o1.dst (.slice (some ⟨w.heap.size, 0, none⟩) 1 1)).eval y = .slice (some ⟨w.heap.size, 0, none⟩) 1 1)
  (hown : w.ownsRow base e sz v n xs) (h1 : cs.toList.all Value.oneCell' = true) (hn : n < 67108864) (hbase : base ≤ w.heap.size)
  (h : ∀ A' c' w', w'.ownsRow base e sz (.slice A' (n + 1) c') (n + 1) (xs ++ cs.toList) → Ext (fun q => v.ownBlock = some q) w w' → wpList P ops Q rest ((a.put o1.dst (.slice (some ⟨w.heap.size, 0, none⟩) 1 1)).put o2.dst (.slice A' (n + 1) c')) w') :
  wpList P ops Q (o1 :: o2 :: rest) a w := by
 have hx0 : Ext Nothing w (w.alloc (.cells cs e)) := (Ext.refl _ _).alloc _
 refine wpList_slice1 hg1 t x ho1 E cs hx hv ?_
 refine wpList_app1 hg2 s y t ho2 base E v n xs hs (own_ext hown hx0 (fun _ _ e => e)) w.heap.size 1 cs hy (Blk.new _ _ _) hv h1 hn (by have := hx0.size; omega) ?_
 intro A' c' w' o g
 exact h A' c' w' o (((Ext.refl (fun q => v.ownBlock = some q) w).alloc _).grown g (fun q e => .inr e))
end
def StoreV.setE (s : StoreV) (A : Option Addr) (c : Nat) (l : List EvalD) : StoreV := { s with AE := A, nE := l.length, cE := c, evals := l }
def StoreV.setD (s : StoreV) (A : Option Addr) (c : Nat) (l : List DepD) : StoreV := { s with AD := A, nD := l.length, cD := c, deploys := l }
def StoreV.setA (s : StoreV) (A : Option Addr) (c : Nat) (l : List AllocD) : StoreV := { s with AA := A, nA := l.length, cA := c, allocs := l }
def StoreV.setN (s : StoreV) (A : Option Addr) (c : Nat) (l : List NodD) : StoreV := { s with AN := A, nN := l.length, cN := c, nodes := l }
def StoreV.setX (s : StoreV) (A : Option Addr) (c : Nat) (l : List SeenV) : StoreV := { s with AX := A, nX := l.length, cX := c, seen := l }
def StoreV.setJ (s : StoreV) (A : Option Addr) (c : Nat) (l : List JobV) : StoreV := { s with AJ := A, nJ := l.length, cJ := c, jobs := l }
def StoreV.setT (s : StoreV) (A : Option Addr) (c : Nat) (l : List JobV) : StoreV := { s with AS := A, nS := l.length, cS := c, stable := l }
def StoreV.data (s : StoreV) : StoreD := ⟨s.index, s.next, s.jobs.map (·.1), s.stable.map (·.1), s.nodes, s.allocs, s.evals, s.deploys, s.seen.map (·.1)⟩
abbrev rowTypes : List TypeId := [39, 116, 43, 58, 76, 97, 67]
def vJ (s : StoreV) : Value := .slice s.AJ s.nJ s.cJ
def vS (s : StoreV) : Value := .slice s.AS s.nS s.cS
def vN (s : StoreV) : Value := .slice s.AN s.nN s.cN
def vA (s : StoreV) : Value := .slice s.AA s.nA s.cA
def vE (s : StoreV) : Value := .slice s.AE s.nE s.cE
def vD (s : StoreV) : Value := .slice s.AD s.nD s.cD
def vX (s : StoreV) : Value := .slice s.AX s.nX s.cX
abbrev StoreV.arr (s : StoreV) : Array Value := #[.int .i64 s.index, .int .i64 s.next, .slice s.AJ s.nJ s.cJ, .slice s.AS s.nS s.cS, .slice s.AN s.nN s.cN, .slice s.AA s.nA s.cA, .slice s.AE s.nE s.cE, .slice s.AD s.nD s.cD, .slice s.AX s.nX s.cX]
structure OwnS (base : Nat) (W : World) (s : StoreV) : Prop where
 j : JobsI base W (.slice s.AJ s.nJ s.cJ) s.jobs
 jl : s.nJ = s.jobs.length
 t : JobsI base W (.slice s.AS s.nS s.cS) s.stable
 tl : s.nS = s.stable.length
 n : W.ownsRow base 43 8 (.slice s.AN s.nN s.cN) s.nodes.length (s.nodes.flatMap NodD.cells)
 nl : s.nN = s.nodes.length
 a : W.ownsRow base 58 11 (.slice s.AA s.nA s.cA) s.allocs.length (s.allocs.flatMap AllocD.cells)
 al : s.nA = s.allocs.length
 e : W.ownsRow base 76 4 (.slice s.AE s.nE s.cE) s.evals.length (s.evals.flatMap EvalD.cells)
 el : s.nE = s.evals.length
 d : W.ownsRow base 97 4 (.slice s.AD s.nD s.cD) s.deploys.length (s.deploys.flatMap DepD.cells)
 dl : s.nD = s.deploys.length
 x : W.ownsRow base 67 5 (.slice s.AX s.nX s.cX) s.seen.length (s.seen.flatMap SeenV.cells)
 xl : s.nX = s.seen.length
 xa : ∀ y ∈ s.seen, ∃ A c, y.2 = .slice A 0 c ∧ y.1.answer.allocs = []
 sep : ∀ q, (Value.slice s.AJ s.nJ s.cJ).ownBlock = some q → (Value.slice s.AS s.nS s.cS).ownBlock ≠ some q
section
variable {base : Nat} {W W' : World} {s : StoreV} {S : Nat → Prop}
theorem OwnS.keep (h : OwnS base W s) (hx : Ext S W W') (hS : Apart W S rowTypes) : OwnS base W' s :=
 ⟨h.j.keep hx (hS.less (by decide)), h.jl, h.t.keep hx (hS.less (by decide)), h.tl, own_apart h.n hx (hS.less (by decide)), h.nl, own_apart h.a hx (hS.less (by decide)), h.al,
  own_apart h.e hx (hS.less (by decide)), h.el, own_apart h.d hx (hS.less (by decide)), h.dl, own_apart h.x hx (hS.less (by decide)), h.xl, h.xa, h.sep⟩
theorem OwnS.keep0 (h : OwnS base W s) (hx : Ext Nothing W W') : OwnS base W' s := h.keep hx Apart.none
theorem OwnS.index (h : OwnS base W s) (i : Int) : OwnS base W { s with index := i } := ⟨h.j, h.jl, h.t, h.tl, h.n, h.nl, h.a, h.al, h.e, h.el, h.d, h.dl, h.x, h.xl, h.xa, h.sep⟩
theorem OwnS.next (h : OwnS base W s) (i : Int) : OwnS base W { s with next := i } := ⟨h.j, h.jl, h.t, h.tl, h.n, h.nl, h.a, h.al, h.e, h.el, h.d, h.dl, h.x, h.xl, h.xa, h.sep⟩
theorem OwnS.wE (h : OwnS base W s) (hx : Ext S W W') (hS : Apart W S [39, 116, 43, 58, 97, 67]) {A : Option Addr} {c : Nat} {l : List EvalD} (o : W'.ownsRow base 76 4 (.slice A l.length c) l.length (l.flatMap EvalD.cells)) : OwnS base W' (s.setE A c l) :=
 ⟨h.j.keep hx (hS.less (by decide)), h.jl, h.t.keep hx (hS.less (by decide)), h.tl, own_apart h.n hx (hS.less (by decide)), h.nl, own_apart h.a hx (hS.less (by decide)), h.al,
  o, rfl, own_apart h.d hx (hS.less (by decide)), h.dl, own_apart h.x hx (hS.less (by decide)), h.xl, h.xa, h.sep⟩
theorem OwnS.wD (h : OwnS base W s) (hx : Ext S W W') (hS : Apart W S [39, 116, 43, 58, 76, 67]) {A : Option Addr} {c : Nat} {l : List DepD} (o : W'.ownsRow base 97 4 (.slice A l.length c) l.length (l.flatMap DepD.cells)) : OwnS base W' (s.setD A c l) :=
 ⟨h.j.keep hx (hS.less (by decide)), h.jl, h.t.keep hx (hS.less (by decide)), h.tl, own_apart h.n hx (hS.less (by decide)), h.nl, own_apart h.a hx (hS.less (by decide)), h.al,
  own_apart h.e hx (hS.less (by decide)), h.el, o, rfl, own_apart h.x hx (hS.less (by decide)), h.xl, h.xa, h.sep⟩
theorem OwnS.wA (h : OwnS base W s) (hx : Ext S W W') (hS : Apart W S [39, 116, 43, 76, 97, 67]) {A : Option Addr} {c : Nat} {l : List AllocD} (o : W'.ownsRow base 58 11 (.slice A l.length c) l.length (l.flatMap AllocD.cells)) : OwnS base W' (s.setA A c l) :=
 ⟨h.j.keep hx (hS.less (by decide)), h.jl, h.t.keep hx (hS.less (by decide)), h.tl, own_apart h.n hx (hS.less (by decide)), h.nl, o, rfl,
  own_apart h.e hx (hS.less (by decide)), h.el, own_apart h.d hx (hS.less (by decide)), h.dl, own_apart h.x hx (hS.less (by decide)), h.xl, h.xa, h.sep⟩
theorem OwnS.wN (h : OwnS base W s) (hx : Ext S W W') (hS : Apart W S [39, 116, 58, 76, 97, 67]) {A : Option Addr} {c : Nat} {l : List NodD} (o : W'.ownsRow base 43 8 (.slice A l.length c) l.length (l.flatMap NodD.cells)) : OwnS base W' (s.setN A c l) :=
 ⟨h.j.keep hx (hS.less (by decide)), h.jl, h.t.keep hx (hS.less (by decide)), h.tl, o, rfl, own_apart h.a hx (hS.less (by decide)), h.al,
  own_apart h.e hx (hS.less (by decide)), h.el, own_apart h.d hx (hS.less (by decide)), h.dl, own_apart h.x hx (hS.less (by decide)), h.xl, h.xa, h.sep⟩
theorem OwnS.wX (h : OwnS base W s) (hx : Ext S W W') (hS : Apart W S [39, 116, 43, 58, 76, 97]) {A : Option Addr} {c : Nat} {l : List SeenV} (o : W'.ownsRow base 67 5 (.slice A l.length c) l.length (l.flatMap SeenV.cells)) (xa : ∀ y ∈ l, ∃ A c, y.2 = .slice A 0 c ∧ y.1.answer.allocs = []) : OwnS base W' (s.setX A c l) :=
 ⟨h.j.keep hx (hS.less (by decide)), h.jl, h.t.keep hx (hS.less (by decide)), h.tl, own_apart h.n hx (hS.less (by decide)), h.nl, own_apart h.a hx (hS.less (by decide)), h.al,
  own_apart h.e hx (hS.less (by decide)), h.el, own_apart h.d hx (hS.less (by decide)), h.dl, o, rfl, xa, h.sep⟩
theorem OwnS.wJ (h : OwnS base W s) (hx : Ext Nothing W W') {A : Option Addr} {c : Nat} {l : List JobV} (o : JobsI W.heap.size W' (.slice A l.length c) l) (hb : base ≤ W.heap.size) : OwnS base W' (s.setJ A c l) :=
 have k := h.keep0 hx
 ⟨o.base hb, rfl, k.t, h.tl, k.n, h.nl, k.a, h.al, k.e, h.el, k.d, h.dl, k.x, h.xl, h.xa, fun q hq hs => by
  have h1 := own_ge o.own hq
  have h2 := own_lt h.t.own hs
  omega⟩
theorem OwnS.slJ (h : OwnS base W s) : Sl W 7 s.AJ s.nJ (s.jobs.map JobV.cells) := Sl.of_own (fun _ => rfl) (by rw [h.jl]; exact h.jl ▸ h.j.own) h.jl
theorem OwnS.slT (h : OwnS base W s) : Sl W 7 s.AS s.nS (s.stable.map JobV.cells) := Sl.of_own (fun _ => rfl) (by rw [h.tl]; exact h.tl ▸ h.t.own) h.tl
theorem OwnS.slN (h : OwnS base W s) : Sl W 8 s.AN s.nN (s.nodes.map NodD.cells) := Sl.of_own (fun _ => rfl) (by rw [h.nl]; exact h.nl ▸ h.n) h.nl
theorem OwnS.slA (h : OwnS base W s) : Sl W 11 s.AA s.nA (s.allocs.map AllocD.cells) := Sl.of_own (fun _ => rfl) (by rw [h.al]; exact h.al ▸ h.a) h.al
theorem OwnS.slE (h : OwnS base W s) : Sl W 4 s.AE s.nE (s.evals.map EvalD.cells) := Sl.of_own (fun _ => rfl) (by rw [h.el]; exact h.el ▸ h.e) h.el
theorem OwnS.slD (h : OwnS base W s) : Sl W 4 s.AD s.nD (s.deploys.map DepD.cells) := Sl.of_own (fun _ => rfl) (by rw [h.dl]; exact h.dl ▸ h.d) h.dl
theorem OwnS.slX (h : OwnS base W s) : Sl W 5 s.AX s.nX (s.seen.map SeenV.cells) := Sl.of_own (fun _ => rfl) (by rw [h.xl]; exact h.xl ▸ h.x) h.xl
end
end
section
open Go.RowKit
def SameE (s t : StoreV) : Prop := ∃ A n c l, t = ({ s with AE := A, nE := n, cE := c, evals := l } : StoreV)
theorem SameE.refl (s : StoreV) : SameE s s := ⟨s.AE, s.nE, s.cE, s.evals, rfl⟩
theorem SameE.trans {s t u : StoreV} (h : SameE s t) (k : SameE t u) : SameE s u := by
 obtain ⟨A, n, c, l, rfl⟩ := h
 obtain ⟨A', n', c', l', rfl⟩ := k
 exact ⟨A', n', c', l', rfl⟩
theorem SameE.set (s : StoreV) (A : Option Addr) (c : Nat) (l : List EvalD) : SameE s (s.setE A c l) := ⟨A, l.length, c, l, rfl⟩
theorem ev_cells_len (x : EvalD) : (EvalD.cells x).length = 4 := rfl
theorem jobAt_data {s : StoreV} {job : Int} {x : JobV} (hf : s.jobs.find? (fun x : JobV => x.1.id == job) = some x) : Fsm.jobAt s.data job = some x.1 := by
 show (s.jobs.map (·.1)).find? (fun j => j.id == job) = _
 rw [List.find?_map]
 show Option.map (·.1) (s.jobs.find? (fun x : JobV => x.1.id == job)) = _
 rw [hf]; rfl
theorem jobAt_none {s : StoreV} {job : Int} (hf : s.jobs.find? (fun x : JobV => x.1.id == job) = none) : Fsm.jobAt s.data job = none := by
 show (s.jobs.map (·.1)).find? (fun j => j.id == job) = _
 rw [List.find?_map]
 show Option.map (·.1) (s.jobs.find? (fun x : JobV => x.1.id == job)) = _
 rw [hf]; rfl
set_option maxRecDepth 20000 in
set_option maxHeartbeats 4000000 in
theorem refEval (base : Nat) (s : StoreV) (job : Int) (w : World) (h : OwnS base w s) (hb : base ≤ w.heap.size) (hJ : s.jobs.length ≤ 67108864) (hE : s.evals.length < 67108862) :
  Calls Tryz.prog 54 #[.agg s.arr, .int .i64 job] w fun e w' => ∃ s', e = .returned (.agg s'.arr) ∧ OwnS base w' s' ∧ s'.data = Fsm.eval s.data job ∧ SameE s s' ∧ Ext Nothing w w' := by
 have hx0 : Ext Nothing w ((w.alloc (.cells s.arr 30)).alloc (.cells #[.int .i64 0, .int .i64 0, .slice none 0 0, .slice none 0 0, .slice none 0 0, .slice none 0 0, .slice none 0 0, .slice none 0 0, .slice none 0 0] 30)) := Ext.auto
 have hB0 : Blk ((w.alloc (.cells s.arr 30)).alloc (.cells #[.int .i64 0, .int .i64 0, .slice none 0 0, .slice none 0 0, .slice none 0 0, .slice none 0 0, .slice none 0 0, .slice none 0 0, .slice none 0 0] 30)) w.heap.size 30 s.arr := (Blk.new w _ _).e0 Ext.auto
 have hR0 : Blk ((w.alloc (.cells s.arr 30)).alloc (.cells #[.int .i64 0, .int .i64 0, .slice none 0 0, .slice none 0 0, .slice none 0 0, .slice none 0 0, .slice none 0 0, .slice none 0 0, .slice none 0 0] 30)) (w.heap.size + 1) 30 #[.int .i64 0, .int .i64 0, .slice none 0 0, .slice none 0 0, .slice none 0 0, .slice none 0 0, .slice none 0 0, .slice none 0 0, .slice none 0 0] := Blk.new' _ _ _ (by simp)
 have hjl := Lib.hid h.jl
 have hsj := h.slJ
 have hse := h.slE
 have hel := Lib.hid h.el
 rcases idx_cases (fun x : JobV => x.1.id == job) s.jobs with ⟨hi, hf, _⟩ | ⟨i, x, hi, hxi, hp, hf, _⟩
 ·have hev : Fsm.eval s.data job = s.data := by unfold Fsm.eval; rw [jobAt_none hf]
  have HV := Lib.hid hev
  have HI := Lib.hid hi
  clear hev hi hf
  go_enter Tryz.func54, Tryz.ntmps54
  go_wp2_with (first | (refine wpList_load_blk rfl 30 _ rfl STStore w.heap.size rfl s.arr (show Blk _ _ 30 _ from by first | exact hB1 | exact hB0) rfl ?_) | (go_at_call 51; refine (refAtJob s.AJ s.nJ s.cJ s.jobs job _ (hsj.ext0 hx0) (by have := hjl.out; omega) _ _ _ _ _ _ _ _).mono ?_; rintro e w1 ⟨rfl, hx1⟩; rw [HI.out]; have hB1 := hB0.e0 hx1; have hR1 := hR0.e0 hx1) | (refine wpList_store_blk rfl 30 _ _ rfl STStore (w.heap.size + 1) rfl s.arr rfl hR1 rfl rfl rfl ?_; intro w2 hR2 hx2))
  have hx3 : Ext Nothing w w2 := (hx0.tr hx1).trans hx2 (fun b hb e => absurd (show b = w.heap.size + 1 from e) (by omega))
  exact bodyPost_ret (results_cell rfl STStore (g := w.heap.size + 1) rfl hR2 rfl) rfl ⟨s, rfl, h.keep0 hx3, HV.out.symm, SameE.refl s, hx3⟩
 ·have hev : Fsm.eval s.data job = { s.data with evals := Fsm.putL EvalD.job ⟨job, x.1.prio, 1, s.index⟩ s.evals } := by unfold Fsm.eval; rw [jobAt_data hf]; rfl
  have HV := Lib.hid hev
  have HI := Lib.hid hi
  obtain ⟨hi1, hi2⟩ := List.getElem?_eq_some_iff.1 hxi
  obtain ⟨_, b, off, hAe, hce⟩ := hsj.get (Ext.refl Nothing w) (k := i) (by have := hjl.out; omega)
  rw [hi2] at hce
  have hk1 : (i : Int) < s.nJ := by have := hjl.out; omega
  have HA := Lib.hid hAe
  clear hev hi hf hi2 hAe hxi
  obtain ⟨⟨x0, x1, x2, x3, xg, x5, x6⟩, xv⟩ := x
  have hk0 : (0 : Int) ≤ (i : Int) := by omega
  have hcu : ¬ ((i : Int) < 0) := by omega
  go_enter Tryz.func54, Tryz.ntmps54
  go_wp2_with (first | (refine wpList_load_blk rfl 30 _ rfl STStore w.heap.size rfl s.arr (show Blk _ _ 30 _ from by first | exact hB1 | exact hB0) rfl ?_) | (go_at_call 51; refine (refAtJob s.AJ s.nJ s.cJ s.jobs job _ (hsj.ext0 hx0) (by have := hjl.out; omega) _ _ _ _ _ _ _ _).mono ?_; rintro e w1 ⟨rfl, hx1⟩; rw [HI.out]; have hB1 := hB0.e0 hx1; have hR1 := hR0.e0 hx1))
  have hx2 : Ext Nothing w w1 := hx0.tr hx1
  clear hB0 hR0 hx0 hx1
  have c2 : w1.cell? ⟨w.heap.size, 2, none⟩ = some (.slice s.AJ s.nJ s.cJ) := hB1.cell 2
  have c0 : w1.cell? ⟨w.heap.size, 0, none⟩ = some (.int .i64 s.index) := hB1.cell 0
  rw [HA.out] at c2
  have q2 : w1.cell? ⟨b, off + i * 7 + 2, none⟩ = some (.int .i64 x2) := hx2.cell (hce 2 _ rfl) (fun e => e)
  have q2' : w1.cell? ⟨b, off + i * 7 + 1 + 1, none⟩ = some (.int .i64 x2) := q2
  have hA1 : Ext Nothing w1 (w1.alloc (.cells #[.int .i64 0, .int .i64 0, .int .i64 0, .int .i64 0] 76)) := (Ext.refl _ _).alloc _
  have d2 := hA1.c0 c2
  have d0 := hA1.c0 c0
  have e2 := hA1.c0 q2
  have e2' := hA1.c0 q2'
  go_region
  have hBW : Blk (w1.alloc (.cells #[.int .i64 job, .int .i64 x2, .int .i64 1, .int .i64 s.index] 76)).drew w.heap.size 30 s.arr := hB1.ext (S := Nothing) (((Ext.refl _ _).alloc _).drew) (fun e => e)
  have hRW : Blk (w1.alloc (.cells #[.int .i64 job, .int .i64 x2, .int .i64 1, .int .i64 s.index] 76)).drew (w.heap.size + 1) 30 #[.int .i64 0, .int .i64 0, .slice none 0 0, .slice none 0 0, .slice none 0 0, .slice none 0 0, .slice none 0 0, .slice none 0 0, .slice none 0 0] := hR1.ext (S := Nothing) (((Ext.refl _ _).alloc _).drew) (fun e => e)
  have hXW : Blk (w1.alloc (.cells #[.int .i64 job, .int .i64 x2, .int .i64 1, .int .i64 s.index] 76)).drew w1.heap.size 76 #[.int .i64 job, .int .i64 x2, .int .i64 1, .int .i64 s.index] := (Blk.new w1 _ _).ext (S := Nothing) ((Ext.refl _ _).drew) (fun e => e)
  have hxW : Ext Nothing w (w1.alloc (.cells #[.int .i64 job, .int .i64 x2, .int .i64 1, .int .i64 s.index] 76)).drew := hx2.trans (((Ext.refl Nothing _).alloc _).drew) (fun _ _ e => e)
  clear hB1 hR1 c2 c0 q2 q2' hA1 d2 d0 e2 e2' hce HA
  generalize w1.heap.size = bx at hXW ⊢
  generalize (w1.alloc (.cells #[.int .i64 job, .int .i64 x2, .int .i64 1, .int .i64 s.index] 76)).drew = W at hBW hRW hXW hxW ⊢
  clear hx2
  have hseW := hse.ext0 hxW
  have hzW := hxW.size
  have hW0 : w.heap.size + 1 < W.heap.size := hRW.lt
  go_wp2
  go_loopw [7, 8, 9] (fun v7 v8 c wr => ∃ t : Nat, t ≤ s.nE ∧ c = .int .i64 t ∧ ∃ (out : List EvalD) (pb : Bool) (A : Option Addr) (cc : Nat), (s.evals.take t).foldl (Fsm.putS EvalD.job ⟨job, x2, 1, s.index⟩) ([], false) = (out, pb) ∧ out.length ≤ t + 1 ∧ v7 = .slice A out.length cc ∧ v8 = .bool pb ∧ wr.ownsRow W.heap.size 76 4 (.slice A out.length cc) out.length (out.flatMap EvalD.cells) ∧ Ext Nothing W wr) (fun _ _ c _ => s.nE - (intOf c).toNat)
  case atStart => exact ⟨0, Nat.zero_le _, rfl, [], false, none, 0, rfl, Nat.zero_le _, rfl, rfl, World.ownsRow_nil _ _ _ _, Ext.refl _ _⟩
  case round =>
   obtain ⟨t, ht, rfl, out, pb, A, cc, hz, hlen, rfl, rfl, hown, hx⟩ := hrel
   have hX := hXW.e0 hx
   have hzr := hx.size
   have c6 : wr.cell? ⟨w.heap.size, 6, none⟩ = some (.slice s.AE s.nE s.cE) := (hBW.e0 hx).cell 6
   by_cases hlt : t < s.nE
   ·obtain ⟨hjn, b, off, hAe, hce⟩ := hseW.get (Ext.refl Nothing W) hlt
    have hst := Fsm.putS_take (key := EvalD.job) (x := ⟨job, x2, 1, s.index⟩) s.evals t hjn
    have hlen2 := Fsm.putS_len_take (key := EvalD.job) (x := ⟨job, x2, 1, s.index⟩) s.evals (t + 1)
    rw [hst, hz] at hlen2
    rw [hz] at hst
    generalize s.evals[t] = y at hce hst hlen2
    obtain ⟨y0, y1, y2, y3⟩ := y
    rw [hAe] at c6
    have cW6 : W.cell? ⟨w.heap.size, 6, none⟩ = some (.slice (some ⟨b, off, none⟩) s.nE s.cE) := by rw [← hAe]; exact hBW.cell 6
    clear hAe
    have hn1 : out.length < 67108864 := by have := hel.out; omega
    have hn2 : out.length + 1 < 67108864 := by have := hel.out; omega
    have hk0 : (0 : Int) ≤ (t : Int) := by omega
    have hk1 : (t : Int) < s.nE := by omega
    have HT := Lib.hid hlt
    have HL := Lib.hid hlen2
    have HS := Lib.hid hst
    clear hz hst hlen2 hlen
    have k0 : wr.cell? ⟨b, off + t * 4, none⟩ = some (.int .i64 y0) := hx.cell (hce 0 _ rfl) (fun e => e)
    have hceR : ∀ j u, (EvalD.cells ⟨y0, y1, y2, y3⟩)[j]? = some u → wr.cell? ⟨b, off + t * 4 + j, none⟩ = some u := fun j u hu => hx.cell (hce j u hu) (fun e => e)
    cases pb with
    | true =>
     by_cases he : y0 = job
     ·have hne : (y0 != job) = false := by simpa using he
      go_wp2_with (first | go_skip | go_guarded)
      go_roundw
      case rel => exact ⟨t + 1, HT.out, by go_num, out, true, A, cc, HS.out.trans (by simp [Fsm.putS, he]), by have := HL.out; simpa [Fsm.putS, he] using this, by simp, rfl, hown, hx⟩
      case measure => have := HT.out; simp [intOf]; omega
     ·have hne : (y0 != job) = true := by simpa using he
      go_wp2_with (first | go_skip | go_guarded | ((with_reducible refine isW ?_); refine wpList_load_at rfl 76 _ rfl STEval b (off + t * 4) rfl #[.int .i64 y0, .int .i64 y1, .int .i64 y2, .int .i64 y3] (by first | exact hce2 | exact hceR) rfl ?_) | ((with_reducible refine isW2 ?_); refine wpList_push rfl rfl 26 _ rfl _ _ rfl SREval #[.int .i64 y0, .int .i64 y1, .int .i64 y2, .int .i64 y3] rfl rfl W.heap.size (.slice A out.length cc) (out.length) (out.flatMap EvalD.cells) rfl rfl hown rfl hn1 hzr ?_; intro A1 c1 wa owna hxa; have hwa : Ext Nothing W wa := hx.trans hxa (fun q hq e => absurd (own_ge hown e) (by omega))))
      go_roundw
      case rel => exact ⟨t + 1, HT.out, by go_num, out ++ [⟨y0, y1, y2, y3⟩], true, A1, c1, HS.out.trans (by simp [Fsm.putS, he]), by have := HL.out; simpa [Fsm.putS, he] using this, by simp, rfl, own_snoc owna rfl rfl, hwa⟩
      case measure => have := HT.out; simp [intOf]; omega
    | false =>
     by_cases hge : job ≤ y0
     ·have hge2 : decide (job ≤ y0) = true := by simpa using hge
      by_cases he : y0 = job
      ·have hne : (y0 != job) = false := by simpa using he
       go_wp2_with (first | go_skip | go_guarded | ((with_reducible refine isW ?_); refine wpList_load_blk rfl 76 _ rfl STEval bx rfl #[.int .i64 job, .int .i64 x2, .int .i64 1, .int .i64 s.index] (show Blk _ _ 76 _ from by first | exact hX2 | exact hX) rfl ?_) | ((with_reducible refine isW2 ?_); refine wpList_push rfl rfl 26 _ rfl _ _ rfl SREval #[.int .i64 job, .int .i64 x2, .int .i64 1, .int .i64 s.index] rfl rfl W.heap.size (.slice A out.length cc) (out.length) (out.flatMap EvalD.cells) rfl rfl hown rfl hn1 hzr ?_; intro A1 c1 wa owna hxa; have hwa : Ext Nothing W wa := hx.trans hxa (fun q hq e => absurd (own_ge hown e) (by omega)); have hX2 := hXW.e0 hwa; have hza := hwa.size; have c62 : wa.cell? ⟨w.heap.size, 6, none⟩ = some (.slice (some ⟨b, off, none⟩) s.nE s.cE) := hwa.c0 cW6; have k02 : wa.cell? ⟨b, off + t * 4, none⟩ = some (.int .i64 y0) := hwa.cell (hce 0 _ rfl) (fun e => e); have hce2 : ∀ j u, (EvalD.cells ⟨y0, y1, y2, y3⟩)[j]? = some u → wa.cell? ⟨b, off + t * 4 + j, none⟩ = some u := fun j u hu => hwa.cell (hce j u hu) (fun e => e)))
       go_roundw
       case rel => exact ⟨t + 1, HT.out, by go_num, out ++ [⟨job, x2, 1, s.index⟩], true, A1, c1, HS.out.trans (by simp [Fsm.putS, he]), by have := HL.out; simpa [Fsm.putS, he] using this, by simp, rfl, own_snoc owna rfl rfl, hwa⟩
       case measure => have := HT.out; simp [intOf]; omega
      ·have hne : (y0 != job) = true := by simpa using he
       go_wp2_with (first | go_skip | go_guarded | ((with_reducible refine isW ?_); refine wpList_load_blk rfl 76 _ rfl STEval bx rfl #[.int .i64 job, .int .i64 x2, .int .i64 1, .int .i64 s.index] (show Blk _ _ 76 _ from by first | exact hX2 | exact hX) rfl ?_) | ((with_reducible refine isW ?_); refine wpList_load_at rfl 76 _ rfl STEval b (off + t * 4) rfl #[.int .i64 y0, .int .i64 y1, .int .i64 y2, .int .i64 y3] (by first | exact hce2 | exact hceR) rfl ?_) | ((with_reducible refine isW2 ?_); refine wpList_push rfl rfl 26 _ rfl _ _ rfl SREval #[.int .i64 job, .int .i64 x2, .int .i64 1, .int .i64 s.index] rfl rfl W.heap.size (.slice A out.length cc) (out.length) (out.flatMap EvalD.cells) rfl rfl hown rfl hn1 hzr ?_; intro A1 c1 wa owna hxa; have hwa : Ext Nothing W wa := hx.trans hxa (fun q hq e => absurd (own_ge hown e) (by omega)); have hX2 := hXW.e0 hwa; have hza := hwa.size; have c62 : wa.cell? ⟨w.heap.size, 6, none⟩ = some (.slice (some ⟨b, off, none⟩) s.nE s.cE) := hwa.c0 cW6; have k02 : wa.cell? ⟨b, off + t * 4, none⟩ = some (.int .i64 y0) := hwa.cell (hce 0 _ rfl) (fun e => e); have hce2 : ∀ j u, (EvalD.cells ⟨y0, y1, y2, y3⟩)[j]? = some u → wa.cell? ⟨b, off + t * 4 + j, none⟩ = some u := fun j u hu => hwa.cell (hce j u hu) (fun e => e)) | ((with_reducible refine isW2 ?_); refine wpList_push rfl rfl 26 _ rfl _ _ rfl SREval #[.int .i64 y0, .int .i64 y1, .int .i64 y2, .int .i64 y3] rfl rfl W.heap.size (.slice A1 (out.length + 1) c1) (out.length + 1) (out.flatMap EvalD.cells ++ #[.int .i64 job, .int .i64 x2, .int .i64 1, .int .i64 s.index].toList) rfl rfl owna rfl hn2 hza ?_; intro A2 c2 wb ownb hxb))
       go_roundw
       case rel => exact ⟨t + 1, HT.out, by go_num, out ++ [⟨job, x2, 1, s.index⟩] ++ [⟨y0, y1, y2, y3⟩], true, A2, c2, HS.out.trans (by simp [Fsm.putS, he, hge]), by have := HL.out; simpa [Fsm.putS, he, hge] using this, by simp, rfl, own_snoc2 ownb rfl rfl rfl, hwa.trans hxb (fun q hq e => absurd (own_ge owna e) (by omega))⟩
       case measure => have := HT.out; simp [intOf]; omega
     ·have he : ¬ y0 = job := by omega
      have hne : (y0 != job) = true := by simpa using he
      have hge2 : decide (job ≤ y0) = false := by simpa using hge
      have HG := Lib.hid hge
      go_wp2_with (first | go_skip | go_guarded | ((with_reducible refine isW ?_); refine wpList_load_at rfl 76 _ rfl STEval b (off + t * 4) rfl #[.int .i64 y0, .int .i64 y1, .int .i64 y2, .int .i64 y3] (by first | exact hce2 | exact hceR) rfl ?_) | ((with_reducible refine isW2 ?_); refine wpList_push rfl rfl 26 _ rfl _ _ rfl SREval #[.int .i64 y0, .int .i64 y1, .int .i64 y2, .int .i64 y3] rfl rfl W.heap.size (.slice A out.length cc) (out.length) (out.flatMap EvalD.cells) rfl rfl hown rfl hn1 hzr ?_; intro A1 c1 wa owna hxa; have hwa : Ext Nothing W wa := hx.trans hxa (fun q hq e => absurd (own_ge hown e) (by omega))))
      go_roundw
      case rel => exact ⟨t + 1, HT.out, by go_num, out ++ [⟨y0, y1, y2, y3⟩], false, A1, c1, HS.out.trans (by simp [Fsm.putS, he, HG.out]), by have := HL.out; simpa [Fsm.putS, he, HG.out, hge2] using this, by simp, rfl, own_snoc owna rfl rfl, hwa⟩
      case measure => have := HT.out; simp [intOf]; omega
   ·have hzz : (s.evals.take t) = s.evals := List.take_of_length_le (by have := hel.out; omega)
    rw [hzz] at hz
    have hfin := Fsm.put_fold (key := EvalD.job) (x := ⟨job, x2, 1, s.index⟩) s.evals []
    rw [hz, List.nil_append] at hfin
    have HF := Lib.hid hfin
    have hol : out.length < 67108864 := by have := hel.out; omega
    have hnl : ¬ ((t : Int) < s.nE) := by omega
    clear hz hfin hzz
    have hwz := hW0
    cases pb with
    | true =>
     have hB := hBW.e0 hx
     have hR := hRW.e0 hx
     have hfz : wr.frozen? ⟨w.heap.size, 6, none⟩ = false := hB.frozen 6
     go_wp2_with (first | ((with_reducible refine isW ?_); refine wpList_load_blk rfl 30 _ rfl STStore w.heap.size rfl ({ s with AE := A, nE := out.length, cE := cc, evals := out } : StoreV).arr (show Blk _ _ 30 _ from hB.set_ 6 _) rfl ?_) | ((with_reducible refine isW ?_); refine wpList_store_blk rfl 30 _ _ rfl STStore (w.heap.size + 1) rfl ({ s with AE := A, nE := out.length, cE := cc, evals := out } : StoreV).arr rfl (show Blk _ _ 30 _ from hR.ext (Ext.set1 _ _ _ _) (by omega)) rfl rfl rfl ?_; intro w2 hR2 hx2))
     have hxs : Ext (fun b => b = w.heap.size) wr (wr.setCell ⟨w.heap.size, 6, none⟩ (.slice A out.length cc)) := Ext.set1 _ _ _ _
     have hx3 : Ext Nothing w w2 := ((hxW.tr hx).trans hxs (fun b hb e => absurd (show b = w.heap.size from e) (by omega))).trans hx2 (fun b hb e => absurd (show b = w.heap.size + 1 from e) (by omega))
     have ho : w2.ownsRow base 76 4 (.slice A (out).length cc) (out).length ((out).flatMap EvalD.cells) := own_base (own_ext (own_ext hown hxs (fun g hg e => by have := own_ge hown hg; omega)) hx2 (fun g hg e => by have := own_ge hown hg; omega)) (by omega)
     have he : ({ s with AE := A, nE := out.length, cE := cc, evals := out } : StoreV) = s.setE A cc (out) := by simp [StoreV.setE]
     exact bodyPost_ret (results_cell rfl STStore (g := w.heap.size + 1) rfl hR2 rfl) rfl ⟨s.setE A cc (out), congrArg (fun z => Ending.returned (.agg (StoreV.arr z))) he, h.wE hx3 Apart.none ho, by rw [HV.out, ← HF.out]; rfl, SameE.set _ _ _ _, hx3⟩
    | false =>
     go_wp2_with (first | ((with_reducible refine isW ?_); refine wpList_load_blk rfl 76 _ rfl STEval bx rfl #[.int .i64 job, .int .i64 x2, .int .i64 1, .int .i64 s.index] (show Blk _ _ 76 _ from hX) rfl ?_) | ((with_reducible refine isW2 ?_); refine wpList_push rfl rfl 26 _ rfl _ _ rfl SREval #[.int .i64 job, .int .i64 x2, .int .i64 1, .int .i64 s.index] rfl rfl W.heap.size (.slice A out.length cc) (out.length) (out.flatMap EvalD.cells) rfl rfl hown rfl hol hzr ?_; intro A1 c1 wa owna hxa; have hwa : Ext Nothing W wa := hx.trans hxa (fun q hq e => absurd (own_ge hown e) (by omega)); have hB := hBW.e0 hwa; have hR := hRW.e0 hwa; have hfz : wa.frozen? ⟨w.heap.size, 6, none⟩ = false := hB.frozen 6; have c6a : wa.cell? ⟨w.heap.size, 6, none⟩ = some (.slice s.AE s.nE s.cE) := hB.cell 6; have ho1 := own_snoc (x := (⟨job, x2, 1, s.index⟩ : EvalD)) owna rfl rfl) | ((with_reducible refine isW ?_); refine wpList_load_blk rfl 30 _ rfl STStore w.heap.size rfl ({ s with AE := A1, nE := (out.length + 1), cE := c1, evals := out ++ [(⟨job, x2, 1, s.index⟩ : EvalD)] } : StoreV).arr (show Blk _ _ 30 _ from hB.set_ 6 _) rfl ?_) | ((with_reducible refine isW ?_); refine wpList_store_blk rfl 30 _ _ rfl STStore (w.heap.size + 1) rfl ({ s with AE := A1, nE := (out.length + 1), cE := c1, evals := out ++ [(⟨job, x2, 1, s.index⟩ : EvalD)] } : StoreV).arr rfl (show Blk _ _ 30 _ from hR.ext (Ext.set1 _ _ _ _) (by omega)) rfl rfl rfl ?_; intro w2 hR2 hx2))
     have hxs : Ext (fun b => b = w.heap.size) wa (wa.setCell ⟨w.heap.size, 6, none⟩ (.slice A1 (out.length + 1) c1)) := Ext.set1 _ _ _ _
     have hx3 : Ext Nothing w w2 := ((hxW.tr hwa).trans hxs (fun b hb e => absurd (show b = w.heap.size from e) (by omega))).trans hx2 (fun b hb e => absurd (show b = w.heap.size + 1 from e) (by omega))
     have ho : w2.ownsRow base 76 4 (.slice A1 (out ++ [(⟨job, x2, 1, s.index⟩ : EvalD)]).length c1) (out ++ [(⟨job, x2, 1, s.index⟩ : EvalD)]).length ((out ++ [(⟨job, x2, 1, s.index⟩ : EvalD)]).flatMap EvalD.cells) := own_base (own_ext (own_ext ho1 hxs (fun g hg e => by have := own_ge ho1 hg; omega)) hx2 (fun g hg e => by have := own_ge ho1 hg; omega)) (by omega)
     have he : ({ s with AE := A1, nE := (out.length + 1), cE := c1, evals := out ++ [(⟨job, x2, 1, s.index⟩ : EvalD)] } : StoreV) = s.setE A1 c1 (out ++ [(⟨job, x2, 1, s.index⟩ : EvalD)]) := by simp [StoreV.setE]
     exact bodyPost_ret (results_cell rfl STStore (g := w.heap.size + 1) rfl hR2 rfl) rfl ⟨s.setE A1 c1 (out ++ [(⟨job, x2, 1, s.index⟩ : EvalD)]), congrArg (fun z => Ending.returned (.agg (StoreV.arr z))) he, h.wE hx3 Apart.none ho, by rw [HV.out, ← HF.out]; rfl, SameE.set _ _ _ _, hx3⟩
end
section
open Go.RowKit
theorem own_cell {α : Type} {f : α → List Value} {w : World} {base e sz n g c : Nat} {xs : List α} (hf : ∀ x, (f x).length = sz) (h : w.ownsRow base e sz (.slice (some ⟨g, 0, none⟩) n c) n (xs.flatMap f)) (hn : n = xs.length) {i : Nat} {x : α} (hi : xs[i]? = some x) {j : Nat} {u : Value} (hj : (f x)[j]? = some u) : w.cell? ⟨g, i * sz + j, none⟩ = some u := by
 obtain ⟨b, off, hA, _, hc⟩ := (Sl.of_own hf h hn).2 i (f x) (by simp [hi])
 injection hA with hA
 injection hA with h1 h2
 subst h1; subst h2
 have := hc j u hj
 rwa [Nat.zero_add] at this
theorem came_data (s : StoreV) : ({ s with evals := s.evals.map (Fsm.cameE s.index) } : StoreV).data = Fsm.came s.data := rfl
theorem cameE_id {ix : Int} {e : EvalD} (h : (e.state == 2 || e.state == 1) = false) : Fsm.cameE ix e = e := by unfold Fsm.cameE; rw [h]; rfl
theorem cameE_turn {ix : Int} {e : EvalD} (h : (e.state == 2 || e.state == 1) = true) : Fsm.cameE ix e = { e with state := 1, index := ix } := by unfold Fsm.cameE; rw [h]; rfl
set_option maxRecDepth 20000 in
set_option maxHeartbeats 4000000 in
theorem refCame (base : Nat) (s : StoreV) (w : World) (h : OwnS base w s) (hE : s.evals.length < 67108862) :
  Calls Tryz.prog 58 #[.agg s.arr] w fun e w' => ∃ s', e = .returned (.agg s'.arr) ∧ OwnS base w' s' ∧ s'.data = Fsm.came s.data ∧ SameE s s' ∧ Ext (fun b => (vE s).ownBlock = some b) w w' := by
 have hx0 : Ext Nothing w ((w.alloc (.cells s.arr 30)).alloc (.cells #[.int .i64 0, .int .i64 0, .slice none 0 0, .slice none 0 0, .slice none 0 0, .slice none 0 0, .slice none 0 0, .slice none 0 0, .slice none 0 0] 30)) := Ext.auto
 have hB0 : Blk ((w.alloc (.cells s.arr 30)).alloc (.cells #[.int .i64 0, .int .i64 0, .slice none 0 0, .slice none 0 0, .slice none 0 0, .slice none 0 0, .slice none 0 0, .slice none 0 0, .slice none 0 0] 30)) w.heap.size 30 s.arr := (Blk.new w _ _).e0 Ext.auto
 have hR0 : Blk ((w.alloc (.cells s.arr 30)).alloc (.cells #[.int .i64 0, .int .i64 0, .slice none 0 0, .slice none 0 0, .slice none 0 0, .slice none 0 0, .slice none 0 0, .slice none 0 0, .slice none 0 0] 30)) (w.heap.size + 1) 30 #[.int .i64 0, .int .i64 0, .slice none 0 0, .slice none 0 0, .slice none 0 0, .slice none 0 0, .slice none 0 0, .slice none 0 0, .slice none 0 0] := Blk.new' _ _ _ (by simp)
 have hel := Lib.hid h.el
 go_enter Tryz.func58, Tryz.ntmps58
 go_wp2
 generalize ((w.alloc (.cells s.arr 30)).alloc (.cells #[.int .i64 0, .int .i64 0, .slice none 0 0, .slice none 0 0, .slice none 0 0, .slice none 0 0, .slice none 0 0, .slice none 0 0, .slice none 0 0] 30)) = W at hx0 hB0 hR0 ⊢
 have h0 := h.keep0 hx0
 have hzW := hx0.size
 go_loopw [3] (fun c wr => ∃ t : Nat, t ≤ s.nE ∧ c = .int .i64 t ∧ wr.ownsRow base 76 4 (.slice s.AE s.nE s.cE) s.nE ((Fsm.upto (Fsm.cameE s.index) t s.evals).flatMap EvalD.cells) ∧ Ext (fun b => (vE s).ownBlock = some b) W wr) (fun c _ => s.nE - (intOf c).toNat)
 case atStart => exact ⟨0, Nat.zero_le _, rfl, by rw [Fsm.upto_zero, h.el]; have := h0.e; rwa [h.el] at this, Ext.refl _ _⟩
 case round =>
  obtain ⟨t, ht, rfl, hown, hx⟩ := hrel
  have hnE : ∀ g, (vE s).ownBlock = some g → g ≠ w.heap.size ∧ g ≠ w.heap.size + 1 := fun g hg => by
   have h1 := own_ne h0.e hB0 (by decide)
   have h2 := own_ne h0.e hR0 (by decide)
   exact ⟨fun e => h1 (e ▸ hg), fun e => h2 (e ▸ hg)⟩
  have hB : Blk wr w.heap.size 30 s.arr := hB0.ext hx (fun e => (hnE _ e).1 rfl)
  have hR : Blk wr (w.heap.size + 1) 30 _ := hR0.ext hx (fun e => (hnE _ e).2 rfl)
  have c6 : wr.cell? ⟨w.heap.size, 6, none⟩ = some (.slice s.AE s.nE s.cE) := hB.cell 6
  have c0 : wr.cell? ⟨w.heap.size, 0, none⟩ = some (.int .i64 s.index) := hB.cell 0
  by_cases hlt : t < s.nE
  ·have htl : t < s.evals.length := by have := hel.out; omega
   have hul : s.nE = (Fsm.upto (Fsm.cameE s.index) t s.evals).length := by rw [Fsm.upto_len]; exact h.el
   obtain ⟨g, cur, hA, hob, hgb⟩ := own_at hown hul (i := t) (by rw [Fsm.upto_len]; exact htl)
   have hg0 : g ≠ w.heap.size := (hnE g hob).1
   have hget := Fsm.upto_get (Fsm.cameE s.index) htl
   have hnx := Fsm.upto_next (Fsm.cameE s.index) htl
   have hid := fun e => Fsm.upto_id (f := Fsm.cameE s.index) htl e
   generalize s.evals[t] = y at hget hnx hid
   obtain ⟨y0, y1, y2, y3⟩ := y
   rw [hA] at c6 hown
   have k2 : wr.cell? ⟨g, t * 4 + 2, none⟩ = some (.int .i64 y2) := own_cell ev_cells_len hown hul hget rfl
   have k2' : wr.cell? ⟨g, t * 4 + 1 + 1, none⟩ = some (.int .i64 y2) := k2
   have hk0 : (0 : Int) ≤ (t : Int) := by omega
   have hk1 : (t : Int) < s.nE := by omega
   have HT := Lib.hid hlt
   have HA := Lib.hid hA
   have HN := Lib.hid hnx
   have HI := Lib.hid hid
   have HG := Lib.hid hget
   have HU := Lib.hid hul
   clear hA hnx hid hget hul
   cases hq : (y2 == 2 || y2 == 1) with
   | false =>
    have he2 : (y2 == 2) = false := by revert hq; cases (y2 == 2) <;> simp
    have he1 : (y2 == 1) = false := by revert hq; cases (y2 == 2) <;> simp
    go_wp2
    go_roundw
    case rel => exact ⟨t + 1, HT.out, by go_num, by rw [HI.out (cameE_id hq), HA.out]; exact hown, hx⟩
    case measure => have := HT.out; simp [intOf]; omega
   | true =>
    have f2 : wr.frozen? ⟨g, t * 4 + 2, none⟩ = false := hgb.frozen _
    have hs1 : Ext (fun b => b = g) wr (wr.setCell ⟨g, t * 4 + 2, none⟩ (.int .i64 1)) := Ext.set1 _ _ _ _
    have own1 := own_set (x' := (⟨y0, y1, 1, y3⟩ : EvalD)) (j := 2) (u := .int .i64 1) ev_cells_len hown HU.out HG.out (by decide) rfl rfl
    have hl1 : s.nE = ((Fsm.upto (Fsm.cameE s.index) t s.evals).set t (⟨y0, y1, 1, y3⟩ : EvalD)).length := by rw [List.length_set]; exact HU.out
    have hg1 : ((Fsm.upto (Fsm.cameE s.index) t s.evals).set t (⟨y0, y1, 1, y3⟩ : EvalD))[t]? = some ⟨y0, y1, 1, y3⟩ := by rw [List.getElem?_set]; simp; have := HU.out; omega
    have own2 := own_set (x' := (⟨y0, y1, 1, s.index⟩ : EvalD)) (j := 3) (u := .int .i64 s.index) ev_cells_len own1 hl1 hg1 (by decide) rfl rfl
    have d6 : (wr.setCell ⟨g, t * 4 + 2, none⟩ (.int .i64 1)).cell? ⟨w.heap.size, 6, none⟩ = some (.slice (some ⟨g, 0, none⟩) s.nE s.cE) := hs1.cell c6 (fun e => hg0 e.symm)
    have d0 : (wr.setCell ⟨g, t * 4 + 2, none⟩ (.int .i64 1)).cell? ⟨w.heap.size, 0, none⟩ = some (.int .i64 s.index) := hs1.cell c0 (fun e => hg0 e.symm)
    have d3 : (wr.setCell ⟨g, t * 4 + 2, none⟩ (.int .i64 1)).cell? ⟨g, t * 4 + 3, none⟩ = some (.int .i64 y3) := own_cell ev_cells_len own1 hl1 hg1 rfl
    have hgb1 := hgb.set_ (t * 4 + 2) (.int .i64 1)
    have f3 : (wr.setCell ⟨g, t * 4 + 2, none⟩ (.int .i64 1)).frozen? ⟨g, t * 4 + 3, none⟩ = false := hgb1.frozen _
    have hxx : Ext (fun b => (vE s).ownBlock = some b) W ((wr.setCell ⟨g, t * 4 + 2, none⟩ (.int .i64 1)).setCell ⟨g, t * 4 + 3, none⟩ (.int .i64 s.index)) := (hx.setCell (p := ⟨g, t * 4 + 2, none⟩) (.inr hob) _).setCell (p := ⟨g, t * 4 + 3, none⟩) (.inr hob) _
    have HF := Lib.hid (show (Fsm.upto (Fsm.cameE s.index) (t + 1) s.evals) = (((Fsm.upto (Fsm.cameE s.index) t s.evals).set t (⟨y0, y1, 1, y3⟩ : EvalD)).set t ⟨y0, y1, 1, s.index⟩) by rw [HN.out, List.set_set, cameE_turn hq])
    clear hl1 hg1
    cases he2 : (y2 == 2) with
    | true =>
     go_wp2
     go_roundw
     case rel => exact ⟨t + 1, HT.out, by go_num, by rw [HF.out, HA.out]; exact own2, hxx⟩
     case measure => have := HT.out; simp [intOf]; omega
    | false =>
     have he1 : (y2 == 1) = true := by rw [he2] at hq; simpa using hq
     go_wp2
     go_roundw
     case rel => exact ⟨t + 1, HT.out, by go_num, by rw [HF.out, HA.out]; exact own2, hxx⟩
     case measure => have := HT.out; simp [intOf]; omega
  ·have hnl : ¬ ((t : Int) < s.nE) := by omega
   have hal : Fsm.upto (Fsm.cameE s.index) t s.evals = s.evals.map (Fsm.cameE s.index) := Fsm.upto_all _ (by have := hel.out; omega)
   rw [hal] at hown
   clear hal
   go_wp2_with (first | go_skip | ((with_reducible refine isW ?_); refine wpList_load_blk rfl 30 _ rfl STStore w.heap.size rfl s.arr hB rfl ?_) | ((with_reducible refine isW ?_); refine wpList_store_blk rfl 30 _ _ rfl STStore (w.heap.size + 1) rfl s.arr rfl hR rfl rfl rfl ?_; intro w2 hR2 hx2))
   have hSw : ∀ b, (vE s).ownBlock = some b → b < w.heap.size := fun b hb => own_lt h.e hb
   have hxA : Ext (fun b => (vE s).ownBlock = some b) w wr := (hx0.mono (S' := fun b => (vE s).ownBlock = some b) (fun _ _ e => e.elim)).trans hx (fun b hb e => e)
   have hx3 : Ext (fun b => (vE s).ownBlock = some b) w w2 := hxA.trans hx2 (fun b hb e => absurd (show b = w.heap.size + 1 from e) (by omega))
   have ho := own_ext hown hx2 (fun g hg e => (hnE g hg).2 e)
   have hlm : s.nE = (s.evals.map (Fsm.cameE s.index)).length := by rw [List.length_map]; exact h.el
   have he : s.setE s.AE s.cE (s.evals.map (Fsm.cameE s.index)) = ({ s with evals := s.evals.map (Fsm.cameE s.index) } : StoreV) := by unfold StoreV.setE; rw [← hlm]
   have k := h.wE hx3 (Apart.row h.e (by decide)) (A := s.AE) (c := s.cE) (l := s.evals.map (Fsm.cameE s.index)) (by rw [← hlm]; exact ho)
   rw [he] at k
   exact bodyPost_ret (results_cell rfl STStore (g := w.heap.size + 1) rfl hR2 rfl) rfl ⟨{ s with evals := s.evals.map (Fsm.cameE s.index) }, rfl, k, came_data s, ⟨s.AE, s.nE, s.cE, _, rfl⟩, hx3⟩
end
section
open Go.RowKit
theorem OwnS.inN {base : Nat} {W W' : World} {s : StoreV} {l : List NodD} (h : OwnS base W s) (hx : Ext (fun q => (vN s).ownBlock = some q) W W') (o : W'.ownsRow base 43 8 (.slice s.AN s.nN s.cN) s.nN (l.flatMap NodD.cells)) (hn : s.nN = l.length) : OwnS base W' { s with nodes := l } := by
 have hS : Apart W (fun q => (vN s).ownBlock = some q) [39, 116, 58, 76, 97, 67] := Apart.row h.n (by decide)
 exact ⟨h.j.keep hx (hS.less (by decide)), h.jl, h.t.keep hx (hS.less (by decide)), h.tl, (show W'.ownsRow base _ _ (.slice s.AN s.nN s.cN) l.length _ from hn ▸ o), hn, own_apart h.a hx (hS.less (by decide)), h.al, own_apart h.e hx (hS.less (by decide)), h.el, own_apart h.d hx (hS.less (by decide)), h.dl, own_apart h.x hx (hS.less (by decide)), h.xl, h.xa, h.sep⟩
theorem OwnS.putN {base : Nat} {W : World} {s : StoreV} (h : OwnS base W s) {i : Nat} {x : NodD} (hi : s.nodes[i]? = some x) : ∃ g cur, s.AN = some ⟨g, 0, none⟩ ∧ (vN s).ownBlock = some g ∧ Blk W g 43 cur ∧ (i : Int) < s.nN ∧
  (∀ j u, (NodD.cells x)[j]? = some u → W.cell? ⟨g, i * 8 + j, none⟩ = some u) ∧
  (∀ j u x', j < 8 → NodD.cells x' = (NodD.cells x).set j u → OwnS base (W.setCell ⟨g, i * 8 + j, none⟩ u) { s with nodes := s.nodes.set i x' }) := by
 have hlt := (List.getElem?_eq_some_iff.1 hi).1
 have ho : W.ownsRow base 43 8 (.slice s.AN s.nN s.cN) s.nN (s.nodes.flatMap NodD.cells) := by have := h.n; rwa [← h.nl] at this
 obtain ⟨g, cur, hA, hob, hg⟩ := own_at ho h.nl hlt
 have ho2 := ho
 rw [hA] at ho2
 refine ⟨g, cur, hA, hob, hg, by have := h.nl; omega, fun j u hu => own_cell (f := NodD.cells) (sz := 8) (fun _ => rfl) ho2 h.nl hi hu, fun j u x' hj hx' => ?_⟩
 exact h.inN ((Ext.set1 W g (i * 8 + j) u).mono (fun b _ e => by rw [show b = g from e]; exact hob)) (own_set (f := NodD.cells) (sz := 8) (x' := x') (fun _ => rfl) ho h.nl hi hj hx' hA) (by rw [List.length_set]; exact h.nl)
theorem OwnS.inA {base : Nat} {W W' : World} {s : StoreV} {l : List AllocD} (h : OwnS base W s) (hx : Ext (fun q => (vA s).ownBlock = some q) W W') (o : W'.ownsRow base 58 11 (.slice s.AA s.nA s.cA) s.nA (l.flatMap AllocD.cells)) (hn : s.nA = l.length) : OwnS base W' { s with allocs := l } := by
 have hS : Apart W (fun q => (vA s).ownBlock = some q) [39, 116, 43, 76, 97, 67] := Apart.row h.a (by decide)
 exact ⟨h.j.keep hx (hS.less (by decide)), h.jl, h.t.keep hx (hS.less (by decide)), h.tl, own_apart h.n hx (hS.less (by decide)), h.nl, (show W'.ownsRow base _ _ (.slice s.AA s.nA s.cA) l.length _ from hn ▸ o), hn, own_apart h.e hx (hS.less (by decide)), h.el, own_apart h.d hx (hS.less (by decide)), h.dl, own_apart h.x hx (hS.less (by decide)), h.xl, h.xa, h.sep⟩
theorem OwnS.putA {base : Nat} {W : World} {s : StoreV} (h : OwnS base W s) {i : Nat} {x : AllocD} (hi : s.allocs[i]? = some x) : ∃ g cur, s.AA = some ⟨g, 0, none⟩ ∧ (vA s).ownBlock = some g ∧ Blk W g 58 cur ∧ (i : Int) < s.nA ∧
  (∀ j u, (AllocD.cells x)[j]? = some u → W.cell? ⟨g, i * 11 + j, none⟩ = some u) ∧
  (∀ j u x', j < 11 → AllocD.cells x' = (AllocD.cells x).set j u → OwnS base (W.setCell ⟨g, i * 11 + j, none⟩ u) { s with allocs := s.allocs.set i x' }) := by
 have hlt := (List.getElem?_eq_some_iff.1 hi).1
 have ho : W.ownsRow base 58 11 (.slice s.AA s.nA s.cA) s.nA (s.allocs.flatMap AllocD.cells) := by have := h.a; rwa [← h.al] at this
 obtain ⟨g, cur, hA, hob, hg⟩ := own_at ho h.al hlt
 have ho2 := ho
 rw [hA] at ho2
 refine ⟨g, cur, hA, hob, hg, by have := h.al; omega, fun j u hu => own_cell (f := AllocD.cells) (sz := 11) (fun _ => rfl) ho2 h.al hi hu, fun j u x' hj hx' => ?_⟩
 exact h.inA ((Ext.set1 W g (i * 11 + j) u).mono (fun b _ e => by rw [show b = g from e]; exact hob)) (own_set (f := AllocD.cells) (sz := 11) (x' := x') (fun _ => rfl) ho h.al hi hj hx' hA) (by rw [List.length_set]; exact h.al)
theorem OwnS.inE {base : Nat} {W W' : World} {s : StoreV} {l : List EvalD} (h : OwnS base W s) (hx : Ext (fun q => (vE s).ownBlock = some q) W W') (o : W'.ownsRow base 76 4 (.slice s.AE s.nE s.cE) s.nE (l.flatMap EvalD.cells)) (hn : s.nE = l.length) : OwnS base W' { s with evals := l } := by
 have hS : Apart W (fun q => (vE s).ownBlock = some q) [39, 116, 43, 58, 97, 67] := Apart.row h.e (by decide)
 exact ⟨h.j.keep hx (hS.less (by decide)), h.jl, h.t.keep hx (hS.less (by decide)), h.tl, own_apart h.n hx (hS.less (by decide)), h.nl, own_apart h.a hx (hS.less (by decide)), h.al, (show W'.ownsRow base _ _ (.slice s.AE s.nE s.cE) l.length _ from hn ▸ o), hn, own_apart h.d hx (hS.less (by decide)), h.dl, own_apart h.x hx (hS.less (by decide)), h.xl, h.xa, h.sep⟩
theorem OwnS.putE {base : Nat} {W : World} {s : StoreV} (h : OwnS base W s) {i : Nat} {x : EvalD} (hi : s.evals[i]? = some x) : ∃ g cur, s.AE = some ⟨g, 0, none⟩ ∧ (vE s).ownBlock = some g ∧ Blk W g 76 cur ∧ (i : Int) < s.nE ∧
  (∀ j u, (EvalD.cells x)[j]? = some u → W.cell? ⟨g, i * 4 + j, none⟩ = some u) ∧
  (∀ j u x', j < 4 → EvalD.cells x' = (EvalD.cells x).set j u → OwnS base (W.setCell ⟨g, i * 4 + j, none⟩ u) { s with evals := s.evals.set i x' }) := by
 have hlt := (List.getElem?_eq_some_iff.1 hi).1
 have ho : W.ownsRow base 76 4 (.slice s.AE s.nE s.cE) s.nE (s.evals.flatMap EvalD.cells) := by have := h.e; rwa [← h.el] at this
 obtain ⟨g, cur, hA, hob, hg⟩ := own_at ho h.el hlt
 have ho2 := ho
 rw [hA] at ho2
 refine ⟨g, cur, hA, hob, hg, by have := h.el; omega, fun j u hu => own_cell (f := EvalD.cells) (sz := 4) (fun _ => rfl) ho2 h.el hi hu, fun j u x' hj hx' => ?_⟩
 exact h.inE ((Ext.set1 W g (i * 4 + j) u).mono (fun b _ e => by rw [show b = g from e]; exact hob)) (own_set (f := EvalD.cells) (sz := 4) (x' := x') (fun _ => rfl) ho h.el hi hj hx' hA) (by rw [List.length_set]; exact h.el)
theorem OwnS.inD {base : Nat} {W W' : World} {s : StoreV} {l : List DepD} (h : OwnS base W s) (hx : Ext (fun q => (vD s).ownBlock = some q) W W') (o : W'.ownsRow base 97 4 (.slice s.AD s.nD s.cD) s.nD (l.flatMap DepD.cells)) (hn : s.nD = l.length) : OwnS base W' { s with deploys := l } := by
 have hS : Apart W (fun q => (vD s).ownBlock = some q) [39, 116, 43, 58, 76, 67] := Apart.row h.d (by decide)
 exact ⟨h.j.keep hx (hS.less (by decide)), h.jl, h.t.keep hx (hS.less (by decide)), h.tl, own_apart h.n hx (hS.less (by decide)), h.nl, own_apart h.a hx (hS.less (by decide)), h.al, own_apart h.e hx (hS.less (by decide)), h.el, (show W'.ownsRow base _ _ (.slice s.AD s.nD s.cD) l.length _ from hn ▸ o), hn, own_apart h.x hx (hS.less (by decide)), h.xl, h.xa, h.sep⟩
theorem OwnS.putD {base : Nat} {W : World} {s : StoreV} (h : OwnS base W s) {i : Nat} {x : DepD} (hi : s.deploys[i]? = some x) : ∃ g cur, s.AD = some ⟨g, 0, none⟩ ∧ (vD s).ownBlock = some g ∧ Blk W g 97 cur ∧ (i : Int) < s.nD ∧
  (∀ j u, (DepD.cells x)[j]? = some u → W.cell? ⟨g, i * 4 + j, none⟩ = some u) ∧
  (∀ j u x', j < 4 → DepD.cells x' = (DepD.cells x).set j u → OwnS base (W.setCell ⟨g, i * 4 + j, none⟩ u) { s with deploys := s.deploys.set i x' }) := by
 have hlt := (List.getElem?_eq_some_iff.1 hi).1
 have ho : W.ownsRow base 97 4 (.slice s.AD s.nD s.cD) s.nD (s.deploys.flatMap DepD.cells) := by have := h.d; rwa [← h.dl] at this
 obtain ⟨g, cur, hA, hob, hg⟩ := own_at ho h.dl hlt
 have ho2 := ho
 rw [hA] at ho2
 refine ⟨g, cur, hA, hob, hg, by have := h.dl; omega, fun j u hu => own_cell (f := DepD.cells) (sz := 4) (fun _ => rfl) ho2 h.dl hi hu, fun j u x' hj hx' => ?_⟩
 exact h.inD ((Ext.set1 W g (i * 4 + j) u).mono (fun b _ e => by rw [show b = g from e]; exact hob)) (own_set (f := DepD.cells) (sz := 4) (x' := x') (fun _ => rfl) ho h.dl hi hj hx' hA) (by rw [List.length_set]; exact h.dl)
theorem OwnS.inJ {base : Nat} {W W' : World} {s : StoreV} {l : List JobV} (h : OwnS base W s) (hx : Ext (fun q => (vJ s).ownBlock = some q) W W') (o : W'.ownsRow base 39 7 (.slice s.AJ s.nJ s.cJ) s.nJ (l.flatMap JobV.cells)) (hn : s.nJ = l.length) (hg : ∀ y ∈ l, ∃ z ∈ s.jobs, y.2 = z.2 ∧ y.1.groups = z.1.groups) : OwnS base W' { s with jobs := l } := by
 have hjo := h.j.own
 have hS : Apart W (fun q => (vJ s).ownBlock = some q) [116, 43, 58, 76, 97, 67] := Apart.row hjo (by decide)
 refine ⟨⟨(show W'.ownsRow base _ _ (.slice s.AJ s.nJ s.cJ) l.length _ from hn ▸ o), fun y hy => ?_⟩, hn, ⟨own_ext h.t.own hx (fun g hg e => h.sep g e hg), fun y hy => (h.t.grp y hy).keep hx (hS.less (by decide))⟩, h.tl, own_apart h.n hx (hS.less (by decide)), h.nl, own_apart h.a hx (hS.less (by decide)), h.al, own_apart h.e hx (hS.less (by decide)), h.el, own_apart h.d hx (hS.less (by decide)), h.dl, own_apart h.x hx (hS.less (by decide)), h.xl, h.xa, h.sep⟩
 obtain ⟨z, hz, e1, e2⟩ := hg y hy
 obtain ⟨A, n, c, g1, g2, g3, g4⟩ := (h.j.grp z hz).keep hx (hS.less (by decide))
 exact ⟨A, n, c, e1.trans g1, by rw [e2]; exact g2, by rw [e2]; exact g3, g4⟩
theorem OwnS.putJ {base : Nat} {W : World} {s : StoreV} (h : OwnS base W s) {i : Nat} {x : JobV} (hi : s.jobs[i]? = some x) : ∃ g cur, s.AJ = some ⟨g, 0, none⟩ ∧ (vJ s).ownBlock = some g ∧ Blk W g 39 cur ∧ (i : Int) < s.nJ ∧
  (∀ j u, (JobV.cells x)[j]? = some u → W.cell? ⟨g, i * 7 + j, none⟩ = some u) ∧
  (∀ j u (x' : JobV), j < 7 → JobV.cells x' = (JobV.cells x).set j u → x'.2 = x.2 → x'.1.groups = x.1.groups → OwnS base (W.setCell ⟨g, i * 7 + j, none⟩ u) { s with jobs := s.jobs.set i x' }) := by
 have hlt := (List.getElem?_eq_some_iff.1 hi).1
 have ho : W.ownsRow base 39 7 (.slice s.AJ s.nJ s.cJ) s.nJ (s.jobs.flatMap JobV.cells) := by have := h.j.own; rwa [← h.jl] at this
 obtain ⟨g, cur, hA, hob, hg⟩ := own_at ho h.jl hlt
 have ho2 := ho
 rw [hA] at ho2
 refine ⟨g, cur, hA, hob, hg, by have := h.jl; omega, fun j u hu => own_cell (f := JobV.cells) (sz := 7) (fun _ => rfl) ho2 h.jl hi hu, fun j u x' hj hx' e1 e2 => ?_⟩
 refine h.inJ ((Ext.set1 W g (i * 7 + j) u).mono (fun b _ e => by rw [show b = g from e]; exact hob)) (own_set (f := JobV.cells) (sz := 7) (x' := x') (fun _ => rfl) ho h.jl hi hj hx' hA) (by rw [List.length_set]; exact h.jl) (fun y hy => ?_)
 rcases List.mem_or_eq_of_mem_set hy with hy | rfl
 ·exact ⟨y, hy, rfl, rfl⟩
 ·exact ⟨x, List.mem_of_getElem? hi, e1, e2⟩
theorem OwnS.wJ2 {base : Nat} {W W' : World} {s : StoreV} (h : OwnS base W s) (hx : Ext Nothing W W') {A : Option Addr} {c : Nat} {l : List JobV} (o : W'.ownsRow W.heap.size 39 7 (.slice A l.length c) l.length (l.flatMap JobV.cells)) (g : ∀ y ∈ l, GrpOk base W' y) (hb : base ≤ W.heap.size) : OwnS base W' (s.setJ A c l) :=
 have k := h.keep0 hx
 ⟨⟨own_base o hb, g⟩, rfl, k.t, h.tl, k.n, h.nl, k.a, h.al, k.e, h.el, k.d, h.dl, k.x, h.xl, h.xa, fun q hq hs => by
  have h1 := own_ge o hq
  have h2 := own_lt h.t.own hs
  omega⟩
theorem OwnS.wT2 {base : Nat} {W W' : World} {s : StoreV} (h : OwnS base W s) (hx : Ext Nothing W W') {A : Option Addr} {c : Nat} {l : List JobV} (o : W'.ownsRow W.heap.size 39 7 (.slice A l.length c) l.length (l.flatMap JobV.cells)) (g : ∀ y ∈ l, GrpOk base W' y) (hb : base ≤ W.heap.size) : OwnS base W' (s.setT A c l) :=
 have k := h.keep0 hx
 ⟨k.j, h.jl, ⟨own_base o hb, g⟩, rfl, k.n, h.nl, k.a, h.al, k.e, h.el, k.d, h.dl, k.x, h.xl, h.xa, fun q hq hs => by
  have h1 := own_ge o hs
  have h2 := own_lt h.j.own hq
  omega⟩
theorem putL_map (x : JobV) : ∀ l : List JobV, (Fsm.putL (fun x : JobV => x.1.id) x l).map (·.1) = Fsm.putL JobD.id x.1 (l.map (·.1))
 | [] => rfl
 | y :: r => by
  simp only [Fsm.putL, List.map_cons]
  by_cases h : x.1.id ≤ y.1.id
  ·rw [if_pos h, if_pos h, List.map_cons]
   congr 1
   rw [← List.map_cons, List.filter_map]
   rfl
  ·rw [if_neg h, if_neg h, List.map_cons, putL_map x r]
theorem GrpOk.slice {base : Nat} {W : World} {y : JobV} (h : GrpOk base W y) : ∃ A n c, y.2 = Value.slice A n c := by obtain ⟨A, n, c, e, _⟩ := h; exact ⟨A, n, c, e⟩
theorem GrpOk.sl {base : Nat} {W : World} {y : JobV} (h : GrpOk base W y) : ∃ A n c, y.2 = Value.slice A n c ∧ Sl W 3 A n (y.1.groups.map GroupD.cells) ∧ n = y.1.groups.length ∧ n ≤ 1048576 := by
 obtain ⟨A, n, c, e, o, hn, hb⟩ := h
 exact ⟨A, n, c, e, Sl.of_own (f := GroupD.cells) (sz := 3) (fun _ => rfl) o hn, hn, hb⟩
theorem GrpOk.new {base b : Nat} {W : World} {j : JobD} {A : Option Addr} {n c : Nat} (o : W.ownsRow b 116 3 (.slice A n c) n (j.groups.flatMap GroupD.cells)) (hn : n = j.groups.length) (hb : n ≤ 1048576) (h : base ≤ b) : GrpOk base W (j, .slice A n c) := ⟨A, n, c, rfl, own_base o h, hn, hb⟩
end
end Go.Proofs.YtlpfcmnnmdhaoaaGreat
