/- Stores: what a store that is handed in reads as. -/
import Derived.Test.YtfmkoemogicdkaaGreatRead
import Derived.Test.YtfmkoemogicdkaaGreatDiffK
namespace Go.Proofs.YtfmkoemogicdkaaGreat
set_option linter.unusedVariables false
set_option maxRecDepth 100000
open Go.RowKit Go.ChangeShapes Go.WideShapes Go.ChangeAt

theorem own_ : ownKnob Tryz.prog.godebug = none := by kernel_rfl
theorem in64_of {a : Int} (h : (Lit.int .i64 a).wf = true) : In64 a := by
  simpa [Lit.wf, IntKind.min, IntKind.max, IntKind.signed, IntKind.bits, In64] using h
def GroupD.ok (x : GroupD) : Prop := In64 x.count ∧ In64 x.ask.cpu ∧ In64 x.ask.mem
def NodD.ok (x : NodD) : Prop := In64 x.id ∧ In64 x.cap.cpu ∧ In64 x.cap.mem ∧ In64 x.boot ∧ In64 x.epoch ∧ In64 x.seq
def AllocD.ok (x : AllocD) : Prop := In64 x.id ∧ In64 x.job ∧ In64 x.ver ∧ In64 x.group ∧ In64 x.index ∧ In64 x.node ∧ In64 x.epoch ∧ In64 x.ask.cpu ∧ In64 x.ask.mem ∧ In64 x.state
def EvalD.ok (x : EvalD) : Prop := In64 x.job ∧ In64 x.prio ∧ In64 x.state ∧ In64 x.index
def DepD.ok (x : DepD) : Prop := In64 x.job ∧ In64 x.ver ∧ In64 x.state ∧ In64 x.index
/-- a job beside its slice, as it was handed in -/
def JobV.ok (w : World) (x : JobV) : Prop := (In64 x.1.id ∧ In64 x.1.ty ∧ In64 x.1.prio ∧ In64 x.1.par ∧ In64 x.1.ver) ∧ ∃ A n c, x.2 = .slice A n c ∧ Sl w 3 A n (x.1.groups.map GroupD.cells) ∧ (∀ g ∈ x.1.groups, g.ok) ∧ n ≤ 1048576
def SeenV.ok (w : World) (x : SeenV) : Prop := (In64 x.1.client ∧ In64 x.1.req ∧ In64 x.1.answer.code ∧ In64 x.1.answer.value) ∧ ∃ A n c, x.2 = .slice A n c ∧ Sl w 11 A n (x.1.answer.allocs.map AllocD.cells) ∧ (∀ a ∈ x.1.answer.allocs, a.ok) ∧ n ≤ 1048576

theorem foGroup : flatOk Tryz.prog 2 88 = true := by kernel_rfl
theorem ftGroup : flatT Tryz.prog 2 88 = [3, 3, 3] := by kernel_rfl
theorem cGroup : Tryz.prog.cellsOf 88 = 3 := by kernel_rfl
section
variable {H : Type} {enc : TypeId × Value → H} {w : World} {base : Nat} {spare : Nat → Bool} {held : Bool}
theorem group_read {B : Nat} (n : Nat) (cs : List Value) (y : DataW H × List MemPlace) (h : DataW.trod enc Tryz.prog w base spare held n 88 cs = some y) (hB : Rows.uptoBulk y.1 ≤ B) : ∃ x : GroupD, cs = x.cells ∧ x.ok := by
  have h1 := leaves (P := Tryz.prog) (d := 2) foGroup h hB
  rw [ftGroup] at h1
  match cs, h1 with
  | [c0, c1, c2], ⟨l0, l1, l2, _⟩ =>
    obtain ⟨a0, rfl, w0⟩ := l0.int Tryz.underlying3
    obtain ⟨a1, rfl, w1⟩ := l1.int Tryz.underlying3
    obtain ⟨a2, rfl, w2⟩ := l2.int Tryz.underlying3
    exact ⟨⟨a0, ⟨a1, a2⟩⟩, rfl, in64_of w0, in64_of w1, in64_of w2⟩
end

theorem foNode : flatOk Tryz.prog 2 37 = true := by kernel_rfl
theorem ftNode : flatT Tryz.prog 2 37 = [3, 3, 3, 4, 4, 3, 3, 3] := by kernel_rfl
theorem cNode : Tryz.prog.cellsOf 37 = 8 := by kernel_rfl
section
variable {H : Type} {enc : TypeId × Value → H} {w : World} {base : Nat} {spare : Nat → Bool} {held : Bool}
theorem node_read {B : Nat} (n : Nat) (cs : List Value) (y : DataW H × List MemPlace) (h : DataW.trod enc Tryz.prog w base spare held n 37 cs = some y) (hB : Rows.uptoBulk y.1 ≤ B) : ∃ x : NodD, cs = x.cells ∧ x.ok := by
  have h1 := leaves (P := Tryz.prog) (d := 2) foNode h hB
  rw [ftNode] at h1
  match cs, h1 with
  | [c0, c1, c2, c3, c4, c5, c6, c7], ⟨l0, l1, l2, l3, l4, l5, l6, l7, _⟩ =>
    obtain ⟨a0, rfl, w0⟩ := l0.int Tryz.underlying3
    obtain ⟨a1, rfl, w1⟩ := l1.int Tryz.underlying3
    obtain ⟨a2, rfl, w2⟩ := l2.int Tryz.underlying3
    obtain ⟨a3, rfl⟩ := l3.bool Tryz.underlying4
    obtain ⟨a4, rfl⟩ := l4.bool Tryz.underlying4
    obtain ⟨a5, rfl, w5⟩ := l5.int Tryz.underlying3
    obtain ⟨a6, rfl, w6⟩ := l6.int Tryz.underlying3
    obtain ⟨a7, rfl, w7⟩ := l7.int Tryz.underlying3
    exact ⟨⟨a0, ⟨a1, a2⟩, a3, a4, a5, a6, a7⟩, rfl, in64_of w0, in64_of w1, in64_of w2, in64_of w5, in64_of w6, in64_of w7⟩
end

theorem foAlloc : flatOk Tryz.prog 2 55 = true := by kernel_rfl
theorem ftAlloc : flatT Tryz.prog 2 55 = [3, 3, 3, 3, 3, 3, 3, 3, 3, 4, 3] := by kernel_rfl
theorem cAlloc : Tryz.prog.cellsOf 55 = 11 := by kernel_rfl
section
variable {H : Type} {enc : TypeId × Value → H} {w : World} {base : Nat} {spare : Nat → Bool} {held : Bool}
theorem alloc_read {B : Nat} (n : Nat) (cs : List Value) (y : DataW H × List MemPlace) (h : DataW.trod enc Tryz.prog w base spare held n 55 cs = some y) (hB : Rows.uptoBulk y.1 ≤ B) : ∃ x : AllocD, cs = x.cells ∧ x.ok := by
  have h1 := leaves (P := Tryz.prog) (d := 2) foAlloc h hB
  rw [ftAlloc] at h1
  match cs, h1 with
  | [c0, c1, c2, c3, c4, c5, c6, c7, c8, c9, c10], ⟨l0, l1, l2, l3, l4, l5, l6, l7, l8, l9, l10, _⟩ =>
    obtain ⟨a0, rfl, w0⟩ := l0.int Tryz.underlying3
    obtain ⟨a1, rfl, w1⟩ := l1.int Tryz.underlying3
    obtain ⟨a2, rfl, w2⟩ := l2.int Tryz.underlying3
    obtain ⟨a3, rfl, w3⟩ := l3.int Tryz.underlying3
    obtain ⟨a4, rfl, w4⟩ := l4.int Tryz.underlying3
    obtain ⟨a5, rfl, w5⟩ := l5.int Tryz.underlying3
    obtain ⟨a6, rfl, w6⟩ := l6.int Tryz.underlying3
    obtain ⟨a7, rfl, w7⟩ := l7.int Tryz.underlying3
    obtain ⟨a8, rfl, w8⟩ := l8.int Tryz.underlying3
    obtain ⟨a9, rfl⟩ := l9.bool Tryz.underlying4
    obtain ⟨a10, rfl, w10⟩ := l10.int Tryz.underlying3
    exact ⟨⟨a0, a1, a2, a3, a4, a5, a6, ⟨a7, a8⟩, a9, a10⟩, rfl, in64_of w0, in64_of w1, in64_of w2, in64_of w3, in64_of w4, in64_of w5, in64_of w6, in64_of w7, in64_of w8, in64_of w10⟩
end

theorem foEval : flatOk Tryz.prog 2 39 = true := by kernel_rfl
theorem ftEval : flatT Tryz.prog 2 39 = [3, 3, 3, 3] := by kernel_rfl
theorem cEval : Tryz.prog.cellsOf 39 = 4 := by kernel_rfl
section
variable {H : Type} {enc : TypeId × Value → H} {w : World} {base : Nat} {spare : Nat → Bool} {held : Bool}
theorem eval_read {B : Nat} (n : Nat) (cs : List Value) (y : DataW H × List MemPlace) (h : DataW.trod enc Tryz.prog w base spare held n 39 cs = some y) (hB : Rows.uptoBulk y.1 ≤ B) : ∃ x : EvalD, cs = x.cells ∧ x.ok := by
  have h1 := leaves (P := Tryz.prog) (d := 2) foEval h hB
  rw [ftEval] at h1
  match cs, h1 with
  | [c0, c1, c2, c3], ⟨l0, l1, l2, l3, _⟩ =>
    obtain ⟨a0, rfl, w0⟩ := l0.int Tryz.underlying3
    obtain ⟨a1, rfl, w1⟩ := l1.int Tryz.underlying3
    obtain ⟨a2, rfl, w2⟩ := l2.int Tryz.underlying3
    obtain ⟨a3, rfl, w3⟩ := l3.int Tryz.underlying3
    exact ⟨⟨a0, a1, a2, a3⟩, rfl, in64_of w0, in64_of w1, in64_of w2, in64_of w3⟩
end

theorem foDeploy : flatOk Tryz.prog 2 69 = true := by kernel_rfl
theorem ftDeploy : flatT Tryz.prog 2 69 = [3, 3, 3, 3] := by kernel_rfl
theorem cDeploy : Tryz.prog.cellsOf 69 = 4 := by kernel_rfl
section
variable {H : Type} {enc : TypeId × Value → H} {w : World} {base : Nat} {spare : Nat → Bool} {held : Bool}
theorem deploy_read {B : Nat} (n : Nat) (cs : List Value) (y : DataW H × List MemPlace) (h : DataW.trod enc Tryz.prog w base spare held n 69 cs = some y) (hB : Rows.uptoBulk y.1 ≤ B) : ∃ x : DepD, cs = x.cells ∧ x.ok := by
  have h1 := leaves (P := Tryz.prog) (d := 2) foDeploy h hB
  rw [ftDeploy] at h1
  match cs, h1 with
  | [c0, c1, c2, c3], ⟨l0, l1, l2, l3, _⟩ =>
    obtain ⟨a0, rfl, w0⟩ := l0.int Tryz.underlying3
    obtain ⟨a1, rfl, w1⟩ := l1.int Tryz.underlying3
    obtain ⟨a2, rfl, w2⟩ := l2.int Tryz.underlying3
    obtain ⟨a3, rfl, w3⟩ := l3.int Tryz.underlying3
    exact ⟨⟨a0, a1, a2, a3⟩, rfl, in64_of w0, in64_of w1, in64_of w2, in64_of w3⟩
end

theorem foJob : flatOk Tryz.prog 2 43 = true := by kernel_rfl
theorem ftJob : flatT Tryz.prog 2 43 = [3, 3, 3, 3, 41, 3, 4] := by kernel_rfl
theorem cJob : Tryz.prog.cellsOf 43 = 7 := by kernel_rfl
section
variable {H : Type} {enc : TypeId × Value → H} {w : World} {base : Nat} {spare : Nat → Bool} {held : Bool}
theorem job_read {B : Nat} (hB1 : B ≤ 1048577) (n : Nat) (cs : List Value) (y : DataW H × List MemPlace) (h : DataW.trod enc Tryz.prog w base spare held n 43 cs = some y) (hB : Rows.uptoBulk y.1 ≤ B) : ∃ x : JobV, cs = x.cells ∧ JobV.ok w x := by
  have h1 := leaves (P := Tryz.prog) (d := 2) foJob h hB
  rw [ftJob] at h1
  match cs, h1 with
  | [c0, c1, c2, c3, c4, c5, c6], ⟨l0, l1, l2, l3, l4, l5, l6, _⟩ =>
    obtain ⟨a0, rfl, w0⟩ := l0.int Tryz.underlying3
    obtain ⟨a1, rfl, w1⟩ := l1.int Tryz.underlying3
    obtain ⟨a2, rfl, w2⟩ := l2.int Tryz.underlying3
    obtain ⟨a3, rfl, w3⟩ := l3.int Tryz.underlying3
    obtain ⟨A4, n4, k4, xs4, rfl, hs4, hk4, hn4, _⟩ := Leaf.slice GroupD.cells GroupD.ok Tryz.underlying41 cGroup (by decide) group_read l4
    obtain ⟨a5, rfl, w5⟩ := l5.int Tryz.underlying3
    obtain ⟨a6, rfl⟩ := l6.bool Tryz.underlying4
    exact ⟨(⟨a0, a1, a2, a3, xs4, a5, a6⟩, .slice A4 n4 k4), rfl, ⟨in64_of w0, in64_of w1, in64_of w2, in64_of w3, in64_of w5⟩, A4, n4, k4, rfl, hs4, hk4, by omega⟩
end

theorem foSeen : flatOk Tryz.prog 2 49 = true := by kernel_rfl
theorem ftSeen : flatT Tryz.prog 2 49 = [3, 3, 45, 3, 24] := by kernel_rfl
theorem cSeen : Tryz.prog.cellsOf 49 = 5 := by kernel_rfl
section
variable {H : Type} {enc : TypeId × Value → H} {w : World} {base : Nat} {spare : Nat → Bool} {held : Bool}
theorem seen_read {B : Nat} (hB1 : B ≤ 1048577) (n : Nat) (cs : List Value) (y : DataW H × List MemPlace) (h : DataW.trod enc Tryz.prog w base spare held n 49 cs = some y) (hB : Rows.uptoBulk y.1 ≤ B) : ∃ x : SeenV, cs = x.cells ∧ SeenV.ok w x := by
  have h1 := leaves (P := Tryz.prog) (d := 2) foSeen h hB
  rw [ftSeen] at h1
  match cs, h1 with
  | [c0, c1, c2, c3, c4], ⟨l0, l1, l2, l3, l4, _⟩ =>
    obtain ⟨a0, rfl, w0⟩ := l0.int Tryz.underlying3
    obtain ⟨a1, rfl, w1⟩ := l1.int Tryz.underlying3
    obtain ⟨a2, rfl, w2⟩ := l2.int Tryz.underlying45
    obtain ⟨a3, rfl, w3⟩ := l3.int Tryz.underlying3
    obtain ⟨A4, n4, k4, xs4, rfl, hs4, hk4, hn4, _⟩ := Leaf.slice AllocD.cells AllocD.ok Tryz.underlying24 cAlloc (by decide) alloc_read l4
    exact ⟨(⟨a0, a1, ⟨a2, a3, xs4⟩⟩, .slice A4 n4 k4), rfl, ⟨in64_of w0, in64_of w1, in64_of w2, in64_of w3⟩, A4, n4, k4, rfl, hs4, hk4, by omega⟩
end

/-- A STORE that is handed in: its rows, wherever they lie. -/
structure StoreV where
  index : Int
  next : Int
  AJ : Option Addr
  nJ : Nat
  cJ : Nat
  jobs : List JobV
  AS : Option Addr
  nS : Nat
  cS : Nat
  stable : List JobV
  AN : Option Addr
  nN : Nat
  cN : Nat
  nodes : List NodD
  AA : Option Addr
  nA : Nat
  cA : Nat
  allocs : List AllocD
  AE : Option Addr
  nE : Nat
  cE : Nat
  evals : List EvalD
  AD : Option Addr
  nD : Nat
  cD : Nat
  deploys : List DepD
  AX : Option Addr
  nX : Nat
  cX : Nat
  seen : List SeenV
def StoreV.cells (s : StoreV) : List Value := [.int .i64 s.index, .int .i64 s.next, .slice s.AJ s.nJ s.cJ, .slice s.AS s.nS s.cS, .slice s.AN s.nN s.cN, .slice s.AA s.nA s.cA, .slice s.AE s.nE s.cE, .slice s.AD s.nD s.cD, .slice s.AX s.nX s.cX]
structure StoreV.Ok (w : World) (s : StoreV) : Prop where
  sJ : Sl w 7 s.AJ s.nJ (s.jobs.map JobV.cells)
  kJ : ∀ x ∈ s.jobs, JobV.ok w x
  mJ : s.nJ ≤ 1048576
  sS : Sl w 7 s.AS s.nS (s.stable.map JobV.cells)
  kS : ∀ x ∈ s.stable, JobV.ok w x
  mS : s.nS ≤ 1048576
  sN : Sl w 8 s.AN s.nN (s.nodes.map NodD.cells)
  kN : ∀ x ∈ s.nodes, x.ok
  mN : s.nN ≤ 1048576
  sA : Sl w 11 s.AA s.nA (s.allocs.map AllocD.cells)
  kA : ∀ x ∈ s.allocs, x.ok
  mA : s.nA ≤ 1048576
  sE : Sl w 4 s.AE s.nE (s.evals.map EvalD.cells)
  kE : ∀ x ∈ s.evals, x.ok
  mE : s.nE ≤ 1048576
  sD : Sl w 4 s.AD s.nD (s.deploys.map DepD.cells)
  kD : ∀ x ∈ s.deploys, x.ok
  mD : s.nD ≤ 1048576
  sX : Sl w 5 s.AX s.nX (s.seen.map SeenV.cells)
  kX : ∀ x ∈ s.seen, SeenV.ok w x
  mX : s.nX ≤ 1048576

theorem JobV.ok.ext0 {w w' : World} {x : JobV} (h : JobV.ok w x) (hx : Ext Nothing w w') : JobV.ok w' x := by
  obtain ⟨h0, A, n, c, h1, h2, h3, h4⟩ := h
  exact ⟨h0, A, n, c, h1, h2.ext0 hx, h3, h4⟩
theorem SeenV.ok.ext0 {w w' : World} {x : SeenV} (h : SeenV.ok w x) (hx : Ext Nothing w w') : SeenV.ok w' x := by
  obtain ⟨h0, A, n, c, h1, h2, h3, h4⟩ := h
  exact ⟨h0, A, n, c, h1, h2.ext0 hx, h3, h4⟩
theorem StoreV.Ok.ext0 {w w' : World} {s : StoreV} (h : s.Ok w) (hx : Ext Nothing w w') : s.Ok w' :=
  ⟨h.sJ.ext0 hx, fun x hm => (h.kJ x hm).ext0 hx, h.mJ, h.sS.ext0 hx, fun x hm => (h.kS x hm).ext0 hx, h.mS, h.sN.ext0 hx, h.kN, h.mN, h.sA.ext0 hx, h.kA, h.mA, h.sE.ext0 hx, h.kE, h.mE, h.sD.ext0 hx, h.kD, h.mD, h.sX.ext0 hx, fun x hm => (h.kX x hm).ext0 hx, h.mX⟩
theorem foStore : flatOk Tryz.prog 2 29 = true := by kernel_rfl
theorem ftStore : flatT Tryz.prog 2 29 = [3, 3, 22, 22, 23, 24, 25, 26, 27] := by kernel_rfl
/-- what a store as an argument gives -/
theorem store_open {H : Type} {enc : TypeId × Value → H} {W : World} {base : Nat} {v0 : Value} {d0 : DataW H} {p0 : List MemPlace} (hv : Value.okWide Tryz.prog W .any base 29 v0) (h0 : DataW.Trod enc Tryz.prog W 0 (fun _ => true) true 29 v0 d0 p0) (hk : Rows.uptoBulk d0 ≤ 1048577) :
    ∃ s : StoreV, v0 = .agg s.cells.toArray ∧ s.Ok W := by
  obtain ⟨cs, rfl, hsz⟩ := okWide_struct Tryz.underlying29 hv
  obtain ⟨fuel, hf⟩ := h0
  have h1 := leaves (B := 1048577) foStore hf hk
  rw [ftStore] at h1
  have hcs : (Value.agg cs).cells.toList = cs.toList := rfl
  rw [hcs] at h1
  clear hf hsz hv
  obtain ⟨ls, rfl⟩ : ∃ ls : List Value, cs = ls.toArray := ⟨cs.toList, by simp⟩
  simp only [List.toList_toArray] at h1
  match ls, h1 with
  | [c0, c1, c2, c3, c4, c5, c6, c7, c8], ⟨l0, l1, l2, l3, l4, l5, l6, l7, l8, _⟩ =>
    obtain ⟨a0, rfl, w0⟩ := l0.int Tryz.underlying3
    obtain ⟨a1, rfl, w1⟩ := l1.int Tryz.underlying3
    obtain ⟨A2, n2, k2, x2, rfl, s2, o2, m2, _⟩ := Leaf.slice JobV.cells (JobV.ok W) Tryz.underlying22 cJob (by decide) (job_read (by decide)) l2
    obtain ⟨A3, n3, k3, x3, rfl, s3, o3, m3, _⟩ := Leaf.slice JobV.cells (JobV.ok W) Tryz.underlying22 cJob (by decide) (job_read (by decide)) l3
    obtain ⟨A4, n4, k4, x4, rfl, s4, o4, m4, _⟩ := Leaf.slice NodD.cells NodD.ok Tryz.underlying23 cNode (by decide) node_read l4
    obtain ⟨A5, n5, k5, x5, rfl, s5, o5, m5, _⟩ := Leaf.slice AllocD.cells AllocD.ok Tryz.underlying24 cAlloc (by decide) alloc_read l5
    obtain ⟨A6, n6, k6, x6, rfl, s6, o6, m6, _⟩ := Leaf.slice EvalD.cells EvalD.ok Tryz.underlying25 cEval (by decide) eval_read l6
    obtain ⟨A7, n7, k7, x7, rfl, s7, o7, m7, _⟩ := Leaf.slice DepD.cells DepD.ok Tryz.underlying26 cDeploy (by decide) deploy_read l7
    obtain ⟨A8, n8, k8, x8, rfl, s8, o8, m8, _⟩ := Leaf.slice SeenV.cells (SeenV.ok W) Tryz.underlying27 cSeen (by decide) (seen_read (by decide)) l8
    exact ⟨⟨a0, a1, A2, n2, k2, x2, A3, n3, k3, x3, A4, n4, k4, x4, A5, n5, k5, x5, A6, n6, k6, x6, A7, n7, k7, x7, A8, n8, k8, x8⟩, rfl,
      ⟨s2, o2, by simp only; omega, s3, o3, by simp only; omega, s4, o4, by simp only; omega, s5, o5, by simp only; omega, s6, o6, by simp only; omega, s7, o7, by simp only; omega, s8, o8, by simp only; omega⟩⟩
end Go.Proofs.YtfmkoemogicdkaaGreat
