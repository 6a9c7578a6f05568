/- The reading of a law's script: a list of steps. -/
import Derived.Test.YtlfpfhdagkkliaaDoorDkO
import Derived.Test.YtlfpfhdagkkliaaDoorRead
namespace Go.Proofs.YtlfpfhdagkkliaaDoor
set_option linter.unusedVariables false
set_option linter.unusedSimpArgs false
open Go.RowKit Go.ChangeShapes Go.WideShapes Go.ChangeAt Go.Deep

theorem own_ : ownKnob Tryd.prog.godebug = none := by kernel_rfl
theorem in64_wf {a : Int} (h : (Lit.int .i64 a).wf = true) : In64 a := by
  simpa [Lit.wf, IntKind.min, IntKind.max, IntKind.signed, IntKind.bits, In64] using h
/-- a table's cells -/
def flatD : Nat → DataW Unit → List Value
  | 0, _ => []
  | _ + 1, .lit (.int k a) => [.int k a]
  | n + 1, .agg l => l.flatMap (flatD n)
  | _ + 1, _ => []
def layD (d : DataW Unit) : Obj → Obj
  | .cells _ t frozen => .cells (flatD 5 d).toArray t frozen
  | o => o
/-- a world that holds the program's tables, for the witness -/
noncomputable def laidWorld (os : Os) : World :=
  { World.holding Tryd.prog os ⟨#[], #[], []⟩ with heap := ((World.holding Tryd.prog os ⟨#[], #[], []⟩).heap.modify ((Tryd.prog.globalNamed "unicode/utf8.acceptRanges").getD 0) (layD Rows.laid_unicode_utf8_acceptRanges)).modify ((Tryd.prog.globalNamed "unicode/utf8.first").getD 0) (layD Rows.laid_unicode_utf8_first) }
theorem foOp : flatOk Tryd.prog 1 31 = true := by kernel_rfl
theorem ftOp : flatT Tryd.prog 1 31 = [3, 9, 9, 29, 3] := by kernel_rfl
theorem cOp : Tryd.prog.cellsOf 31 = 5 := by kernel_rfl
theorem cByte : Tryd.prog.cellsOf 5 = 1 := by kernel_rfl
theorem foByte : flatOk Tryd.prog 0 5 = true := by kernel_rfl
section
variable {H : Type} {enc : TypeId × Value → H} {w : World} {base : Nat} {spare : Nat → Bool} {held : Bool}
theorem Leaf.str {P : Program} {B : Nat} {t : TypeId} {c : Value} (ht : P.underlying t = some .string) (h : Leaf enc P w base spare held B t c) : ∃ s : List UInt8, c = strV s ∧ s.length ≤ maxLen := by
  obtain ⟨n, y, h1, _⟩ := h
  obtain ⟨s, e1, _, e2⟩ := DataW.trod_string ht h1
  refine ⟨s.data.toList, ?_, by rw [Array.length_toList]; exact e2⟩
  have e1 : c = .string s := by simpa using e1
  rw [e1]
theorem Leaf.cap {P : Program} {B : Nat} {t e : TypeId} {A : Option Addr} {n c : Nat} (ht : P.underlying t = some (.slice e)) (h : Leaf enc P w base spare held B t (.slice A n c)) : n ≤ c := by
  obtain ⟨k, y, h1, _⟩ := h
  rcases open_slice ht h1 with ⟨e1, _⟩ | ⟨a, len, cap, m, n', D, Pl, e1, _, hl, _⟩
  · simp at e1
    omega
  · simp at e1
    omega
set_option maxRecDepth 20000 in
theorem byte_read {B : Nat} (n : Nat) (cs : List Value) (y : DataW H × List MemPlace) (h : DataW.trod enc Tryd.prog w base spare held n 5 cs = some y) (hB : Rows.uptoBulk y.1 ≤ B) : ∃ x : UInt8, cs = bCell x ∧ True := by
  obtain ⟨a, e1, _, e2⟩ := DataW.trod_int Tryd.underlying5 h
  refine ⟨UInt8.ofNat a.toNat, ?_, trivial⟩
  have h1 : 0 ≤ a ∧ a < 256 := by
    simp [Lit.wf, IntKind.min, IntKind.max, IntKind.signed, IntKind.bits] at e2
    omega
  rw [e1]
  show [Value.int .u8 a] = [Value.int .u8 ((UInt8.ofNat a.toNat).toNat : Int)]
  congr 2
  simp
  omega
set_option maxRecDepth 20000 in
theorem op_read {B : Nat} (hB1 : B ≤ 1048577) (n : Nat) (cs : List Value) (y : DataW H × List MemPlace) (h : DataW.trod enc Tryd.prog w base spare held n 31 cs = some y) (hB : Rows.uptoBulk y.1 ≤ B) : ∃ x : OpC, cs = x.cells ∧ x.Read w := by
  have h1 := leaves (P := Tryd.prog) (d := 1) foOp h hB
  rw [ftOp] at h1
  match cs, h1 with
  | [c0, c1, c2, c3, c4], ⟨l0, l1, l2, l3, l4, _⟩ =>
    obtain ⟨a0, rfl, w0⟩ := l0.int Tryd.underlying3
    obtain ⟨s1, rfl, w1⟩ := Leaf.str Tryd.underlying9 l1
    obtain ⟨s2, rfl, w2⟩ := Leaf.str Tryd.underlying9 l2
    have l3' := l3
    obtain ⟨A3, n3, k3, x3, rfl, s3, o3, m3, _⟩ := Leaf.slice bCell (fun _ => True) Tryd.underlying29 cByte (by decide) byte_read l3
    obtain ⟨a4, rfl, w4⟩ := l4.int Tryd.underlying3
    exact ⟨⟨a0, s1, s2, x3, a4, A3, n3, k3⟩, rfl, in64_wf w0, w1, w2, s3, by simp only; omega, in64_wf w4, l3'.cap Tryd.underlying29⟩
end
set_option maxRecDepth 100000 in
theorem ops_open {B : Nat} (hB1 : B ≤ 1048577) {H : Type} {enc : TypeId × Value → H} {W : World} {base : Nat} {v0 : Value} {d0 : DataW H} {p0 : List MemPlace} (hv : Value.okWide Tryd.prog W .any base 22 v0) (h0 : DataW.Trod enc Tryd.prog W 0 (fun _ => true) true 22 v0 d0 p0) (hk : Rows.uptoBulk d0 ≤ B) :
    ∃ A n cap, ∃ l : List OpC, v0 = .slice A n cap ∧ Sl W 5 A n (l.map OpC.cells) ∧ (∀ x ∈ l, x.Read W) ∧ n + 1 ≤ B := by
  obtain ⟨A, n, cap, rfl⟩ := okWide_slice Tryd.underlying22 hv
  obtain ⟨fuel, hf⟩ := h0
  obtain ⟨A', n', cap', l, e1, hl, hok, hn, hm⟩ := Leaf.slice (B := B) OpC.cells (OpC.Read W) Tryd.underlying22 cOp (by decide) (op_read hB1) ⟨fuel, _, hf, hk⟩
  injection e1 with e1 e2 e3
  subst e1 e2 e3
  exact ⟨A, n, cap, l, rfl, hl, hok, hn⟩
set_option maxRecDepth 100000 in
theorem op_open {H : Type} {enc : TypeId × Value → H} {W : World} {base : Nat} {v0 : Value} {d0 : DataW H} {p0 : List MemPlace} (hv : Value.okWide Tryd.prog W .any base 31 v0) (h0 : DataW.Trod enc Tryd.prog W 0 (fun _ => true) true 31 v0 d0 p0) (hk : Rows.uptoBulk d0 ≤ 1048577) :
    ∃ x : OpC, v0 = .agg #[.int .i64 x.kind, strV x.name, strV x.to_, .slice x.A x.m x.c, .int .i64 x.n] ∧ x.Read W := by
  obtain ⟨cs, rfl, hsz⟩ := okWide_struct Tryd.underlying31 hv
  obtain ⟨fuel, hf⟩ := h0
  obtain ⟨x, hx, ho⟩ := op_read (B := 1048577) (by decide) fuel _ _ hf hk
  have hx' : cs.toList = x.cells := hx
  exact ⟨x, congrArg Value.agg (Array.toList_inj.1 hx'), ho⟩
end Go.Proofs.YtlfpfhdagkkliaaDoor
