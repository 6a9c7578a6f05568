/- What a command that is handed in reads as; a world that holds the tables. (printed by wip/gen/srread.py) -/
import Derived.Test.YtjcjiokneibfdaaGreatDoorSr2
import Derived.Test.YtjcjiokneibfdaaGreatDoorRead
namespace Go.Proofs.YtjcjiokneibfdaaGreatDoor
set_option linter.unusedVariables false
set_option linter.unusedSimpArgs false
set_option maxRecDepth 100000
open Go.RowKit Go.ChangeShapes Go.WideShapes Go.ChangeAt Go.Deep

theorem own_ : ownKnob Tryz.prog.godebug = none := by kernel_rfl
/-- a table's cells -/
def flatD : Nat → DataW Unit → List Value
  | 0, _ => []
  | _ + 1, .lit (.int k a) => [.int k a]
  | n + 1, .agg l => l.flatMap (flatD n)
  | _ + 1, _ => []
def layD (d : DataW Unit) : Obj → Obj
  | .cells _ t frozen => .cells (flatD 5 d).toArray t frozen
  | o => o
/-- a world that holds the program's tables, for the witness -/
noncomputable def laidWorld (os : Os) : World :=
  { World.holding Tryz.prog os ⟨#[], #[], []⟩ with heap := ((World.holding Tryz.prog os ⟨#[], #[], []⟩).heap.modify ((Tryz.prog.globalNamed "unicode/utf8.acceptRanges").getD 0) (layD Rows.laid_unicode_utf8_acceptRanges)).modify ((Tryz.prog.globalNamed "unicode/utf8.first").getD 0) (layD Rows.laid_unicode_utf8_first) }
theorem cell_lt {w : World} {b o : Nat} {v : Value} (h : w.cell? ⟨b, o, none⟩ = some v) : b < w.heap.size := by
  cases hb : w.heap[b]? with
  | none => simp [World.cell?, hb] at h
  | some q => exact (Array.getElem?_eq_some_iff.1 hb).1
theorem Sl.lt {w : World} {sz n : Nat} {A : Option Addr} {xs : List (List Value)} (h : Sl w sz A n xs) (hsz : 0 < sz) {g : Nat} (hg : A.map (·.block) = some g) (hne : xs ≠ []) : g < w.heap.size := by
  cases hx : xs with
  | nil => exact absurd hx hne
  | cons x r =>
    obtain ⟨b, off, rfl, hl, hc⟩ := h.2 0 x (by rw [hx]; rfl)
    obtain rfl := Option.some.inj hg
    cases x with
    | nil => simp at hl; omega
    | cons v y => exact cell_lt (hc 0 v rfl)
theorem foGroup : flatOk Tryz.prog 2 351 = true := by kernel_rfl
theorem ftGroup : flatT Tryz.prog 2 351 = [3, 3, 3] := by kernel_rfl
theorem cGroup : Tryz.prog.cellsOf 351 = 3 := by kernel_rfl
theorem foReport : flatOk Tryz.prog 2 260 = true := by kernel_rfl
theorem ftReport : flatT Tryz.prog 2 260 = [3, 3] := by kernel_rfl
theorem cReport : Tryz.prog.cellsOf 260 = 2 := by kernel_rfl
theorem foInt : flatOk Tryz.prog 2 3 = true := by kernel_rfl
theorem ftInt : flatT Tryz.prog 2 3 = [3] := by kernel_rfl
theorem cInt : Tryz.prog.cellsOf 3 = 1 := by kernel_rfl
theorem foAlloc : flatOk Tryz.prog 2 207 = true := by kernel_rfl
theorem ftAlloc : flatT Tryz.prog 2 207 = [3, 3, 3, 3, 3, 3, 3, 3, 3, 4, 3] := by kernel_rfl
theorem cAlloc : Tryz.prog.cellsOf 207 = 11 := by kernel_rfl
theorem foCmd : flatOk Tryz.prog 3 37 = true := by kernel_rfl
theorem ftCmd : flatT Tryz.prog 3 37 = [3, 3, 3, 3, 3, 3, 3, 22, 3, 4, 3, 3, 3, 4, 4, 3, 3, 3, 29, 3, 3, 3, 30, 31, 4, 30, 30] := by kernel_rfl
section
variable {H : Type} {enc : TypeId × Value → H} {w : World} {base : Nat} {spare : Nat → Bool} {held : Bool}
theorem readGroup {B : Nat} (n : Nat) (cs : List Value) (y : DataW H × List MemPlace) (h : DataW.trod enc Tryz.prog w base spare held n 351 cs = some y) (hB : Rows.uptoBulk y.1 ≤ B) : ∃ x : List Value, cs = (fun z => z) x ∧ IsGroup x := by
  have h1 := leaves (P := Tryz.prog) (d := 2) foGroup h hB
  rw [ftGroup] at h1
  match cs, h1 with
  | [c0, c1, c2], ⟨l0, l1, l2, _⟩ =>
    obtain ⟨a0, rfl, _⟩ := l0.int Tryz.underlying3
    obtain ⟨a1, rfl, _⟩ := l1.int Tryz.underlying3
    obtain ⟨a2, rfl, _⟩ := l2.int Tryz.underlying3
    exact ⟨_, rfl, a0, a1, a2, rfl⟩
theorem listGroup {B : Nat} {c : Value} (hB : B ≤ 1048577) (h : Leaf enc Tryz.prog w base spare held B 22 c) : LsG 3 IsGroup w.heap.size w (some c) := by
  obtain ⟨A, n, cap, xs, rfl, hs, ho, hn, _⟩ := Leaf.slice (fun z : List Value => z) IsGroup Tryz.underlying22 cGroup (by decide) readGroup h
  rw [List.map_id'] at hs
  exact ⟨A, n, cap, xs, rfl, hs, fun g hg hne => hs.lt (by decide) hg hne, ho, by omega⟩
theorem oneGroup {B : Nat} {c : Value} (h : Leaf enc Tryz.prog w base spare held B 22 c) : ∃ A n k, c = .slice A n k := by
  obtain ⟨A, n, cap, xs, rfl, _⟩ := Leaf.slice (fun z : List Value => z) IsGroup Tryz.underlying22 cGroup (by decide) readGroup h
  exact ⟨A, n, cap, rfl⟩
theorem readReport {B : Nat} (n : Nat) (cs : List Value) (y : DataW H × List MemPlace) (h : DataW.trod enc Tryz.prog w base spare held n 260 cs = some y) (hB : Rows.uptoBulk y.1 ≤ B) : ∃ x : List Value, cs = (fun z => z) x ∧ IsReport x := by
  have h1 := leaves (P := Tryz.prog) (d := 2) foReport h hB
  rw [ftReport] at h1
  match cs, h1 with
  | [c0, c1], ⟨l0, l1, _⟩ =>
    obtain ⟨a0, rfl, _⟩ := l0.int Tryz.underlying3
    obtain ⟨a1, rfl, _⟩ := l1.int Tryz.underlying3
    exact ⟨_, rfl, a0, a1, rfl⟩
theorem listReport {B : Nat} {c : Value} (hB : B ≤ 1048577) (h : Leaf enc Tryz.prog w base spare held B 29 c) : LsG 2 IsReport w.heap.size w (some c) := by
  obtain ⟨A, n, cap, xs, rfl, hs, ho, hn, _⟩ := Leaf.slice (fun z : List Value => z) IsReport Tryz.underlying29 cReport (by decide) readReport h
  rw [List.map_id'] at hs
  exact ⟨A, n, cap, xs, rfl, hs, fun g hg hne => hs.lt (by decide) hg hne, ho, by omega⟩
theorem oneReport {B : Nat} {c : Value} (h : Leaf enc Tryz.prog w base spare held B 29 c) : ∃ A n k, c = .slice A n k := by
  obtain ⟨A, n, cap, xs, rfl, _⟩ := Leaf.slice (fun z : List Value => z) IsReport Tryz.underlying29 cReport (by decide) readReport h
  exact ⟨A, n, cap, rfl⟩
theorem readInt {B : Nat} (n : Nat) (cs : List Value) (y : DataW H × List MemPlace) (h : DataW.trod enc Tryz.prog w base spare held n 3 cs = some y) (hB : Rows.uptoBulk y.1 ≤ B) : ∃ x : List Value, cs = (fun z => z) x ∧ IsInt x := by
  have h1 := leaves (P := Tryz.prog) (d := 2) foInt h hB
  rw [ftInt] at h1
  match cs, h1 with
  | [c0], ⟨l0, _⟩ =>
    obtain ⟨a0, rfl, _⟩ := l0.int Tryz.underlying3
    exact ⟨_, rfl, a0, rfl⟩
theorem listInt {B : Nat} {c : Value} (hB : B ≤ 1048577) (h : Leaf enc Tryz.prog w base spare held B 30 c) : LsG 1 IsInt w.heap.size w (some c) := by
  obtain ⟨A, n, cap, xs, rfl, hs, ho, hn, _⟩ := Leaf.slice (fun z : List Value => z) IsInt Tryz.underlying30 cInt (by decide) readInt h
  rw [List.map_id'] at hs
  exact ⟨A, n, cap, xs, rfl, hs, fun g hg hne => hs.lt (by decide) hg hne, ho, by omega⟩
theorem oneInt {B : Nat} {c : Value} (h : Leaf enc Tryz.prog w base spare held B 30 c) : ∃ A n k, c = .slice A n k := by
  obtain ⟨A, n, cap, xs, rfl, _⟩ := Leaf.slice (fun z : List Value => z) IsInt Tryz.underlying30 cInt (by decide) readInt h
  exact ⟨A, n, cap, rfl⟩
theorem readAlloc {B : Nat} (n : Nat) (cs : List Value) (y : DataW H × List MemPlace) (h : DataW.trod enc Tryz.prog w base spare held n 207 cs = some y) (hB : Rows.uptoBulk y.1 ≤ B) : ∃ x : List Value, cs = (fun z => z) x ∧ IsAlloc x := by
  have h1 := leaves (P := Tryz.prog) (d := 2) foAlloc h hB
  rw [ftAlloc] at h1
  match cs, h1 with
  | [c0, c1, c2, c3, c4, c5, c6, c7, c8, c9, c10], ⟨l0, l1, l2, l3, l4, l5, l6, l7, l8, l9, l10, _⟩ =>
    obtain ⟨a0, rfl, _⟩ := l0.int Tryz.underlying3
    obtain ⟨a1, rfl, _⟩ := l1.int Tryz.underlying3
    obtain ⟨a2, rfl, _⟩ := l2.int Tryz.underlying3
    obtain ⟨a3, rfl, _⟩ := l3.int Tryz.underlying3
    obtain ⟨a4, rfl, _⟩ := l4.int Tryz.underlying3
    obtain ⟨a5, rfl, _⟩ := l5.int Tryz.underlying3
    obtain ⟨a6, rfl, _⟩ := l6.int Tryz.underlying3
    obtain ⟨a7, rfl, _⟩ := l7.int Tryz.underlying3
    obtain ⟨a8, rfl, _⟩ := l8.int Tryz.underlying3
    obtain ⟨a9, rfl⟩ := l9.bool Tryz.underlying4
    obtain ⟨a10, rfl, _⟩ := l10.int Tryz.underlying3
    exact ⟨_, rfl, a0, a1, a2, a3, a4, a5, a6, a7, a8, a9, a10, rfl⟩
theorem listAlloc {B : Nat} {c : Value} (hB : B ≤ 1048577) (h : Leaf enc Tryz.prog w base spare held B 31 c) : LsG 11 IsAlloc w.heap.size w (some c) := by
  obtain ⟨A, n, cap, xs, rfl, hs, ho, hn, _⟩ := Leaf.slice (fun z : List Value => z) IsAlloc Tryz.underlying31 cAlloc (by decide) readAlloc h
  rw [List.map_id'] at hs
  exact ⟨A, n, cap, xs, rfl, hs, fun g hg hne => hs.lt (by decide) hg hne, ho, by omega⟩
theorem oneAlloc {B : Nat} {c : Value} (h : Leaf enc Tryz.prog w base spare held B 31 c) : ∃ A n k, c = .slice A n k := by
  obtain ⟨A, n, cap, xs, rfl, _⟩ := Leaf.slice (fun z : List Value => z) IsAlloc Tryz.underlying31 cAlloc (by decide) readAlloc h
  exact ⟨A, n, cap, rfl⟩
end
theorem cmd_open {H : Type} {enc : TypeId × Value → H} {W : World} {base : Nat} {v0 : Value} {d0 : DataW H} {p0 : List MemPlace} (hv : Value.okWide Tryz.prog W .any base 37 v0) (h0 : DataW.Trod enc Tryz.prog W 0 (fun _ => true) true 37 v0 d0 p0) (hk : Rows.uptoBulk d0 ≤ 1048577) :
    ∃ (cs : Array Value) (op cl rq : Int), v0 = .agg cs ∧ CmdOk W.heap.size W cs ∧ cs[0]? = some (.int .i64 op) ∧ cs[1]? = some (.int .i64 cl) ∧ cs[2]? = some (.int .i64 rq) := by
  obtain ⟨cs, rfl, hsz⟩ := okWide_struct Tryz.underlying37 hv
  obtain ⟨fuel, hf⟩ := h0
  have h1 := leaves (B := 1048577) foCmd hf hk
  rw [ftCmd] at h1
  have hcs : (Value.agg cs).cells.toList = cs.toList := rfl
  rw [hcs] at h1
  clear hf hsz hv
  obtain ⟨ls, rfl⟩ : ∃ ls : List Value, cs = ls.toArray := ⟨cs.toList, by simp⟩
  simp only [] at h1
  match ls, h1 with
  | [c0, c1, c2, c3, c4, c5, c6, c7, c8, c9, c10, c11, c12, c13, c14, c15, c16, c17, c18, c19, c20, c21, c22, c23, c24, c25, c26], ⟨l0, l1, l2, l3, l4, l5, l6, l7, l8, l9, l10, l11, l12, l13, l14, l15, l16, l17, l18, l19, l20, l21, l22, l23, l24, l25, l26, _⟩ =>
    obtain ⟨a0, rfl, _⟩ := l0.int Tryz.underlying3
    obtain ⟨a1, rfl, _⟩ := l1.int Tryz.underlying3
    obtain ⟨a2, rfl, _⟩ := l2.int Tryz.underlying3
    obtain ⟨a3, rfl, _⟩ := l3.int Tryz.underlying3
    obtain ⟨a4, rfl, _⟩ := l4.int Tryz.underlying3
    obtain ⟨a5, rfl, _⟩ := l5.int Tryz.underlying3
    obtain ⟨a6, rfl, _⟩ := l6.int Tryz.underlying3
    obtain ⟨A7, n7, k7, rfl⟩ := oneGroup l7
    obtain ⟨a8, rfl, _⟩ := l8.int Tryz.underlying3
    obtain ⟨a9, rfl⟩ := l9.bool Tryz.underlying4
    obtain ⟨a10, rfl, _⟩ := l10.int Tryz.underlying3
    obtain ⟨a11, rfl, _⟩ := l11.int Tryz.underlying3
    obtain ⟨a12, rfl, _⟩ := l12.int Tryz.underlying3
    obtain ⟨a13, rfl⟩ := l13.bool Tryz.underlying4
    obtain ⟨a14, rfl⟩ := l14.bool Tryz.underlying4
    obtain ⟨a15, rfl, _⟩ := l15.int Tryz.underlying3
    obtain ⟨a16, rfl, _⟩ := l16.int Tryz.underlying3
    obtain ⟨a17, rfl, _⟩ := l17.int Tryz.underlying3
    obtain ⟨A18, n18, k18, rfl⟩ := oneReport l18
    obtain ⟨a19, rfl, _⟩ := l19.int Tryz.underlying3
    obtain ⟨a20, rfl, _⟩ := l20.int Tryz.underlying3
    obtain ⟨a21, rfl, _⟩ := l21.int Tryz.underlying3
    obtain ⟨A22, n22, k22, rfl⟩ := oneInt l22
    obtain ⟨A23, n23, k23, rfl⟩ := oneAlloc l23
    obtain ⟨a24, rfl⟩ := l24.bool Tryz.underlying4
    obtain ⟨A25, n25, k25, rfl⟩ := oneInt l25
    obtain ⟨A26, n26, k26, rfl⟩ := oneInt l26
    refine ⟨_, a0, a1, a2, rfl, ⟨rfl, rfl, ?_, ?_, listGroup (by decide) l7, listReport (by decide) l18, listInt (by decide) l22, listAlloc (by decide) l23, listInt (by decide) l25, listInt (by decide) l26⟩, rfl, rfl, rfl⟩
    · intro k hk
      simp only [List.mem_cons, List.not_mem_nil, or_false] at hk
      rcases hk with rfl | rfl | rfl | rfl | rfl | rfl | rfl | rfl | rfl | rfl | rfl | rfl | rfl | rfl | rfl | rfl | rfl <;> exact ⟨_, rfl⟩
    · intro k hk
      simp only [List.mem_cons, List.not_mem_nil, or_false] at hk
      rcases hk with rfl | rfl | rfl | rfl <;> exact ⟨_, rfl⟩
end Go.Proofs.YtjcjiokneibfdaaGreatDoor
