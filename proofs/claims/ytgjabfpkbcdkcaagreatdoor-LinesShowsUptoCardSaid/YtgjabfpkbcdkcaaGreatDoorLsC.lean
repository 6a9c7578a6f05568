/- The tables: what the rows' condition gives of the powers of ten; a world that holds the tables. -/
import Derived.Test.YtgjabfpkbcdkcaaGreatDoorLsR
import Derived.Test.YtgjabfpkbcdkcaaGreatDoorRows
import Derived.Lib.LaidTab
namespace Go.Proofs.YtgjabfpkbcdkcaaGreatDoor
set_option linter.unusedVariables false
set_option linter.unusedSimpArgs false
set_option maxRecDepth 100000
open Go.RowKit Go.ChangeShapes Go.WideShapes Go.ChangeAt

theorem pow10_data : (Rows.laid_internal_strconv_uint64pow10 : DataW Unit) = Lib.tabData .u64 Lib.pow10Tab := by kernel_rfl
theorem htab_of {W : World} (h : laidMet Tryz.prog Rows.linesShowsUptoRow.laid W) : PTab W := by
  obtain ⟨ps, hv, _⟩ := h
  obtain ⟨g, t, cs, fuel, p, q, hg, ht, hvar, hd, _, _⟩ := hv
  rw [pow10_data] at hd
  have hg' : Tryz.prog.globalNamed "internal/strconv.uint64pow10" = some (Tryz.prog.globalNamed "internal/strconv.uint64pow10" |>.getD 0) := by kernel_rfl
  obtain rfl := Option.some.inj (hg'.symm.trans hg)
  have hty : (Tryz.prog.globals[(Tryz.prog.globalNamed "internal/strconv.uint64pow10").getD 0]?).map (·.type) = some 162 := by kernel_rfl
  obtain rfl := Option.some.inj (hty.symm.trans ht)
  unfold PTab Lib.TabIs
  rw [hvar, ← Lib.cells_of_tab (P := Tryz.prog) (e := 131) (n := 20) (by kernel_rfl) (by kernel_rfl) (by kernel_rfl) (by kernel_rfl) hd]
/-- a table's cells -/
def flatD : Nat → DataW Unit → List Value
  | 0, _ => []
  | _ + 1, .lit (.int k a) => [.int k a]
  | n + 1, .agg l => l.flatMap (flatD n)
  | _ + 1, _ => []
def layD (d : DataW Unit) : Obj → Obj
  | .cells _ t frozen => .cells (flatD 5 d).toArray t frozen
  | o => o
def layV (v : Value) : Obj → Obj
  | .cells _ t frozen => .cells #[v] t frozen
  | o => o
noncomputable def gN (s : String) : Nat := (Tryz.prog.globalNamed s).getD 0
/-- a world that holds the program's tables, for the witness -/
noncomputable def laidWorld (os : Os) : World :=
  let h := World.holding Tryz.prog os ⟨#[], #[], []⟩
  { h with heap := (((((((((h.heap.modify (gN "math/bits.deBruijn32tab") (layD Rows.laid_math_bits_deBruijn32tab)).modify (gN "math/bits.deBruijn64tab") (layD Rows.laid_math_bits_deBruijn64tab)).modify (gN "internal/strconv.uint64pow10") (layD Rows.laid_internal_strconv_uint64pow10)).modify (gN "unicode/utf8.acceptRanges") (layD Rows.laid_unicode_utf8_acceptRanges)).modify (gN "unicode/utf8.first") (layD Rows.laid_unicode_utf8_first)).modify (gN "strconv.ErrRange") (layV (.iface 347 (.pointer (some ⟨h.heap.size, 0, none⟩))))).modify (gN "strconv.ErrSyntax") (layV (.iface 347 (.pointer (some ⟨h.heap.size + 1, 0, none⟩))))).push (.cells #[.string ⟨#[118, 97, 108, 117, 101, 32, 111, 117, 116, 32, 111, 102, 32, 114, 97, 110, 103, 101]⟩] 349)).push (.cells #[.string ⟨#[105, 110, 118, 97, 108, 105, 100, 32, 115, 121, 110, 116, 97, 120]⟩] 349)) }
end Go.Proofs.YtgjabfpkbcdkcaaGreatDoor
