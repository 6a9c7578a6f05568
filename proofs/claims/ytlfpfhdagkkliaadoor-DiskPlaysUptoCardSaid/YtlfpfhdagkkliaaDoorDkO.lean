/- The laws' steps: what a step is, and where its bytes lie. -/
import Derived.Test.YtlfpfhdagkkliaaDoorDk19
import Derived.Test.YtlfpfhdagkkliaaDoorDkL
namespace Go.Proofs.YtlfpfhdagkkliaaDoor
set_option linter.unusedVariables false
open Go.RowKit

/-- a step of a law's script, and where its bytes lie -/
structure OpC where
  kind : Int
  name : Dk.Str
  to_ : Dk.Str
  data : List UInt8
  n : Int
  A : Option Addr
  m : Nat
  c : Nat
def OpC.cells (x : OpC) : List Value := [.int .i64 x.kind, strV x.name, strV x.to_, .slice x.A x.m x.c, .int .i64 x.n]
structure OpC.Read (w : World) (x : OpC) : Prop where
  k : In64 x.kind
  n1 : x.name.length ≤ maxLen
  n2 : x.to_.length ≤ maxLen
  d : Sl w 1 x.A x.m (x.data.map bCell)
  m : x.m ≤ 33554432
  n : In64 x.n
  mc : x.m ≤ x.c
theorem OpC.Read.e0 {w w' : World} {x : OpC} (h : x.Read w) (hx : Ext Nothing w w') : x.Read w' := ⟨h.k, h.n1, h.n2, h.d.ext0 hx, h.m, h.n, h.mc⟩
theorem STOp : StructT Tryd.prog 31 5 := .of (by kernel_rfl)
namespace Dk
theorem counted_left {d : DiskD} (h : 0 < d.left) : d.counted.left = d.left - 1 := by unfold DiskD.counted; rw [if_pos h]
theorem counted_done (d : DiskD) : d.counted.done = d.done := by unfold DiskD.counted; split <;> rfl
end Dk
end Go.Proofs.YtlfpfhdagkkliaaDoor
