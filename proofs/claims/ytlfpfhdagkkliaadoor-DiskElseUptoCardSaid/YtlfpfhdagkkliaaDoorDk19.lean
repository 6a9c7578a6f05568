/- The law's known: a file that is written, and torn by a crash. -/
import Derived.Test.YtlfpfhdagkkliaaDoorDk18
import Derived.Test.YtlfpfhdagkkliaaDoorDk16
import Derived.Deep.CutRange
import Derived.Lib.SlBytesConst
namespace Go.Proofs.YtlfpfhdagkkliaaDoor
set_option linter.unusedVariables false
set_option linter.unusedSimpArgs false
open Go.RowKit

namespace Dk
def kD1 : DiskD := ⟨[], [⟨0, [97], [], [120, 121]⟩], -1⟩
def kD2 : DiskD := ⟨[], [⟨0, [97], [], [120, 121]⟩, ⟨0, [97], [], [122]⟩], -1⟩
def kD3 : DiskD := ⟨[([97], [120, 121])], [], -1⟩
theorem kn1 : new.write 0 [97] [120, 121] = (kD1, 0) := by kernel_rfl
theorem kn2 : kD1.write 0 [97] [122] = (kD2, 0) := by kernel_rfl
theorem kn3 : kD2.read [97] = ([120, 121, 122], 0) := by kernel_rfl
theorem kn4 : kD2.crash 2 = kD3 := by kernel_rfl
theorem kn5 : kD3.read [97] = ([120, 121], 0) := by kernel_rfl
theorem kg1 : Good kD1 := by have := good_write good_new (k := 0) (by omega) [97] [120, 121]; rw [kn1] at this; exact this
theorem kg2 : Good kD2 := by have := good_write kg1 (k := 0) (by omega) [97] [122]; rw [kn2] at this; exact this
theorem kg3 : Good kD3 := by rw [← kn4]; exact good_crash kg2 2
end Dk
/-- a literal's bytes behind their conversion -/
theorem lit_bytes (w : World) (C : Array Value) (l : List UInt8) (hC : C.toList = l.flatMap bCell) (fr : Nat × Nat) : Sl (w.alloc (.cells C 5 fr)) 1 (some ⟨w.heap.size, 0, none⟩) l.length (l.map bCell) := by
  refine ⟨by simp, fun i c hi => ?_⟩
  rw [List.getElem?_map] at hi
  obtain ⟨x, hx, rfl⟩ := Option.map_eq_some_iff.1 hi
  refine ⟨w.heap.size, 0, rfl, rfl, fun j u hu => ?_⟩
  have h1 := flat_at (f := bCell) (sz := 1) (fun _ => rfl) l i x hx j u hu
  rw [← hC, Array.getElem?_toList] at h1
  rw [Nat.zero_add, World.cell?_alloc_mark]
  exact h1
/-- what a disk that is new since w writes is new since w -/
theorem DkB.fresh {w w1 w' : World} {b : Nat} (hb : w.heap.size + 2 ≤ b) (h1 : Ext Nothing w w1) (h : Ext (DkB b w1) w1 w') : Ext Nothing w w' :=
  h1.trans h (fun q hq e => by have := e.1; omega)
set_option maxRecDepth 20000 in
set_option maxHeartbeats 8000000 in
theorem lawKnown (w : World) : Calls Tryd.prog 11 #[] w fun e w' => e = .returned (.bool true) ∧ Ext Nothing w w' := by
  have hmx : ([97] : List UInt8).length ≤ maxLen := by decide
  go_enter Tryd.func11, Tryd.ntmps11
  go_upto_region 2 with (first | go_skip | go_guarded | (go_at_call 9; (with_reducible refine (dkNew w (fun _ => True)).mono ?_); rintro e w1 ⟨b, rfl, h1, hbw, hx1⟩))
  go_upto_region 4 with (first | go_skip | go_guarded)
  have ha1 : Ext Nothing w1 (w1.alloc (.cells #[.int .u8 120, .int .u8 121] 5 (2, 3))) := Ext.auto
  have hs1 : Sl (w1.alloc (.cells #[.int .u8 120, .int .u8 121] 5 (2, 3))) 1 (some ⟨w1.heap.size, 0, none⟩) 2 (([120, 121] : List UInt8).map bCell) := lit_bytes w1 #[.int .u8 120, .int .u8 121] [120, 121] rfl (2, 3)
  have hc1 := Lib.run_convert_bytes_const (P := Tryd.prog) w1 29 5 #[.int .u8 120, .int .u8 121] 2 2 Tryd.underlying29 Tryd.underlying5
  go_upto_region 5 with (first | go_skip | go_guarded | (go_at_call 14; (with_reducible refine (dkAppend [97] (some ⟨w1.heap.size, 0, none⟩) 2 2 [120, 121] _ (h1.keep0 ha1) Dk.good_new (by decide) hmx hs1 (by decide)).mono ?_); rintro e w2 ⟨rfl, h2, hx2⟩))
  rw [Dk.kn1] at h2 ⊢
  have hK2 := (ha1.mono (fun _ _ e => e.elim) : Ext (DkB b w1) w1 _).trans hx2 (fun q hq h9 => DkB.back ((ha1.mono (fun _ _ e => e.elim))) hq h9)
  clear h1 hs1 hc1 ha1 hx2
  generalize OkN _ _ = Ok2 at h2
  have ha2 : Ext Nothing w2 (w2.alloc (.cells #[.int .u8 122] 5 (1, 2))) := Ext.auto
  have hs2 : Sl (w2.alloc (.cells #[.int .u8 122] 5 (1, 2))) 1 (some ⟨w2.heap.size, 0, none⟩) 1 (([122] : List UInt8).map bCell) := lit_bytes w2 #[.int .u8 122] [122] rfl (1, 2)
  have hc2 := Lib.run_convert_bytes_const (P := Tryd.prog) w2 29 5 #[.int .u8 122] 1 1 Tryd.underlying29 Tryd.underlying5
  go_upto_region 6 with (first | go_skip | go_guarded | (go_at_call 14; (with_reducible refine (dkAppend [97] (some ⟨w2.heap.size, 0, none⟩) 1 1 [122] _ (h2.keep0 ha2) Dk.kg1 (by decide) hmx hs2 (by decide)).mono ?_); rintro e w3 ⟨rfl, h3, hx3⟩))
  rw [Dk.kn2] at h3 ⊢
  have hK3 := DkB.trans hK2 ((ha2.mono (fun _ _ e => e.elim) : Ext (DkB b w2) w2 _).trans hx3 (fun q hq h9 => DkB.back ((ha2.mono (fun _ _ e => e.elim))) hq h9))
  clear h2 hs2 hc2 ha2 hx3 hK2
  generalize OkN _ _ = Ok3 at h3
  go_upto_region 7 with (first | go_skip | go_guarded | (go_at_call 23; (with_reducible refine (dkRead [97] w3 h3 Dk.kg2 hmx).mono ?_); rintro e w4 ⟨v4, rfl, hv4, hx4⟩))
  rw [Dk.kn3] at hv4 ⊢
  have HV4 := hv4
  obtain ⟨A4, n4, c4, rfl, ⟨hs4, _⟩, _⟩ := hv4
  have h4 := h3.keep0 hx4
  have hK4 := DkB.trans hK3 (hx4.mono (fun _ _ e => e.elim) : Ext (DkB b w3) w3 w4)
  clear h3 hx4 hK3
  dsimp only at hs4 ⊢
  clear hs4
  go_upto_region 8 with (first | go_skip | go_guarded | (go_at_call 21; (with_reducible refine (dkCrash 2 w4 h4 Dk.kg2 (by decide) (by unfold In64; omega)).mono ?_); rintro e w5 ⟨rfl, h5, hx5⟩))
  rw [Dk.kn4] at h5
  have HV5 := BytesV.keep HV4 hx5 DkB.off
  have hK5 := DkB.trans hK4 hx5
  clear h4 HV4 hx5 hK4
  generalize OkN _ _ = Ok5 at h5
  go_upto_region 9 with (first | go_skip | go_guarded | (go_at_call 23; (with_reducible refine (dkRead [97] w5 h5 Dk.kg3 hmx).mono ?_); rintro e w6 ⟨v6, rfl, hv6, hx6⟩))
  rw [Dk.kn5] at hv6 ⊢
  have HV6 := BytesV.keep HV5 hx6 Off.none
  obtain ⟨A6, n6, c6, rfl, ⟨hs6, _⟩, _⟩ := hv6
  obtain ⟨A7, n7, c7, hv7, ⟨hs7, _⟩, _⟩ := HV6
  injection hv7 with e1 e2 e3
  subst e1 e2 e3
  have hK6 := DkB.fresh hbw hx1 (DkB.trans hK5 (hx6.mono (fun _ _ e => e.elim) : Ext (DkB b w5) w5 w6))
  clear h5 hx6 hK5 HV5 hx1 hbw
  dsimp only at hs6 hs7 ⊢
  have hc6 := run_conv hs6 c6
  have hc7 := run_conv hs7 c4
  go_wp2_with (first | go_skip | go_guarded)
  go_ret
  exact ⟨rfl, hK6⟩
end Go.Proofs.YtlfpfhdagkkliaaDoor
