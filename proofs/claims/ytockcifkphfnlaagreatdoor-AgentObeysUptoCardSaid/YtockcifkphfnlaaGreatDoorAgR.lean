/- The reading of a law's script of deeds, of a list of allocations; a world that holds the tables. (printed by wip/gen/agread.py) -/
import Derived.Test.YtockcifkphfnlaaGreatDoorAgW
import Derived.Test.YtockcifkphfnlaaGreatDoorRead
namespace Go.Proofs.YtockcifkphfnlaaGreatDoor
set_option linter.unusedVariables false
set_option linter.unusedSimpArgs false
set_option maxRecDepth 100000
open Go.RowKit Go.ChangeShapes Go.WideShapes Go.ChangeAt Go.Deep

theorem own_ : ownKnob Tryz.prog.godebug = none := by kernel_rfl
theorem in64_wf {a : Int} (h : (Lit.int .i64 a).wf = true) : In64 a := by
  simpa [Lit.wf, IntKind.min, IntKind.max, IntKind.signed, IntKind.bits, In64] using h
theorem foAlloc : flatOk Tryz.prog 2 67 = true := by kernel_rfl
theorem ftAlloc : flatT Tryz.prog 2 67 = [3, 3, 3, 3, 3, 3, 3, 3, 3, 4, 3] := by kernel_rfl
theorem cAlloc : Tryz.prog.cellsOf 67 = 11 := by kernel_rfl
theorem foDeed : flatOk Tryz.prog 5 53 = true := by kernel_rfl
theorem ftDeed : flatT Tryz.prog 5 53 = [3, 3, 4, 24, 3, 43, 3, 3, 3, 3, 3, 3, 3, 4, 3, 3, 3, 3, 35, 34, 34, 38, 3, 3, 3, 3, 3, 3, 3, 39, 3, 4, 3, 3, 3, 4, 4, 3, 3, 3, 42, 3, 3, 3, 34, 43, 4, 34, 34, 24, 3, 43] := by kernel_rfl
theorem cDeed : Tryz.prog.cellsOf 53 = 52 := by kernel_rfl
section
variable {H : Type} {enc : TypeId × Value → H} {w : World} {base : Nat} {spare : Nat → Bool} {held : Bool}
theorem Leaf.sl {P : Program} {B : Nat} {t e : TypeId} {c : Value} (ht : P.underlying t = some (.slice e)) (h : Leaf enc P w base spare held B t c) : ∃ A n k, c = .slice A n k := by
  obtain ⟨k, y, h1, _⟩ := h
  rcases open_slice ht h1 with ⟨e1, _⟩ | ⟨a, len, cap, m, n', D, Pl, e1, _⟩
  · exact ⟨none, 0, 0, by simpa using e1⟩
  · exact ⟨some a, len, cap, by simpa using e1⟩
theorem alloc_read {B : Nat} (n : Nat) (cs : List Value) (y : DataW H × List MemPlace) (h : DataW.trod enc Tryz.prog w base spare held n 67 cs = some y) (hB : Rows.uptoBulk y.1 ≤ B) : ∃ x : AllocD, cs = x.cells ∧ In64 x.id := by
  have h1 := leaves (P := Tryz.prog) (d := 2) foAlloc h hB
  rw [ftAlloc] at h1
  match cs, h1 with
  | [c0, c1, c2, c3, c4, c5, c6, c7, c8, c9, c10], ⟨l0, l1, l2, l3, l4, l5, l6, l7, l8, l9, l10, _⟩ =>
    obtain ⟨a0, rfl, w0⟩ := l0.int Tryz.underlying3
    obtain ⟨a1, rfl, w1⟩ := l1.int Tryz.underlying3
    obtain ⟨a2, rfl, w2⟩ := l2.int Tryz.underlying3
    obtain ⟨a3, rfl, w3⟩ := l3.int Tryz.underlying3
    obtain ⟨a4, rfl, w4⟩ := l4.int Tryz.underlying3
    obtain ⟨a5, rfl, w5⟩ := l5.int Tryz.underlying3
    obtain ⟨a6, rfl, w6⟩ := l6.int Tryz.underlying3
    obtain ⟨a7, rfl, w7⟩ := l7.int Tryz.underlying3
    obtain ⟨a8, rfl, w8⟩ := l8.int Tryz.underlying3
    obtain ⟨a9, rfl⟩ := l9.bool Tryz.underlying4
    obtain ⟨a10, rfl, w10⟩ := l10.int Tryz.underlying3
    exact ⟨⟨a0, a1, a2, a3, a4, a5, a6, ⟨a7, a8⟩, a9, a10⟩, rfl, in64_wf w0⟩
theorem list52 {α : Type} {l : List α} (h : l.length = 52) : ∃ c0 c1 c2 c3 c4 c5 c6 c7 c8 c9 c10 c11 c12 c13 c14 c15 c16 c17 c18 c19 c20 c21 c22 c23 c24 c25 c26 c27 c28 c29 c30 c31 c32 c33 c34 c35 c36 c37 c38 c39 c40 c41 c42 c43 c44 c45 c46 c47 c48 c49 c50 c51, l = c0 :: c1 :: c2 :: c3 :: c4 :: c5 :: c6 :: c7 :: c8 :: c9 :: c10 :: c11 :: c12 :: c13 :: c14 :: c15 :: c16 :: c17 :: c18 :: c19 :: c20 :: c21 :: c22 :: c23 :: c24 :: c25 :: c26 :: c27 :: c28 :: c29 :: c30 :: c31 :: c32 :: c33 :: c34 :: c35 :: c36 :: c37 :: c38 :: c39 :: c40 :: c41 :: c42 :: c43 :: c44 :: c45 :: c46 :: c47 :: c48 :: c49 :: c50 :: c51 :: [] := by
  match l, h with
  | c0 :: c1 :: c2 :: c3 :: c4 :: c5 :: c6 :: c7 :: c8 :: c9 :: c10 :: c11 :: c12 :: c13 :: c14 :: c15 :: c16 :: c17 :: c18 :: c19 :: c20 :: c21 :: c22 :: c23 :: c24 :: c25 :: c26 :: c27 :: c28 :: c29 :: c30 :: c31 :: c32 :: c33 :: c34 :: c35 :: c36 :: c37 :: c38 :: c39 :: c40 :: c41 :: c42 :: c43 :: c44 :: c45 :: c46 :: c47 :: c48 :: c49 :: c50 :: c51 :: [], _ => exact ⟨c0, c1, c2, c3, c4, c5, c6, c7, c8, c9, c10, c11, c12, c13, c14, c15, c16, c17, c18, c19, c20, c21, c22, c23, c24, c25, c26, c27, c28, c29, c30, c31, c32, c33, c34, c35, c36, c37, c38, c39, c40, c41, c42, c43, c44, c45, c46, c47, c48, c49, c50, c51, rfl⟩
theorem Leaves.len {P : Program} {B : Nat} : ∀ {ts : List TypeId} {cs : List Value}, Leaves enc P w base spare held B ts cs → cs.length = ts.length
  | [], [], _ => rfl
  | t :: ts, c :: cs, h => by rw [List.length_cons, List.length_cons, Leaves.len h.2]
  | [], _ :: _, h => h.elim
  | _ :: _, [], h => h.elim
theorem deed_read {B : Nat} (hB1 : B ≤ 1048577) (n : Nat) (cs : List Value) (y : DataW H × List MemPlace) (h : DataW.trod enc Tryz.prog w base spare held n 53 cs = some y) (hB : Rows.uptoBulk y.1 ≤ B) : ∃ x : LDeed, cs = x.cells ∧ x.Read w := by
  have h1 := leaves (P := Tryz.prog) (d := 5) foDeed h hB
  rw [ftDeed] at h1
  have hlen := Leaves.len h1
  obtain ⟨c0, c1, c2, c3, c4, c5, c6, c7, c8, c9, c10, c11, c12, c13, c14, c15, c16, c17, c18, c19, c20, c21, c22, c23, c24, c25, c26, c27, c28, c29, c30, c31, c32, c33, c34, c35, c36, c37, c38, c39, c40, c41, c42, c43, c44, c45, c46, c47, c48, c49, c50, c51, rfl⟩ := list52 hlen
  obtain ⟨l0, l1, l2, l3, l4, l5, l6, l7, l8, l9, l10, l11, l12, l13, l14, l15, l16, l17, l18, l19, l20, l21, l22, l23, l24, l25, l26, l27, l28, l29, l30, l31, l32, l33, l34, l35, l36, l37, l38, l39, l40, l41, l42, l43, l44, l45, l46, l47, l48, l49, l50, l51, _⟩ := h1
  clear hlen h
  obtain ⟨a0, rfl, w0⟩ := l0.int Tryz.underlying3
  obtain ⟨a1, rfl, w1⟩ := l1.int Tryz.underlying3
  obtain ⟨a2, rfl⟩ := l2.bool Tryz.underlying4
  obtain ⟨a3, rfl, w3⟩ := l3.int Tryz.underlying24
  obtain ⟨a4, rfl, w4⟩ := l4.int Tryz.underlying3
  obtain ⟨A5, n5, k5, x5, rfl, s5, o5, m5, _⟩ := Leaf.slice AllocD.cells (fun y => In64 y.id) Tryz.underlying43 cAlloc (by decide) alloc_read l5
  obtain ⟨a6, rfl, w6⟩ := l6.int Tryz.underlying3
  obtain ⟨a7, rfl, w7⟩ := l7.int Tryz.underlying3
  obtain ⟨a8, rfl, w8⟩ := l8.int Tryz.underlying3
  obtain ⟨a9, rfl, w9⟩ := l9.int Tryz.underlying3
  obtain ⟨a10, rfl, w10⟩ := l10.int Tryz.underlying3
  obtain ⟨a11, rfl, w11⟩ := l11.int Tryz.underlying3
  obtain ⟨a12, rfl, w12⟩ := l12.int Tryz.underlying3
  obtain ⟨a13, rfl⟩ := l13.bool Tryz.underlying4
  obtain ⟨a14, rfl, w14⟩ := l14.int Tryz.underlying3
  obtain ⟨a15, rfl, w15⟩ := l15.int Tryz.underlying3
  obtain ⟨a16, rfl, w16⟩ := l16.int Tryz.underlying3
  obtain ⟨a17, rfl, w17⟩ := l17.int Tryz.underlying3
  obtain ⟨A18, n18, k18, rfl⟩ := Leaf.sl Tryz.underlying35 l18
  obtain ⟨A19, n19, k19, rfl⟩ := Leaf.sl Tryz.underlying34 l19
  obtain ⟨A20, n20, k20, rfl⟩ := Leaf.sl Tryz.underlying34 l20
  obtain ⟨A21, n21, k21, rfl⟩ := Leaf.sl Tryz.underlying38 l21
  obtain ⟨a22, rfl, w22⟩ := l22.int Tryz.underlying3
  obtain ⟨a23, rfl, w23⟩ := l23.int Tryz.underlying3
  obtain ⟨a24, rfl, w24⟩ := l24.int Tryz.underlying3
  obtain ⟨a25, rfl, w25⟩ := l25.int Tryz.underlying3
  obtain ⟨a26, rfl, w26⟩ := l26.int Tryz.underlying3
  obtain ⟨a27, rfl, w27⟩ := l27.int Tryz.underlying3
  obtain ⟨a28, rfl, w28⟩ := l28.int Tryz.underlying3
  obtain ⟨A29, n29, k29, rfl⟩ := Leaf.sl Tryz.underlying39 l29
  obtain ⟨a30, rfl, w30⟩ := l30.int Tryz.underlying3
  obtain ⟨a31, rfl⟩ := l31.bool Tryz.underlying4
  obtain ⟨a32, rfl, w32⟩ := l32.int Tryz.underlying3
  obtain ⟨a33, rfl, w33⟩ := l33.int Tryz.underlying3
  obtain ⟨a34, rfl, w34⟩ := l34.int Tryz.underlying3
  obtain ⟨a35, rfl⟩ := l35.bool Tryz.underlying4
  obtain ⟨a36, rfl⟩ := l36.bool Tryz.underlying4
  obtain ⟨a37, rfl, w37⟩ := l37.int Tryz.underlying3
  obtain ⟨a38, rfl, w38⟩ := l38.int Tryz.underlying3
  obtain ⟨a39, rfl, w39⟩ := l39.int Tryz.underlying3
  obtain ⟨A40, n40, k40, rfl⟩ := Leaf.sl Tryz.underlying42 l40
  obtain ⟨a41, rfl, w41⟩ := l41.int Tryz.underlying3
  obtain ⟨a42, rfl, w42⟩ := l42.int Tryz.underlying3
  obtain ⟨a43, rfl, w43⟩ := l43.int Tryz.underlying3
  obtain ⟨A44, n44, k44, rfl⟩ := Leaf.sl Tryz.underlying34 l44
  obtain ⟨A45, n45, k45, rfl⟩ := Leaf.sl Tryz.underlying43 l45
  obtain ⟨a46, rfl⟩ := l46.bool Tryz.underlying4
  obtain ⟨A47, n47, k47, rfl⟩ := Leaf.sl Tryz.underlying34 l47
  obtain ⟨A48, n48, k48, rfl⟩ := Leaf.sl Tryz.underlying34 l48
  obtain ⟨a49, rfl, w49⟩ := l49.int Tryz.underlying24
  obtain ⟨a50, rfl, w50⟩ := l50.int Tryz.underlying3
  obtain ⟨A51, n51, k51, x51, rfl, s51, o51, m51, _⟩ := Leaf.slice AllocD.cells (fun y => In64 y.id) Tryz.underlying43 cAlloc (by decide) alloc_read l51
  refine ⟨⟨a0, a1, a3, a4, a2, A5, n5, k5, x5, [.int .i64 a6, .int .i64 a7, .int .i64 a8, .int .i64 a9, .int .i64 a10, .int .i64 a11, .int .i64 a12, .bool a13, .int .i64 a14, .int .i64 a15, .int .i64 a16, .int .i64 a17, .slice A18 n18 k18, .slice A19 n19 k19, .slice A20 n20 k20, .slice A21 n21 k21, .int .i64 a22, .int .i64 a23, .int .i64 a24, .int .i64 a25, .int .i64 a26, .int .i64 a27, .int .i64 a28, .slice A29 n29 k29, .int .i64 a30, .bool a31, .int .i64 a32, .int .i64 a33, .int .i64 a34, .bool a35, .bool a36, .int .i64 a37, .int .i64 a38, .int .i64 a39, .slice A40 n40 k40, .int .i64 a41, .int .i64 a42, .int .i64 a43, .slice A44 n44 k44, .slice A45 n45 k45, .bool a46, .slice A47 n47 k47, .slice A48 n48 k48, .int .i64 a49, .int .i64 a50, .slice A51 n51 k51], ⟨a6, a7, a8, a14, a17, a22, a37, a38, a49, a50⟩, A51, n51, k51, x51⟩, rfl, ?_⟩
  exact ⟨in64_wf w0, in64_wf w1, s5, by simp only; omega, o5, rfl, ⟨rfl, rfl, rfl, rfl, rfl, rfl, rfl, rfl, rfl, rfl, rfl, rfl⟩, in64_wf w14, rfl, s51, by simp only; omega, o51⟩
end
theorem deeds_open {B : Nat} (hB1 : B ≤ 1048577) {H : Type} {enc : TypeId × Value → H} {W : World} {base : Nat} {v0 : Value} {d0 : DataW H} {p0 : List MemPlace} (hv : Value.okWide Tryz.prog W .any base 22 v0) (h0 : DataW.Trod enc Tryz.prog W 0 (fun _ => true) true 22 v0 d0 p0) (hk : Rows.uptoBulk d0 ≤ B) :
    ∃ A n cap, ∃ l : List LDeed, v0 = .slice A n cap ∧ Sl W 52 A n (l.map LDeed.cells) ∧ (∀ x ∈ l, x.Read W) ∧ n + 1 ≤ B := by
  obtain ⟨A, n, cap, rfl⟩ := okWide_slice Tryz.underlying22 hv
  obtain ⟨fuel, hf⟩ := h0
  obtain ⟨A', n', cap', l, e1, hl, hok, hn, hm⟩ := Leaf.slice (B := B) LDeed.cells (LDeed.Read W) Tryz.underlying22 cDeed (by decide) (deed_read hB1) ⟨fuel, _, hf, hk⟩
  injection e1 with e1 e2 e3
  subst e1 e2 e3
  exact ⟨A, n, cap, l, rfl, hl, hok, hn⟩
theorem allocs_open {B : Nat} {H : Type} {enc : TypeId × Value → H} {W : World} {base : Nat} {v0 : Value} {d0 : DataW H} {p0 : List MemPlace} (hv : Value.okWide Tryz.prog W .any base 43 v0) (h0 : DataW.Trod enc Tryz.prog W 0 (fun _ => true) true 43 v0 d0 p0) (hk : Rows.uptoBulk d0 ≤ B) :
    ∃ A n cap, ∃ l : List AllocD, v0 = .slice A n cap ∧ Sl W 11 A n (l.map AllocD.cells) ∧ (∀ x ∈ l, In64 x.id) ∧ n + 1 ≤ B := by
  obtain ⟨A, n, cap, rfl⟩ := okWide_slice Tryz.underlying43 hv
  obtain ⟨fuel, hf⟩ := h0
  obtain ⟨A', n', cap', l, e1, hl, hok, hn, hm⟩ := Leaf.slice (B := B) AllocD.cells (fun y => In64 y.id) Tryz.underlying43 cAlloc (by decide) alloc_read ⟨fuel, _, hf, hk⟩
  injection e1 with e1 e2 e3
  subst e1 e2 e3
  exact ⟨A, n, cap, l, rfl, hl, hok, hn⟩
end Go.Proofs.YtockcifkphfnlaaGreatDoor
