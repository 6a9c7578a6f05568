/- A writer of records: what it keeps; one number. -/
import Derived.Test.YtjcjiokneibfdaaGreatDoorStore
import Derived.Test.YtjcjiokneibfdaaGreatDoorProg
namespace Go.Proofs.YtjcjiokneibfdaaGreatDoor
set_option linter.unusedVariables false
set_option linter.unusedSimpArgs false
open Go.RowKit

theorem own_blk {w : World} {base e sz n g : Nat} {v : Value} {xs : List Value} (h : w.ownsRow base e sz v n xs) (hv : v.ownBlock = some g) : ∃ cs, Blk w g e cs := by
  rcases h.2 with ⟨rfl, _⟩ | ⟨g', cap, cur, rfl, _, hg, _⟩
  · simp [Value.ownBlock] at hv
  · simp [Value.ownBlock] at hv
    subst hv
    exact ⟨cur, hg⟩
theorem SRu8 : SliceT Tryz.prog 69 5 1 := .of (by kernel_rfl)
/-- what a writer may write -/
def FX (fb : Nat) (w : World) (b : Nat) : Prop := fb ≤ b ∧ ∃ t cs, Blk w b t cs ∧ (t = 5 ∨ t = 250)
/-- the writer in a block: at most N bytes, in a row of its own -/
structure FormW (w : World) (fb N : Nat) (bad : Bool) (v : Value) (n : Nat) (xs : List Value) : Prop where
  blk : Blk w fb 250 #[v, .bool false, .bool bad]
  own : w.ownsRow fb 5 1 v n xs
  len : n ≤ N
def Form (w : World) (fb N : Nat) (bad : Bool) : Prop := ∃ v n xs, FormW w fb N bad v n xs
/-- cells that a writer leaves alone -/
def CRec (w : World) (b : Nat) (cs : Array Value) : Prop := ∃ t, Blk w b t cs ∧ t ≠ 5 ∧ t ≠ 250
/-- a writer has written: no more than so many bytes; what is bad stays bad -/
structure Wrote (fb N : Nat) (bad : Bool) (w : World) (e : Ending) (w' : World) : Prop where
  ret : e = .returned (.tuple #[])
  ext : Ext (FX fb w) w w'
  form : ∃ bad', Form w' fb N bad' ∧ (bad = true → bad' = true)
/-- likewise, and a number is answered -/
structure WroteN (fb N : Nat) (bad : Bool) (over : Prop) (w : World) (e : Ending) (w' : World) : Prop where
  ret : ∃ r : Int, e = .returned (.int .i64 r)
  ext : Ext (FX fb w) w w'
  form : ∃ bad', Form w' fb N bad' ∧ (bad = true → bad' = true) ∧ (over → bad' = true)
section
variable {w w' w'' : World} {fb N b : Nat} {bad : Bool} {cs : Array Value} {S : Nat → Prop}
theorem FX.back (hx : Ext (FX fb w) w w') (h : FX fb w' b) (hb : b < w.heap.size) : FX fb w b := by
  by_cases hn : FX fb w b
  · exact hn
  · obtain ⟨h1, t, cs, h2, h3⟩ := h
    exact ⟨h1, t, cs, (hx.block b hb hn).symm.trans h2, h3⟩
theorem Ext.fx (h : Ext (FX fb w) w w') (k : Ext S w' w'') (hr : ∀ b, S b → FX fb w' b) : Ext (FX fb w) w w'' := h.trans k (fun b hb e => (hr b e).back h hb)
theorem CRec.not (h : CRec w b cs) : ¬ FX fb w b := by
  rintro ⟨_, t', cs', h2, h3⟩
  obtain ⟨t, h1, n1, n2⟩ := h
  have e : some (Obj.cells cs t (0, 0)) = some (Obj.cells cs' t' (0, 0)) := h1.symm.trans h2
  injection e with e
  injection e with _ e _
  subst e
  exact h3.elim n1 n2
theorem CRec.keep (h : CRec w b cs) (hx : Ext (FX fb w) w w') : CRec w' b cs := by
  have hn := CRec.not (fb := fb) h
  obtain ⟨t, h1, n1, n2⟩ := h
  exact ⟨t, h1.ext hx hn, n1, n2⟩
theorem CRec.e0 (h : CRec w b cs) (hx : Ext Nothing w w') : CRec w' b cs := let ⟨t, h1, n⟩ := h; ⟨t, h1.e0 hx, n⟩
theorem CRec.cell (h : CRec w b cs) (i : Nat) : w.cell? ⟨b, i, none⟩ = cs[i]? := let ⟨_, h1, _⟩ := h; h1.cell i
theorem CRec.frozen (h : CRec w b cs) (i : Nat) : w.frozen? ⟨b, i, none⟩ = false := let ⟨_, h1, _⟩ := h; h1.frozen i
theorem CRec.ne {v : Value} {n : Nat} {xs : List Value} (h : CRec w b cs) (f : FormW w fb N bad v n xs) : b ≠ fb := by
  rintro rfl
  obtain ⟨t, h1, n1, n2⟩ := h
  exact h1.ne f.blk n2 rfl
theorem Form.fx {v : Value} {n : Nat} {xs : List Value} (f : FormW w fb N bad v n xs) : FX fb w fb := ⟨Nat.le_refl _, _, _, f.blk, .inr rfl⟩
theorem Form.fxo {v : Value} {n : Nat} {xs : List Value} (f : FormW w fb N bad v n xs) {g : Nat} (hg : v.ownBlock = some g) : FX fb w g := by
  obtain ⟨cs, h⟩ := own_blk f.own hg
  exact ⟨own_ge f.own hg, _, _, h, .inl rfl⟩
theorem Form.e0 (h : Form w fb N bad) (hx : Ext Nothing w w') : Form w' fb N bad := let ⟨v, n, xs, f⟩ := h; ⟨v, n, xs, f.blk.e0 hx, own_ext f.own hx (fun _ _ e => e), f.len⟩
theorem Form.mono {M : Nat} (h : Form w fb N bad) (hM : N ≤ M) : Form w fb M bad := let ⟨v, n, xs, f⟩ := h; ⟨v, n, xs, f.blk, f.own, Nat.le_trans f.len hM⟩
theorem CRec.same (h : CRec w b cs) {o : Nat} {v : Value} (hv : cs[o]? = some v) : Ext Nothing w (w.setCell ⟨b, o, none⟩ v) := by
  obtain ⟨t, h1, _⟩ := h
  have hx := Ext.set1 w b o v
  refine ⟨hx.os, hx.tape, hx.output, hx.size, fun k hk _ => ?_⟩
  by_cases e : k = b
  · subst e
    have h2 := h1.set_ o v
    have h3 : cs.setIfInBounds o v = cs := by
      obtain ⟨ho, he⟩ := Array.getElem?_eq_some_iff.1 hv
      apply Array.ext_getElem?
      intro j
      rw [Array.getElem?_setIfInBounds]
      by_cases ej : o = j
      · subst ej; rw [if_pos rfl, if_pos ho, hv]
      · rw [if_neg ej]
    rw [h3] at h2
    exact h2.trans h1.symm
  · exact hx.block k hk e
theorem CRec.new (w : World) (t : TypeId) (cs : Array Value) (h1 : t ≠ 5) (h2 : t ≠ 250) : CRec (w.alloc (.cells cs t)) w.heap.size cs := ⟨t, Blk.new w t cs, h1, h2⟩
/-- the flag is set -/
theorem Form.flag (h : Form w fb N bad) (b' : Bool) : Form (w.setCell ⟨fb, 2, none⟩ (.bool b')) fb N b' ∧ Ext (FX fb w) w (w.setCell ⟨fb, 2, none⟩ (.bool b')) := by
  obtain ⟨v, n, xs, f⟩ := h
  have hx := Ext.set1 w fb 2 (.bool b')
  refine ⟨⟨v, n, xs, f.blk.set_ 2 _, own_ext f.own hx (fun g hg e => ?_), f.len⟩, hx.mono fun b _ e => by rw [show b = fb from e]; exact Form.fx f⟩
  exact own_ne f.own f.blk (by decide) (by rw [hg, show g = fb from e])
/-- a byte more -/
theorem FormW.app {w1 w2 : World} {v : Value} {n : Nat} {xs : List Value} (f : FormW w fb N bad v n xs) {A : Option Addr} {c : Nat} {xs' : List Value} (ho : w2.ownsRow fb 5 1 (.slice A (n + 1) c) (n + 1) xs') (hg : w1.grownBy w2 v.ownBlock) (hxa : Ext Nothing w w1) :
    Blk w2 fb 250 #[v, .bool false, .bool bad] ∧ Form (w2.setCell ⟨fb, 0, none⟩ (.slice A (n + 1) c)) fb (N + 1) bad ∧ Ext (FX fb w) w (w2.setCell ⟨fb, 0, none⟩ (.slice A (n + 1) c)) := by
  have b1 := f.blk.e0 hxa
  have o1 := own_ext f.own hxa (fun _ _ e => e)
  have hx2 : Ext (fun q => v.ownBlock = some q) w1 w2 := (Ext.refl _ _).grown hg (fun g hg => .inr hg)
  have b2 := b1.ext hx2 (fun e => own_ne o1 b1 (by decide) e)
  have hx3 := Ext.set1 w2 fb 0 (.slice A (n + 1) c)
  have hxb : Ext (FX fb w) w w2 := (hxa.mono (fun _ _ e => e.elim) : Ext (FX fb w) w w1).trans hx2 (fun b hb e => Form.fxo f e)
  refine ⟨b2, ⟨_, _, _, b2.set_ 0 _, own_ext ho hx3 (fun g hg e => own_ne ho b2 (by decide) (by rw [hg, show g = fb from e])), by have := f.len; omega⟩, ?_⟩
  exact hxb.trans hx3 (fun b hb e => by rw [show b = fb from e]; exact Form.fx f)
end
end Go.Proofs.YtjcjiokneibfdaaGreatDoor
