/- Rows of structs that are copied within and moved: laws of no program. -/
import Derived.Test.YtockcifkphfnlaaGreatDoorStore
import Derived.Shelf.Spec.SlicesInsert
namespace Go.Proofs.YtockcifkphfnlaaGreatDoor
set_option linter.unusedVariables false
open Go.RowKit

theorem run_copyK {P : Program} (w : World) (dT sT ty elem : TypeId) (sz b o dLen dCap : Nat) (a : Addr) (sLen sCap : Nat) (cs : List Value)
    (hu : P.underlying dT = some (.slice elem)) (hs : (P.info? elem).map (·.size) = some sz) (hn : cs.length = Nat.min sLen dLen * sz)
    (hsrc : ∀ j v, cs[j]? = some v → w.cell? (a.add j) = some v) (hc : ∀ j, j < cs.length → (w.cell? ⟨b, o + j, none⟩).isSome = true) (hf : ∀ j, j < cs.length → w.frozen? ⟨b, o + j, none⟩ = false) (h1 : ∀ v ∈ cs, v.oneCell' = true) :
    (Builtin.copy_ #[dT, sT] ty #[.slice (some ⟨b, o, none⟩) dLen dCap, .slice (some a) sLen sCap]).run P w = .ok (goInt (Nat.min sLen dLen)) (w.setCells b o cs) := by
  have hl := run_loadCells_list (P := P) w a cs hsrc
  have hst := run_storeCells_cells (P := P) b o cs 0 w (by simpa using hc) (by simpa using hf) h1
  cases hq : P.info? elem with
  | none => simp [hq] at hs
  | some i =>
    have hi : i.size = sz := by simpa [hq] using hs
    simp [Builtin.copy_, run_underlying hu, Builtin.lenOf, Builtin.firstCells, sizeOf, typeInfo, hq, hi, ← hn, hl, hst]

/-- cells laid into a block that is known whole -/
theorem Blk.setCells {g : Nat} {t : TypeId} : ∀ (vs : List Value) (o : Nat) (w : World) (cs : Array Value), Blk w g t cs → o + vs.length ≤ cs.size →
    ∃ cs', Blk (w.setCells g o vs) g t cs' ∧ cs'.toList = cs.toList.take o ++ vs ++ cs.toList.drop (o + vs.length) ∧ cs'.size = cs.size
  | [], o, w, cs, h, _ => ⟨cs, h, by simp, rfl⟩
  | v :: r, o, w, cs, h, ho => by
    simp only [List.length_cons] at ho
    obtain ⟨cs', h1, h2, h3⟩ := Blk.setCells r (o + 1) (w.setCell ⟨g, o, none⟩ v) (cs.setIfInBounds o v) (h.set_ o v) (by simp; omega)
    refine ⟨cs', h1, ?_, by rw [h3]; simp⟩
    have hlt : o < cs.toList.length := by simp; omega
    rw [h2, Array.toList_setIfInBounds, List.length_cons]
    have e1 : (cs.toList.set o v).take (o + 1) = cs.toList.take o ++ [v] := by
      rw [List.set_eq_take_append_cons_drop, if_pos hlt]
      have hm : (cs.toList.take o).length = o := by rw [List.length_take]; omega
      rw [List.take_append, hm, List.take_of_length_le (by omega), show o + 1 - o = 1 by omega]
      simp
    have e2 : (cs.toList.set o v).drop (o + 1 + r.length) = cs.toList.drop (o + (r.length + 1)) := by
      rw [List.drop_set_of_lt (by omega), show o + 1 + r.length = o + (r.length + 1) by omega]
    rw [e1, e2]
    simp [List.append_assoc]
theorem Ext.setCells {S : Nat → Prop} {w : World} {g : Nat} : ∀ (vs : List Value) (o : Nat) {w' : World}, Ext S w w' → (w.heap.size ≤ g ∨ S g) → Ext S w (w'.setCells g o vs)
  | [], o, w', h, _ => h
  | v :: r, o, w', h, hg => Ext.setCells r (o + 1) (h.setCell (p := ⟨g, o, none⟩) hg v) hg
end Go.Proofs.YtockcifkphfnlaaGreatDoor
