/- Parts of the proof: Lv11F -/
import Derived.Test.YtccekmeifanipaaGreatL13
import Derived.Test.YtccekmeifanipaaGreatL07
namespace Go.Proofs.YtccekmeifanipaaGreat
set_option linter.unusedVariables false
set_option linter.unusedSimpArgs false
set_option linter.unusedSectionVars false
open Go.RowKit
namespace Fsm
theorem Ql {m : Nat} {s : Ab} (h : Num m s) {a b : Ac} (ha : a ∈ s.allocs) (hb : b ∈ s.allocs) (e : a.id = b.id) : a = b := by
 have h1 := h.ids
 rw [List.pairwise_map] at h1
 obtain ⟨i, hi, rfl⟩ := List.mem_iff_getElem.1 ha
 obtain ⟨j, hj, rfl⟩ := List.mem_iff_getElem.1 hb
 rcases Nat.lt_trichotomy i j with h2 | h2 | h2
 ·have := List.pairwise_iff_getElem.1 h1 i j hi hj h2; omega
 ·subst h2; rfl
 have := List.pairwise_iff_getElem.1 h1 j i hj hi h2; omega
theorem NC {m : Nat} {s t : Ab} (hs : Num m s) (hn : Ed s t) {a b : Ac} (ha : a ∈ s.allocs) (hb : b ∈ t.allocs) (e : b.id = a.id) : On a b := by
 rcases hn.2 b hb with ⟨a', ha', ho⟩ | h
 ·have h1 : b.id = a'.id := (Cs ho.core).2.2.2.2.2.2.1
  rwa [Ql hs ha ha' (by omega)]
 have := hs.lt a ha; omega
theorem Oq {s t : Ab} (hw : Way s t) {a : Ac} (ha : a ∈ s.allocs) (h : ∀ b ∈ t.allocs, b.id ≠ a.id) : Bb a = true := by
 rcases hw a ha with ⟨b, hb, ho⟩ | h1
 ·exact absurd (Cs ho.core).2.2.2.2.2.2.1 (h b hb)
 exact h1
theorem NY {t : Nat} {s u : Ab} {r : AU} (hg : Num (t * 1099511627776) s) {ix : Int} {c : BC} (hp : c.plan.places.length ≤ 1048576) (ht : t ≤ 1048576) (e : apply s ix c = (u, r)) : Way s u ∧ Ed s u := by
 have h1 := Og hg ix c (by have := Qs hp; omega)
 rw [e] at h1
 exact h1
end Fsm
end Go.Proofs.YtccekmeifanipaaGreat
