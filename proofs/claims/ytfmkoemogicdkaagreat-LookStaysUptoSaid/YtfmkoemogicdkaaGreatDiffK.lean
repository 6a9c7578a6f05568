/- What a slot reads as as a map's key; the zero values that Diff makes. -/
import Derived.Test.YtfmkoemogicdkaaGreatRoll
namespace Go.Proofs.YtfmkoemogicdkaaGreat
set_option linter.unusedVariables false
open Go.RowKit
open Go.Maps (Keyed)

abbrev encS (x : SlotD) : Value := .agg #[.int .i64 x.group, .int .i64 x.index]
def In64 (a : Int) : Prop := -9223372036854775808 ≤ a ∧ a ≤ 9223372036854775807
theorem encS_inj (x y : SlotD) (h : encS x = encS y) : x = y := by
  obtain ⟨a, b⟩ := x
  obtain ⟨a', b'⟩ := y
  simpa [encS] using h
theorem c_slot : Tryz.prog.cellsOf 86 = 2 := by kernel_rfl
theorem c_int : Tryz.prog.cellsOf 3 = 1 := by kernel_rfl
theorem kt_slot : Tryz.prog.keyType 86 = true := by kernel_rfl
theorem ULmsb : Tryz.prog.underlying 118 = some (.map 86 4) := by kernel_rfl
theorem key_slot {k : SlotD} (h1 : In64 k.group) (h2 : In64 k.index) : ∃ l, keyOf Tryz.prog 86 (encS k) = some l := by
  obtain ⟨a, b⟩ := k
  obtain ⟨a1, a2⟩ := h1
  obtain ⟨b1, b2⟩ := h2
  have ha : (Lit.int .i64 a).wf = true := WalkArith.wf_i64 (by simp only at *; omega)
  have hb : (Lit.int .i64 b).wf = true := WalkArith.wf_i64 (by simp only at *; omega)
  obtain ⟨n, hn⟩ : ∃ n, Tryz.prog.types.size + 1 = n + 2 := ⟨_, rfl⟩
  have hf : (Value.agg #[.int .i64 a, .int .i64 b]).formed Tryz.prog 86 = true := by simp [Value.formed, Tryz.underlying86, c_slot]
  have hl : Tryz.prog.keyLits (n + 2) 86 [.int .i64 a, .int .i64 b] = some [.int .i64 a, .int .i64 b] := by
    rw [keyLits_struct Tryz.underlying86 (by rw [c_slot]; rfl) (by kernel_rfl)]
    simp [keyLits_int ULint ha, keyLits_int ULint hb, c_int]
  simp only [keyOf, Tryz.underlying86, kt_slot, hf, hn, Bool.and_self, if_true]
  exact ⟨_, by rw [show (Value.agg #[.int .i64 a, .int .i64 b]).cells.toList = [.int .i64 a, .int .i64 b] from rfl, hl]; rfl⟩
theorem laidOut : laidOutB Tryz.prog = true := by kernel_rfl
theorem KLslot : Keyed Tryz.prog 86 := Keyed.of_law (deep_law_laid laidOut (m := 2) (by omega) (of_decide_eq_true (by kernel_rfl)) (by kernel_rfl) (by rw [Tryz.underlying86]))
theorem SLslot : SliceT Tryz.prog 82 86 2 := .of (by kernel_rfl)
theorem BYslot : (Tryz.prog.info? 86).map (·.bytes) = some 16 := by kernel_rfl
theorem slotsF_64 {ns : List NodD} {j : JobD} (hns : ∀ n ∈ ns, In64 n.id) (hg : j.groups.length ≤ 1048576) {x : SlotD} (h : x ∈ slotsF ns j) : In64 x.group ∧ In64 x.index := by
  obtain ⟨k, hk, e⟩ := slotsF_mem h
  refine ⟨by rw [e]; constructor <;> omega, ?_⟩
  unfold slotsF at h
  split at h
  · simp at h
  · simp only [slotsOf, List.mem_flatMap] at h
    obtain ⟨⟨g, k⟩, hm, hx⟩ := h
    simp only [slotsAt, List.mem_map] at hx
    obtain ⟨i, hi, rfl⟩ := hx
    simp only
    unfold indexesF at hi
    split at hi
    · have hup : ∀ (l : List NodD) (out : List Int), (∀ n ∈ l, In64 n.id) → (∀ i ∈ out, In64 i) → ∀ i ∈ l.foldl upStep out, In64 i := by
        intro l
        induction l with
        | nil => intro out _ h i hi; exact h i hi
        | cons n r ih =>
          intro out hl ho i hi
          refine ih (upStep out n) (fun m hm => hl m (List.mem_cons_of_mem _ hm)) (fun i hi => ?_) i hi
          unfold upStep at hi
          split at hi
          · rcases List.mem_append.1 hi with hi | hi
            · exact ho i hi
            · simp at hi; subst hi; exact hl n (List.mem_cons_self ..)
          · exact ho i hi
      exact hup ns [] hns (by simp) i hi
    · simp only [List.mem_map, List.mem_range] at hi
      obtain ⟨t, ht, rfl⟩ := hi
      have := countF_le g
      constructor <;> omega
theorem look_slot {w : World} {b : Nat} {L : List (SlotD × Bool)} (h : MapIs Tryz.prog 86 encS .bool w b L) (x : SlotD) (h1 : In64 x.group) (h2 : In64 x.index) :
    (Instr.lookup 118 (.map (some b)) (encS x) false).run Tryz.prog w = .ok (.bool ((aget x L).getD false)) w := by
  obtain ⟨kl, hk⟩ := key_slot h1 h2
  have := h.look KLslot encS_inj ULmsb (ZVbool w) hk false
  simp only [Bool.false_eq_true, if_false] at this
  rw [this]
  cases aget x L <;> rfl
theorem aget_containsS (L : List (SlotD × Bool)) (p : List SlotD) (i : SlotD) (h : ∀ x, (aget x L).getD false = p.contains x) : ∀ x, (aget x (aput i true L)).getD false = (p ++ [i]).contains x := fun x => by
  by_cases hx : x = i
  · subst hx; rw [aget_aput_same]; simp
  · rw [aget_aput_other hx, h]; simp [hx]
theorem own_base {w : World} {base base' e sz n : Nat} {v : Value} {xs : List Value} (h : w.ownsRow base e sz v n xs) (hb : base' ≤ base) : w.ownsRow base' e sz v n xs := by
  refine ⟨h.1, ?_⟩
  rcases h.2 with hn | ⟨g, cap, cur, rfl, hg, rest⟩
  · exact .inl hn
  · exact .inr ⟨g, cap, cur, rfl, by omega, rest⟩
end Go.Proofs.YtfmkoemogicdkaaGreat
