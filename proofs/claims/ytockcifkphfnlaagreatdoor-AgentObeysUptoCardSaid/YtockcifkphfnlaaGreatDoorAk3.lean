/- strings.Trim at the letters of a name; the disk's ask; its list of names. -/
import Derived.Test.YtockcifkphfnlaaGreatDoorAkLay
import Derived.Test.YtockcifkphfnlaaGreatDoorAk1
namespace Go.Proofs.YtockcifkphfnlaaGreatDoor
set_option linter.unusedVariables false
set_option linter.unusedSimpArgs false
open Go.RowKit Go.Shelf Go.Sort
open Go.Maps Go.WideMaps
variable {M : Nat → Prop}

abbrev lettersB : List UInt8 := [97, 98, 99, 100, 101, 102, 103, 104, 105, 106, 107, 108, 109, 110, 111, 112, 113, 114, 115, 116, 117, 118, 119, 120, 121, 122, 48, 49, 50, 51, 52, 53, 54, 55, 56, 57, 46, 45]
theorem letter_mem (b : UInt8) : lettersB.contains b = Dk.letter b := by
  have h : ∀ n : Fin 256, lettersB.contains (UInt8.ofNat n.val) = Dk.letter (UInt8.ofNat n.val) := by decide +kernel
  have h2 := h ⟨b.toNat, UInt8.toNat_lt b⟩
  rw [show UInt8.ofNat (⟨b.toNat, UInt8.toNat_lt b⟩ : Fin 256).val = b from UInt8.ofNat_toNat] at h2
  exact h2
theorem dropWhile_nil {α : Type} (p : α → Bool) : ∀ l : List α, l.dropWhile p = [] ↔ l.all p = true
  | [] => by simp
  | x :: r => by
    rw [List.dropWhile_cons, List.all_cons]
    cases h : p x <;> simp [dropWhile_nil p r]
theorem trim_nil (s : Dk.Str) : (Lib.trimS s lettersB = []) ↔ s.all Dk.letter = true := by
  have hf : (fun x => lettersB.contains x) = Dk.letter := funext letter_mem
  unfold Lib.trimS Lib.trimLeftS Lib.trimRightS
  rw [hf, dropWhile_nil]
  constructor
  · intro h
    rw [List.all_reverse] at h
    have h2 : s.reverse.dropWhile Dk.letter = [] := by
      cases hq : s.reverse.dropWhile Dk.letter with
      | nil => rfl
      | cons x r =>
        have h3 : Dk.letter x = false := by
          have := List.head?_dropWhile_not Dk.letter s.reverse
          rw [hq] at this
          simpa using this
        rw [hq, List.all_cons, h3] at h
        simp at h
    rw [dropWhile_nil, List.all_reverse] at h2
    exact h2
  · intro h
    have h2 : s.reverse.dropWhile Dk.letter = [] := by rw [dropWhile_nil, List.all_reverse]; exact h
    rw [h2]
    rfl
theorem trim_empty (s : Dk.Str) : (Lib.trimS s lettersB).isEmpty = s.all Dk.letter := by
  cases h : s.all Dk.letter with
  | true => rw [(trim_nil s).2 h]; rfl
  | false =>
    cases hq : Lib.trimS s lettersB with
    | nil => rw [(trim_nil s).1 hq] at h; cases h
    | cons x r => rfl
theorem dkTrim (s : Dk.Str) (hs : s.length ≤ maxLen) (w : World) : Calls Tryz.prog 41 #[strV s, .string ⟨lettersB.toArray⟩] w fun e w' => e = .returned (strV (Lib.trimS s lettersB)) ∧ Ext Nothing w w' :=
  (Any.strings_Trim_laid Tryz.lays160 (by kernel_rfl) ⟨s.toArray⟩ ⟨lettersB.toArray⟩ w (by have : s.toArray.size = s.length := by simp
                                                                                           unfold maxLen at hs
                                                                                           show s.toArray.size ≤ _
                                                                                           omega) (by decide) (ascii_of_all (by decide))).mono fun e w' ⟨he, hb⟩ => ⟨by simpa using he, Ext.of_below' hb⟩
end Go.Proofs.YtockcifkphfnlaaGreatDoor
