/- The disk's List: the files' names, sorted. -/
import Derived.Test.YtlfpfhdagkkliaaDoorDk13
import Derived.Test.YtlfpfhdagkkliaaDoorDkLay
namespace Go.Proofs.YtlfpfhdagkkliaaDoor
set_option linter.unusedVariables false
set_option linter.unusedSimpArgs false
open Go.RowKit Go.Maps Go.Sort Go.Shelf

/-- slices.Sort's two contracts, at the fence that asks nothing -/
theorem sortsA (m : Nat) : AnyZ.SortsIn Tryd.prog Tryd.sortedA_ren Fence.wide m :=
  ⟨fun blk off cap ss W hH hblk hsz => callsIn_wide.2 (Any.slices_Sort_string Tryd.lays190 blk off cap ss W hH hblk hsz),
   fun p cap W => callsIn_wide.2 (Any.slices_Sort_string_none Tryd.lays190 p cap W)⟩
/-- whatever reads as an element -/
def anyElem (_ : Value) : Option (DataW Unit × List Go.MemPlace) := some (.nil, [])
set_option maxRecDepth 20000 in
theorem fm_owns {w : World} {Ok : Nat → Prop} {b : Nat} {F : Dk.Files} (h : FM w Ok b F) (hF : F.length ≤ 64) :
    ∃ D : DataW Unit, w.ownsMap Tryd.prog 9 anyElem b 64 D ∧ Maps.size D ≤ 64 ∧ (strKeys D).Perm (Dk.keys F) := by
  obtain ⟨L, ⟨es, clock, hb, m1, m2, m3⟩, h2, h3⟩ := h.out
  obtain ⟨es', clock', s1, s2, s3⟩ := h.st
  rw [hb] at s1
  injection s1 with s1
  injection s1 with s1 s4
  subst s1 s4
  have hlen : es.size = F.length := by
    have e1 := congrArg List.length m1
    have e2 := h3.length_eq
    simp only [List.length_map, Array.length_toList] at e1 e2
    omega
  have hrd : ∀ x ∈ es.toList, ∃ s : List UInt8, x.key = strV s ∧ Go.WideElems.rd Tryd.prog 9 anyElem x = some (.string s, .nil) := by
    intro x hx
    obtain ⟨j, hj⟩ := List.getElem?_of_mem hx
    obtain ⟨p, hp, e1, e2⟩ := MapIs.at_ m1 hj
    obtain ⟨l, hl⟩ := m2 p (List.mem_of_getElem? hp)
    obtain ⟨s, e3, e4, e5⟩ := Go.Maps.keyOf_str Tryd.underlying9 hl
    have e6 : p.1 = s := strV_inj _ _ e3
    subst e6
    subst e4
    refine ⟨p.1, e1, ?_⟩
    obtain ⟨key, val, born⟩ := x
    simp only at e1
    subst e1
    exact Go.WideElems.rd_mk (R := anyElem) (yv := (.nil, [])) hl rfl
  have hkeys : (es.toList.map (Go.WideElems.rg Tryd.prog 9 anyElem)).map (fun p => strOf p.1) = L.map (·.1) := by
    rw [List.map_map]
    have e1 : es.toList.map (fun e => e.key) = L.map (fun p => strV p.1) := by
      have := congrArg (List.map Prod.fst) m1
      rw [List.map_map, List.map_map] at this
      exact this
    have e2 : (es.toList.map ((fun p : Lit × DataW Unit => strOf p.1) ∘ Go.WideElems.rg Tryd.prog 9 anyElem)).map strV = (L.map (·.1)).map strV := by
      rw [List.map_map, List.map_map]
      refine Eq.trans (List.map_congr_left fun x hx => ?_) e1
      obtain ⟨s, k1, k2⟩ := hrd x hx
      show strV (strOf _) = _
      rw [Go.WideElems.rg_of k2, k1]
      rfl
    refine List.map_inj_right (f := strV) (fun x y e => strV_inj x y e) |>.1 ?_
    exact e2
  refine ⟨.map ((es.toList.map (Go.WideElems.rg Tryd.prog 9 anyElem)).foldr DataW.insert []), ⟨es, clock, hb, ⟨by unfold maxLen; omega, s2, fun x hx => by obtain ⟨s, _, e⟩ := hrd x hx; exact ⟨_, e⟩⟩, by omega, rfl⟩, ?_, ?_⟩
  · show ((es.toList.map (Go.WideElems.rg Tryd.prog 9 anyElem)).foldr DataW.insert []).length ≤ 64
    rw [(Go.WideShapes.sorted_perm _).length_eq, List.length_map, Array.length_toList]
    omega
  · show (((es.toList.map (Go.WideElems.rg Tryd.prog 9 anyElem)).foldr DataW.insert []).map fun p => strOf p.1).Perm _
    refine ((Go.WideShapes.sorted_perm _).map _).trans ?_
    rw [hkeys]
    have := h3.map (·.1)
    rw [List.map_map] at this
    exact this
theorem keys_sorted {F : Dk.Files} (hA : Dk.Asc F) {ss : List (List UInt8)} (h : ss.Perm (Dk.keys F)) : ss.mergeSort (fun x y => decide (x ≤ y)) = Dk.keys F := by
  rw [show ss.mergeSort (fun x y => decide (x ≤ y)) = ss.mergeSort leB from rfl, mergeSort_of_perm h]
  refine List.mergeSort_of_pairwise ?_
  refine List.Pairwise.imp (fun {a b} hab => ?_) hA
  simp only [leB, decide_eq_true_eq]
  exact List.le_of_lt hab
set_option maxRecDepth 20000 in
set_option maxHeartbeats 8000000 in
theorem sortedKeys {Ok : Nat → Prop} {b : Nat} {F : Dk.Files} (w : World) (h : FM w Ok b F) (hA : Dk.Asc F) (hF : F.length ≤ 64) :
    Calls Tryd.prog 47 #[.func (.func 61) #[] #[.pointer (some ⟨w.heap.size, 0, none⟩)]] (w.alloc (.cells #[.map (some b)] 54)) fun e w' => ∃ v, e = .returned v ∧ w'.ownsRow w.heap.size 9 1 v F.length ((Dk.keys F).map strV) ∧ Ext Nothing w w' := by
  obtain ⟨D0, hown, hsz, hp⟩ := fm_owns h hF
  refine (callsIn_wide (n := 5)).1 ?_
  have hseq : SeqGives Fence.wide 2 Tryd.prog 61 #[.pointer (some ⟨w.heap.size, 0, none⟩)] encStr (fun ss => ss.Perm (strKeys D0)) (Maps.size D0) (w.alloc (.cells #[.map (some b)] 54)) :=
    AnyZ.keys_gives (ρ := Tryd.keysA_ren) { Tryd.keysA with } Fence.wide _ trivial rfl (by omega) w.heap.size b 64 D0 _ (by simp) (by simp) (by
      have hbl := hown.lt
      obtain ⟨es, clock, hb, Ft, hs, hD⟩ := hown
      exact ⟨es, clock, (Below.heap_alloc _ _ b hbl).trans hb, Ft, hs, hD⟩)
  have cS := AnyZ.sorted_in Tryd.sortedA Fence.wide 5 trivial trivial trivial trivial rfl (by omega) (sortsA _) (enters_of Tryd.func60 (by kernel_rfl) rfl) 61 #[.pointer (some ⟨w.heap.size, 0, none⟩)] trivial (enters_of Tryd.func61 (by kernel_rfl) rfl) _ _ (by unfold maxLen; omega) (by omega) _ hseq
  change CallsIn _ _ Tryd.prog 47 _ _ _ at cS
  refine cS.mono ?_
  rintro e w' ⟨v, ss, rfl, hS, hrow, hnil, hb⟩
  have hks := hS.trans hp
  rw [keys_sorted hA hks, show ss.length = F.length by rw [hks.length_eq]; exact List.length_map ..] at hrow
  exact ⟨v, rfl, ownsRow_base_a hrow (by simp), (show Ext Nothing w _ from Ext.auto).tr (Ext.of_below' hb)⟩
theorem mapsKeys (b : Option Nat) (W : World) : Calls Tryd.prog 48 #[.map b] W fun e w' => e = .returned (.func (.func 61) #[] #[.pointer (some ⟨W.heap.size, 0, none⟩)]) ∧ w' = W.alloc (.cells #[.map b] 54) :=
  (callsIn_wide (n := 5)).1 (AnyZ.keys_in Tryd.keysA Fence.wide 5 trivial rfl b W)
set_option maxRecDepth 20000 in
set_option maxHeartbeats 8000000 in
theorem dkList {Ok : Nat → Prop} {b : Nat} {d : Dk.DiskD} (w : World) (h : DiskIs w Ok b d) (hg : Dk.Good d) :
    Calls Tryd.prog 22 #[.pointer (some ⟨b, 0, none⟩)] w fun e w' => ∃ v, e = .returned v ∧ w'.ownsRow w.heap.size 9 1 v d.list.length (d.list.map strV) ∧ Ext Nothing w w' := by
  obtain ⟨bd, bn, AD, nD, cD, L, ys, h⟩ := h.out
  have hfo := hg.files
  have k1 : w.cell? ⟨b, 1, none⟩ = some (.map (some bn)) := h.blk.cell 1
  have hs := sortedKeys w h.now hfo.asc hfo.few
  go_enter Tryd.func22, Tryd.ntmps22
  go_wp2_with (first | go_skip | go_guarded | (go_at_call 48; (with_reducible refine (mapsKeys (some bn) w).mono ?_); rintro e w' ⟨rfl, rfl⟩) | (go_at_call 47; (with_reducible refine hs.mono ?_); rintro e w2 ⟨v, rfl, ho, hx⟩))
  go_ret
  exact ⟨v, rfl, by rw [show d.list.length = d.files.length from List.length_map ..]; exact ho, hx⟩
end Go.Proofs.YtlfpfhdagkkliaaDoor
