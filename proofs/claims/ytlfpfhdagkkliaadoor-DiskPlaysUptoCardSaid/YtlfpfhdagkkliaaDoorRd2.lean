/- The document's disk: find, without, with. -/
import Derived.Test.YtlfpfhdagkkliaaDoorRd1
namespace Go.Proofs.YtlfpfhdagkkliaaDoor
set_option linter.unusedVariables false
set_option linter.unusedSimpArgs false
open Go.RowKit

def withoutY (ys : List FileC) (s : Dk.Str) : List FileC := ys.filter (fun y => !(y.1.1 == s))
def withY (ys : List FileC) (f : FileC) : List FileC := (withoutY ys f.1.1).takeWhile (fun g => decide (g.1.1 < f.1.1)) ++ f :: (withoutY ys f.1.1).dropWhile (fun g => decide (g.1.1 < f.1.1))
theorem withoutY_map (ys : List FileC) (s : Dk.Str) : (withoutY ys s).map (·.1) = Dk.without (ys.map (·.1)) s := by
  unfold withoutY Dk.without
  rw [List.filter_map]
  rfl
theorem withY_map (ys : List FileC) (f : FileC) : (withY ys f).map (·.1) = Dk.with_ (ys.map (·.1)) f.1 := by
  unfold withY Dk.with_
  rw [← withoutY_map, List.takeWhile_map, List.dropWhile_map, List.map_append, List.map_cons]
  rfl
theorem tw_take {α : Type} {p : α → Bool} : ∀ {zs : List α} {t : Nat}, (∀ j < t, ∀ y, zs[j]? = some y → p y = true) → t ≤ zs.length → (t = zs.length ∨ ∃ y, zs[t]? = some y ∧ p y = false) → zs.takeWhile p = zs.take t ∧ zs.dropWhile p = zs.drop t
  | [], t, _, h, _ => by simp at h; subst h; simp
  | z :: r, 0, _, _, h => by
    rcases h with h | ⟨y, h1, h2⟩
    · simp at h
    · have h1 : z = y := by simpa using h1
      subst h1
      simp [h2]
  | z :: r, t + 1, ha, hl, h => by
    have hz := ha 0 (by omega) z rfl
    have ih := tw_take (p := p) (zs := r) (t := t) (fun j hj y hy => ha (j + 1) (by omega) y (by simpa using hy)) (by simpa using hl) (by
      rcases h with h | h
      · exact .inl (by simpa using h)
      · exact .inr (by simpa using h))
    rw [List.takeWhile_cons_of_pos hz, List.dropWhile_cons_of_pos hz, ih.1, ih.2]
    simp
theorem find_y (ys : List FileC) (s : Dk.Str) : (idxI (fun y : FileC => y.1.1 == s) ys = -1 ∧ Dk.find (ys.map (·.1)) s = none) ∨ ∃ (i : Nat) (y : FileC), idxI (fun y : FileC => y.1.1 == s) ys = (i : Int) ∧ ys[i]? = some y ∧ Dk.find (ys.map (·.1)) s = some y.1.2 := by
  have hf : (ys.map (·.1)).find? (fun f : Dk.Str × List UInt8 => f.1 == s) = (ys.find? (fun y : FileC => y.1.1 == s)).map (·.1) := by
    rw [List.find?_map]
    rfl
  rcases idx_cases (fun y : FileC => y.1.1 == s) ys with ⟨h1, h2, _⟩ | ⟨i, y, h1, h2, _, h3, _⟩
  · exact .inl ⟨h1, by unfold Dk.find; rw [hf, h2]; rfl⟩
  · exact .inr ⟨i, y, h1, h2, by unfold Dk.find; rw [hf, h3]; rfl⟩
set_option maxRecDepth 20000 in
set_option maxHeartbeats 4000000 in
theorem rFind {Ok : Nat → Prop} (A : Option Addr) (n c : Nat) (ys : List FileC) (s : Dk.Str) (w : World) (h : FilesAt w Ok A n c ys) (hn : n < 67108864) :
    Calls Tryd.prog 51 #[.slice A n c, strV s] w fun e w' => e = .returned (.int .i64 (idxI (fun y : FileC => y.1.1 == s) ys)) ∧ Ext Nothing w w' := by
  have hl := h.sl
  have hlen := Lib.hid hl.len
  go_enter Tryd.func51, Tryd.ntmps51
  go_upto_region 2 with (first | go_skip | go_guarded)
  go_loopw [5] (fun ki wr => ∃ t : Nat, t ≤ n ∧ ki = .int .i64 t ∧ (∀ j < t, ∀ y, ys[j]? = some y → (y.1.1 == s) = false) ∧ Ext Nothing w wr) (fun ki _ => n - (intOf ki).toNat)
  case atStart => exact ⟨0, Nat.zero_le _, rfl, by simp, Ext.refl _ _⟩
  case round =>
    obtain ⟨t, ht, rfl, hno, hx⟩ := hrel
    by_cases hlt : t < n
    · obtain ⟨hjn, q, off, hAe, hce⟩ := hl.get hx hlt
      have hyt : ys[t]? = some ys[t] := List.getElem?_eq_getElem hjn
      generalize ys[t] = y at hce hyt
      obtain ⟨⟨nm, dt⟩, v⟩ := y
      subst hAe
      have c0 : wr.cell? ⟨q, off + t * 2, none⟩ = some (strV nm) := by have h9 := hce 0 _ rfl; simpa using h9
      have hk0 : (0 : Int) ≤ (t : Int) := by omega
      have hk1 : (t : Int) < n := by omega
      have HN := Lib.hid hno
      have HT := Lib.hid hlt
      have HY := Lib.hid hyt
      clear hce hno hlt hyt h
      cases he : (nm == s) with
      | true =>
        have HI := Lib.hid (idx_hit (p := fun y : FileC => y.1.1 == s) HN.out HY.out he)
        go_wp2_with (first | go_skip | go_guarded)
        go_ret
        exact ⟨by rw [HI.out]; rfl, hx⟩
      | false =>
        have HN2 := Lib.hid (show ∀ j < t + 1, ∀ y, ys[j]? = some y → (y.1.1 == s) = false from fun j hj y hy => by
          rcases Nat.lt_succ_iff_lt_or_eq.1 hj with h9 | rfl
          · exact HN.out j h9 y hy
          · rw [HY.out] at hy
            injection hy with hy
            rw [← hy]
            exact he)
        go_wp2_with (first | go_skip | go_guarded)
        go_roundw
        case rel => exact ⟨t + 1, HT.out, by go_num, HN2.out, hx⟩
        case measure => have := HT.out; simp [intOf]; omega
    · have hnl : ¬ ((t : Int) < n) := by omega
      have HI := Lib.hid (idx_none (p := fun y : FileC => y.1.1 == s) (l := ys) (fun j hj y hy => hno j (by have := hlen.out; omega) y hy))
      clear hno
      go_wp2_with (first | go_skip | go_guarded)
      go_ret
      exact ⟨by rw [HI.out]; rfl, hx⟩
set_option maxRecDepth 20000 in
set_option maxHeartbeats 4000000 in
theorem rWithout {Ok : Nat → Prop} (A : Option Addr) (n c : Nat) (ys : List FileC) (s : Dk.Str) (w : World) (h : FilesAt w Ok A n c ys) (hn : n < 67108864) :
    Calls Tryd.prog 64 #[.slice A n c, strV s] w fun e w' => ∃ v, e = .returned v ∧ w'.ownsRow w.heap.size 65 2 v (withoutY ys s).length ((withoutY ys s).flatMap FileC.cells) ∧ Ext Nothing w w' := by
  have hl := h.sl
  have hlen := Lib.hid hl.len
  go_enter Tryd.func64, Tryd.ntmps64
  go_upto_region 3 with (first | go_skip | go_guarded)
  go_loopw [5, 6] (fun sv ki wr => ∃ t : Nat, t ≤ n ∧ ki = .int .i64 t ∧ ∃ A' m' c', sv = .slice A' m' c' ∧ m' = (withoutY (ys.take t) s).length ∧ wr.ownsRow w.heap.size 65 2 (.slice A' m' c') m' ((withoutY (ys.take t) s).flatMap FileC.cells) ∧ Ext Nothing w wr) (fun _ ki _ => n - (intOf ki).toNat)
  case atStart => exact ⟨0, Nat.zero_le _, rfl, none, 0, 0, rfl, rfl, World.ownsRow_nil _ _ _ _, Ext.refl _ _⟩
  case round =>
    obtain ⟨t, ht, rfl, A', m', c', rfl, hm', hown, hx⟩ := hrel
    by_cases hlt : t < n
    · obtain ⟨hjn, q, off, hAe, hce⟩ := hl.get hx hlt
      have hdt := h.data _ (List.getElem_mem hjn)
      have HTK := Lib.hid (show withoutY (ys.take (t + 1)) s = withoutY (ys.take t) s ++ withoutY [ys[t]] s by rw [List.take_add_one, List.getElem?_eq_getElem hjn]; unfold withoutY; rw [List.filter_append]; rfl)
      have hml : m' ≤ t := by
        rw [hm']
        unfold withoutY
        refine Nat.le_trans (List.length_filter_le _ _) ?_
        rw [List.length_take]
        omega
      generalize ys[t] = y at hce hdt HTK
      obtain ⟨⟨nm, dt⟩, v⟩ := y
      obtain ⟨A3, n3, c3, hv3, _⟩ := hdt
      have hv3 : v = .slice A3 n3 c3 := hv3
      subst hv3
      subst hAe
      have hce : ∀ j u, (#[strV nm, .slice A3 n3 c3] : Array Value).toList[j]? = some u → wr.cell? ⟨q, off + t * 2 + j, none⟩ = some u := hce
      have HQ := Lib.hid hce
      have c0 : wr.cell? ⟨q, off + t * 2, none⟩ = some (strV nm) := by have h9 := hce 0 _ rfl; simpa using h9
      have hk0 : (0 : Int) ≤ (t : Int) := by omega
      have hk1 : (t : Int) < n := by omega
      have HT := Lib.hid hlt
      have HM := Lib.hid hm'
      clear hce hlt hm' h
      cases he : (nm == s) with
      | true =>
        have HW := Lib.hid (show withoutY (ys.take (t + 1)) s = withoutY (ys.take t) s by rw [HTK.out]; unfold withoutY; simp [he])
        go_wp2_with (first | go_skip | go_guarded)
        go_roundw
        case rel => exact ⟨t + 1, HT.out, by go_num, A', m', c', rfl, by rw [HW.out]; exact HM.out, by rw [HW.out]; exact hown, hx⟩
        case measure => have := HT.out; simp [intOf]; omega
      | false =>
        have HW := Lib.hid (show withoutY (ys.take (t + 1)) s = withoutY (ys.take t) s ++ [((nm, dt), .slice A3 n3 c3)] by rw [HTK.out]; unfold withoutY; simp [he])
        have hm9 : m' < 67108864 := by omega
        have hbs := hx.size
        have ha : Ext Nothing wr (wr.alloc (.cells #[strV nm, .slice A3 n3 c3] 65)) := Ext.auto
        go_wp2_with (first | go_skip | go_guarded | ((with_reducible refine dW ?_); refine wpList_load_at rfl 65 _ rfl STFile q (off + t * 2) rfl #[strV nm, .slice A3 n3 c3] HQ.out rfl ?_) | ((with_reducible refine dW ?_); refine wpList_slice1 rfl 58 _ rfl SRFile #[strV nm, .slice A3 n3 c3] rfl rfl ?_) | (at_builtin; refine wpList_app1 rfl _ _ 58 rfl w.heap.size SRFile (.slice A' m' c') m' _ rfl (own_ext hown ha (fun g hg e => e)) wr.heap.size 1 #[strV nm, .slice A3 n3 c3] rfl (Blk.new _ _ _) rfl rfl hm9 (Nat.le_trans hbs (by simp)) ?_; intro A8 c8 w8 hown8 hgr8))
        have hx8 : Ext Nothing w w8 := (hx.tr ha).grown hgr8 (fun g hg => .inl ((own_ext hown ha (fun g hg e => e)).lt g hg).1)
        go_roundw
        case rel => exact ⟨t + 1, HT.out, by go_num, A8, m' + 1, c8, rfl, by rw [HW.out, List.length_append, ← HM.out]; rfl, by rw [HW.out, List.flatMap_append]; exact hown8, hx8⟩
        case measure => have := HT.out; simp [intOf]; omega
    · have hnl : ¬ ((t : Int) < n) := by omega
      have HE := Lib.hid (show ys.take t = ys from List.take_of_length_le (by have := hlen.out; omega))
      have HM := Lib.hid hm'
      clear hm'
      go_wp2_with (first | go_skip | go_guarded)
      go_ret
      have hm2 := HM.out
      rw [HE.out] at hm2 hown
      exact ⟨_, rfl, by rw [← hm2]; exact hown, hx⟩
end Go.Proofs.YtlfpfhdagkkliaaDoor
