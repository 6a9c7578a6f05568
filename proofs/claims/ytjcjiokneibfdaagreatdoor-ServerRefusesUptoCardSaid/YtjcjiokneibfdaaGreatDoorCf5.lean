/- A writer writes lists. (printed by wip/gen/cf.py) -/
import Derived.Test.YtjcjiokneibfdaaGreatDoorCf4
namespace Go.Proofs.YtjcjiokneibfdaaGreatDoor
set_option linter.unusedVariables false
set_option linter.unusedSimpArgs false
open Go.RowKit
section
variable {P : Program} {ops : Array Oper} {rest : List Oper} {o : Oper} {a : Act} {w : World} {Q : Exit → Act → World → Prop}
theorem cLd (ty : TypeId) {x : Operand} (h0 : o.op = .load ty x) (h : wpList P ops Q (o :: rest) a w) : wpList P ops Q (o :: rest) a w := h
end
theorem STcfGroup : StructT Tryz.prog 351 3 := .of (by kernel_rfl)
def IsGroup (x : List Value) : Prop := ∃ (a0 : Int) (a1 : Int) (a2 : Int), x = [.int .i64 a0, .int .i64 a1, .int .i64 a2]
set_option maxRecDepth 20000 in
set_option maxHeartbeats 8000000 in
theorem cfListGroup {fb N b o n c : Nat} {bad : Bool} {cs : Array Value} {A : Option Addr} {xs : List (List Value)} (w : World) (h : Form w fb N bad) (hr : CRec w b cs) (hl : cs[o]? = some (.slice A n c)) (hs : Sl w 3 A n xs) (hold : ∀ g, A.map (·.block) = some g → xs ≠ [] → g < fb) (hsh : ∀ x ∈ xs, IsGroup x) (hn : n ≤ 1048576) (hN : N + 1930 ≤ 60000000) :
    Calls Tryz.prog 178 #[.pointer (some ⟨fb, 0, none⟩), .pointer (some ⟨b, o, none⟩), .func (.func 179) #[.pointer (some ⟨fb, 0, none⟩)] #[]] w (Wrote fb (N + 1930) bad w) := by
  have cl : w.cell? ⟨b, o, none⟩ = some (.slice A n c) := by rw [hr.cell]; exact hl
  have hcall := cfMany (n := (n : Int)) (m := 64) w h (by omega) (by omega)
  go_enter Tryz.func178, Tryz.ntmps178
  go_upto_region 1 with (first | go_skip | go_guarded | (go_at_call 182; (with_reducible refine hcall.mono ?_); rintro e w2 ⟨⟨r, rfl⟩, hx2, bad2, hf2, hb2, ho2⟩))
  clear hcall
  have hr2 := hr.keep hx2
  have cl2 : w2.cell? ⟨b, o, none⟩ = some (.slice A n c) := by rw [hr2.cell]; exact hl
  have c1 : w2.cell? ⟨fb, 1, none⟩ = some (.bool false) := by obtain ⟨v9, n9, xs9, f9⟩ := hf2; rw [f9.blk.cell]; rfl
  go_upto_region 3 with (first | go_skip | go_guarded)
  clear cl2 c1
  go_loopw [25] (fun ki wr => ∃ t : Nat, t ≤ n ∧ t ≤ 64 ∧ ki = .int .i64 t ∧ (∃ bad', Form wr fb (N + 10 + 30 * t) bad' ∧ (bad = true → bad' = true) ∧ (64 < n → bad' = true)) ∧ Ext (FX fb w) w wr) (fun ki _ => n - (intOf ki).toNat)
  case atStart => exact ⟨0, Nat.zero_le _, by omega, rfl, ⟨bad2, hf2.mono (by omega), hb2, fun e => ho2 (by omega)⟩, hx2⟩
  case round =>
    obtain ⟨t, ht, ht64, rfl, ⟨bad', hf, hb, ho⟩, hx⟩ := hrel
    by_cases hlt : t < n
    · obtain ⟨v9, n9, xs9, f9⟩ := id hf
      have cb : wr.cell? ⟨fb, 2, none⟩ = some (.bool bad') := by rw [f9.blk.cell]; rfl
      clear f9
      have hk0 : (0 : Int) ≤ (t : Int) := by omega
      have hk1 : (t : Int) < (n : Int) := by omega
      have hk2 : (t : Int) + 1 ≤ 60000000 := by omega
      cases bad' with
      | true =>
        have HT := Lib.hid ht64
        clear hlt ht ht64 hN hn hb ho ho2 hb2
        go_wp2_with (first | go_skip | go_guarded)
        exact bodyPost_ret (results_none rfl _ _ _) rfl ⟨rfl, hx, true, hf.mono (by have := HT.out; omega), fun _ => rfl⟩
      | false =>
        have h64 : n ≤ 64 := by
          apply Classical.byContradiction
          intro e
          have := ho (by omega)
          cases this
        obtain ⟨x, hxt⟩ : ∃ x, xs[t]? = some x := ⟨_, List.getElem?_eq_getElem (by have := hs.1; omega)⟩
        obtain ⟨gb, goff, rfl, hxl, hcx⟩ := hs.2 t x hxt
        obtain ⟨a0, a1, a2, rfl⟩ := hsh x (List.mem_of_getElem? hxt)
        have hgb : gb < fb := hold gb rfl (by rintro rfl; simp at hxt)
        have hng : ¬ FX fb w gb := fun e => by have := e.1; omega
        have hcl : ∀ (j : Nat) (u : Value), (#[.int .i64 a0, .int .i64 a1, .int .i64 a2] : Array Value).toList[j]? = some u → wr.cell? ⟨gb, goff + t * 3 + j, none⟩ = some u := fun j u hu => hx.cell (by have h8 := hcx j u hu; exact h8) hng
        have hrr := hr.keep hx
        have cl3 : wr.cell? ⟨b, o, none⟩ = some (.slice (some ⟨gb, goff, none⟩) n c) := by rw [hrr.cell]; exact hl
        have hcallE := cfGroup (o := 0) (cs := #[.int .i64 a0, .int .i64 a1, .int .i64 a2]) (wr.alloc (.cells #[.int .i64 a0, .int .i64 a1, .int .i64 a2] 351)) (hf.e0 Ext.auto) (CRec.new wr _ _ (by decide) (by decide)) ⟨_, rfl⟩ ⟨_, rfl⟩ ⟨_, rfl⟩ (by omega)
        have hxa : Ext (FX fb w) w (wr.alloc (.cells #[.int .i64 a0, .int .i64 a1, .int .i64 a2] 351)) := hx.t0 Ext.auto
        have HT := Lib.hid (show t + 1 ≤ n ∧ t + 1 ≤ 64 ∧ n ≤ 64 by omega)
        clear hlt ht ht64 hN hn ho ho2 hb2 h64 hcx hs hr hrr hold hsh hxl hxt
        go_wp2_with (first | go_skip | go_guarded | ((with_reducible refine cLd 351 rfl ?_); refine wpList_load_at rfl 351 _ rfl STcfGroup gb (goff + t * 3) rfl #[.int .i64 a0, .int .i64 a1, .int .i64 a2] hcl rfl ?_) | (go_at_call 179; (with_reducible refine hcallE.mono ?_); rintro e w3 ⟨rfl, hx3, bad3, hf3, hb3⟩))
        go_roundw
        case rel => exact ⟨t + 1, HT.out.1, HT.out.2.1, by go_num, ⟨bad3, hf3.mono (by omega), fun e => hb3 (hb e), fun e => by have := HT.out; omega⟩, hxa.fx hx3 (fun b e => e)⟩
        case measure => have := HT.out; simp [intOf]; omega
    · have hnl : ¬ ((t : Int) < (n : Int)) := by omega
      have hf := hf.mono (show N + 10 + 30 * t ≤ N + 1930 by omega)
      clear ht ht64 hN hn hlt
      go_wp2_with (first | go_skip | go_guarded)
      exact bodyPost_ret (results_none rfl _ _ _) rfl ⟨rfl, hx, _, hf, hb⟩
theorem STcfReport : StructT Tryz.prog 260 2 := .of (by kernel_rfl)
def IsReport (x : List Value) : Prop := ∃ (a0 : Int) (a1 : Int), x = [.int .i64 a0, .int .i64 a1]
set_option maxRecDepth 20000 in
set_option maxHeartbeats 8000000 in
theorem cfListReport {fb N b o n c : Nat} {bad : Bool} {cs : Array Value} {A : Option Addr} {xs : List (List Value)} (w : World) (h : Form w fb N bad) (hr : CRec w b cs) (hl : cs[o]? = some (.slice A n c)) (hs : Sl w 2 A n xs) (hold : ∀ g, A.map (·.block) = some g → xs ≠ [] → g < fb) (hsh : ∀ x ∈ xs, IsReport x) (hn : n ≤ 1048576) (hN : N + 1290 ≤ 60000000) :
    Calls Tryz.prog 110 #[.pointer (some ⟨fb, 0, none⟩), .pointer (some ⟨b, o, none⟩), .func (.func 111) #[.pointer (some ⟨fb, 0, none⟩)] #[]] w (Wrote fb (N + 1290) bad w) := by
  have cl : w.cell? ⟨b, o, none⟩ = some (.slice A n c) := by rw [hr.cell]; exact hl
  have hcall := cfMany (n := (n : Int)) (m := 64) w h (by omega) (by omega)
  go_enter Tryz.func110, Tryz.ntmps110
  go_upto_region 1 with (first | go_skip | go_guarded | (go_at_call 182; (with_reducible refine hcall.mono ?_); rintro e w2 ⟨⟨r, rfl⟩, hx2, bad2, hf2, hb2, ho2⟩))
  clear hcall
  have hr2 := hr.keep hx2
  have cl2 : w2.cell? ⟨b, o, none⟩ = some (.slice A n c) := by rw [hr2.cell]; exact hl
  have c1 : w2.cell? ⟨fb, 1, none⟩ = some (.bool false) := by obtain ⟨v9, n9, xs9, f9⟩ := hf2; rw [f9.blk.cell]; rfl
  go_upto_region 3 with (first | go_skip | go_guarded)
  clear cl2 c1
  go_loopw [25] (fun ki wr => ∃ t : Nat, t ≤ n ∧ t ≤ 64 ∧ ki = .int .i64 t ∧ (∃ bad', Form wr fb (N + 10 + 20 * t) bad' ∧ (bad = true → bad' = true) ∧ (64 < n → bad' = true)) ∧ Ext (FX fb w) w wr) (fun ki _ => n - (intOf ki).toNat)
  case atStart => exact ⟨0, Nat.zero_le _, by omega, rfl, ⟨bad2, hf2.mono (by omega), hb2, fun e => ho2 (by omega)⟩, hx2⟩
  case round =>
    obtain ⟨t, ht, ht64, rfl, ⟨bad', hf, hb, ho⟩, hx⟩ := hrel
    by_cases hlt : t < n
    · obtain ⟨v9, n9, xs9, f9⟩ := id hf
      have cb : wr.cell? ⟨fb, 2, none⟩ = some (.bool bad') := by rw [f9.blk.cell]; rfl
      clear f9
      have hk0 : (0 : Int) ≤ (t : Int) := by omega
      have hk1 : (t : Int) < (n : Int) := by omega
      have hk2 : (t : Int) + 1 ≤ 60000000 := by omega
      cases bad' with
      | true =>
        have HT := Lib.hid ht64
        clear hlt ht ht64 hN hn hb ho ho2 hb2
        go_wp2_with (first | go_skip | go_guarded)
        exact bodyPost_ret (results_none rfl _ _ _) rfl ⟨rfl, hx, true, hf.mono (by have := HT.out; omega), fun _ => rfl⟩
      | false =>
        have h64 : n ≤ 64 := by
          apply Classical.byContradiction
          intro e
          have := ho (by omega)
          cases this
        obtain ⟨x, hxt⟩ : ∃ x, xs[t]? = some x := ⟨_, List.getElem?_eq_getElem (by have := hs.1; omega)⟩
        obtain ⟨gb, goff, rfl, hxl, hcx⟩ := hs.2 t x hxt
        obtain ⟨a0, a1, rfl⟩ := hsh x (List.mem_of_getElem? hxt)
        have hgb : gb < fb := hold gb rfl (by rintro rfl; simp at hxt)
        have hng : ¬ FX fb w gb := fun e => by have := e.1; omega
        have hcl : ∀ (j : Nat) (u : Value), (#[.int .i64 a0, .int .i64 a1] : Array Value).toList[j]? = some u → wr.cell? ⟨gb, goff + t * 2 + j, none⟩ = some u := fun j u hu => hx.cell (by have h8 := hcx j u hu; exact h8) hng
        have hrr := hr.keep hx
        have cl3 : wr.cell? ⟨b, o, none⟩ = some (.slice (some ⟨gb, goff, none⟩) n c) := by rw [hrr.cell]; exact hl
        have hcallE := cfReport (o := 0) (cs := #[.int .i64 a0, .int .i64 a1]) (wr.alloc (.cells #[.int .i64 a0, .int .i64 a1] 260)) (hf.e0 Ext.auto) (CRec.new wr _ _ (by decide) (by decide)) ⟨_, rfl⟩ ⟨_, rfl⟩ (by omega)
        have hxa : Ext (FX fb w) w (wr.alloc (.cells #[.int .i64 a0, .int .i64 a1] 260)) := hx.t0 Ext.auto
        have HT := Lib.hid (show t + 1 ≤ n ∧ t + 1 ≤ 64 ∧ n ≤ 64 by omega)
        clear hlt ht ht64 hN hn ho ho2 hb2 h64 hcx hs hr hrr hold hsh hxl hxt
        go_wp2_with (first | go_skip | go_guarded | ((with_reducible refine cLd 260 rfl ?_); refine wpList_load_at rfl 260 _ rfl STcfReport gb (goff + t * 2) rfl #[.int .i64 a0, .int .i64 a1] hcl rfl ?_) | (go_at_call 111; (with_reducible refine hcallE.mono ?_); rintro e w3 ⟨rfl, hx3, bad3, hf3, hb3⟩))
        go_roundw
        case rel => exact ⟨t + 1, HT.out.1, HT.out.2.1, by go_num, ⟨bad3, hf3.mono (by omega), fun e => hb3 (hb e), fun e => by have := HT.out; omega⟩, hxa.fx hx3 (fun b e => e)⟩
        case measure => have := HT.out; simp [intOf]; omega
    · have hnl : ¬ ((t : Int) < (n : Int)) := by omega
      have hf := hf.mono (show N + 10 + 20 * t ≤ N + 1290 by omega)
      clear ht ht64 hN hn hlt
      go_wp2_with (first | go_skip | go_guarded)
      exact bodyPost_ret (results_none rfl _ _ _) rfl ⟨rfl, hx, _, hf, hb⟩
def IsInt (x : List Value) : Prop := ∃ (a0 : Int), x = [.int .i64 a0]
set_option maxRecDepth 20000 in
set_option maxHeartbeats 8000000 in
theorem cfListInt {fb N b o n c : Nat} {bad : Bool} {cs : Array Value} {A : Option Addr} {xs : List (List Value)} (w : World) (h : Form w fb N bad) (hr : CRec w b cs) (hl : cs[o]? = some (.slice A n c)) (hs : Sl w 1 A n xs) (hold : ∀ g, A.map (·.block) = some g → xs ≠ [] → g < fb) (hsh : ∀ x ∈ xs, IsInt x) (hn : n ≤ 1048576) (hN : N + 650 ≤ 60000000) :
    Calls Tryz.prog 183 #[.pointer (some ⟨fb, 0, none⟩), .pointer (some ⟨b, o, none⟩), .func (.func 177) #[.pointer (some ⟨fb, 0, none⟩)] #[]] w (Wrote fb (N + 650) bad w) := by
  have cl : w.cell? ⟨b, o, none⟩ = some (.slice A n c) := by rw [hr.cell]; exact hl
  have hcall := cfMany (n := (n : Int)) (m := 64) w h (by omega) (by omega)
  go_enter Tryz.func183, Tryz.ntmps183
  go_upto_region 1 with (first | go_skip | go_guarded | (go_at_call 182; (with_reducible refine hcall.mono ?_); rintro e w2 ⟨⟨r, rfl⟩, hx2, bad2, hf2, hb2, ho2⟩))
  clear hcall
  have hr2 := hr.keep hx2
  have cl2 : w2.cell? ⟨b, o, none⟩ = some (.slice A n c) := by rw [hr2.cell]; exact hl
  have c1 : w2.cell? ⟨fb, 1, none⟩ = some (.bool false) := by obtain ⟨v9, n9, xs9, f9⟩ := hf2; rw [f9.blk.cell]; rfl
  go_upto_region 3 with (first | go_skip | go_guarded)
  clear cl2 c1
  go_loopw [25] (fun ki wr => ∃ t : Nat, t ≤ n ∧ t ≤ 64 ∧ ki = .int .i64 t ∧ (∃ bad', Form wr fb (N + 10 + 10 * t) bad' ∧ (bad = true → bad' = true) ∧ (64 < n → bad' = true)) ∧ Ext (FX fb w) w wr) (fun ki _ => n - (intOf ki).toNat)
  case atStart => exact ⟨0, Nat.zero_le _, by omega, rfl, ⟨bad2, hf2.mono (by omega), hb2, fun e => ho2 (by omega)⟩, hx2⟩
  case round =>
    obtain ⟨t, ht, ht64, rfl, ⟨bad', hf, hb, ho⟩, hx⟩ := hrel
    by_cases hlt : t < n
    · obtain ⟨v9, n9, xs9, f9⟩ := id hf
      have cb : wr.cell? ⟨fb, 2, none⟩ = some (.bool bad') := by rw [f9.blk.cell]; rfl
      clear f9
      have hk0 : (0 : Int) ≤ (t : Int) := by omega
      have hk1 : (t : Int) < (n : Int) := by omega
      have hk2 : (t : Int) + 1 ≤ 60000000 := by omega
      cases bad' with
      | true =>
        have HT := Lib.hid ht64
        clear hlt ht ht64 hN hn hb ho ho2 hb2
        go_wp2_with (first | go_skip | go_guarded)
        exact bodyPost_ret (results_none rfl _ _ _) rfl ⟨rfl, hx, true, hf.mono (by have := HT.out; omega), fun _ => rfl⟩
      | false =>
        have h64 : n ≤ 64 := by
          apply Classical.byContradiction
          intro e
          have := ho (by omega)
          cases this
        obtain ⟨x, hxt⟩ : ∃ x, xs[t]? = some x := ⟨_, List.getElem?_eq_getElem (by have := hs.1; omega)⟩
        obtain ⟨gb, goff, rfl, hxl, hcx⟩ := hs.2 t x hxt
        obtain ⟨a0, rfl⟩ := hsh x (List.mem_of_getElem? hxt)
        have hgb : gb < fb := hold gb rfl (by rintro rfl; simp at hxt)
        have hng : ¬ FX fb w gb := fun e => by have := e.1; omega
        have hcl : ∀ (j : Nat) (u : Value), (#[.int .i64 a0] : Array Value).toList[j]? = some u → wr.cell? ⟨gb, goff + t + j, none⟩ = some u := fun j u hu => hx.cell (by have h8 := hcx j u hu; rw [Nat.mul_one] at h8; exact h8) hng
        have hrr := hr.keep hx
        have cl3 : wr.cell? ⟨b, o, none⟩ = some (.slice (some ⟨gb, goff, none⟩) n c) := by rw [hrr.cell]; exact hl
        have hcl := hcl 0 _ rfl
        rw [Nat.add_zero] at hcl
        have hcallE := cfNum' (o := 0) (cs := #[.int .i64 a0]) (wr.alloc (.cells #[.int .i64 a0] 3)) (hf.e0 Ext.auto) (CRec.new wr _ _ (by decide) (by decide)) ⟨_, rfl⟩ (by omega)
        have hxa : Ext (FX fb w) w (wr.alloc (.cells #[.int .i64 a0] 3)) := hx.t0 Ext.auto
        have HT := Lib.hid (show t + 1 ≤ n ∧ t + 1 ≤ 64 ∧ n ≤ 64 by omega)
        clear hlt ht ht64 hN hn ho ho2 hb2 h64 hcx hs hr hrr hold hsh hxl hxt
        go_wp2_with (first | go_skip | go_guarded | (go_at_call 177; (with_reducible refine hcallE.mono ?_); rintro e w3 ⟨rfl, hx3, bad3, hf3, hb3⟩))
        go_roundw
        case rel => exact ⟨t + 1, HT.out.1, HT.out.2.1, by go_num, ⟨bad3, hf3.mono (by omega), fun e => hb3 (hb e), fun e => by have := HT.out; omega⟩, hxa.fx hx3 (fun b e => e)⟩
        case measure => have := HT.out; simp [intOf]; omega
    · have hnl : ¬ ((t : Int) < (n : Int)) := by omega
      have hf := hf.mono (show N + 10 + 10 * t ≤ N + 650 by omega)
      clear ht ht64 hN hn hlt
      go_wp2_with (first | go_skip | go_guarded)
      exact bodyPost_ret (results_none rfl _ _ _) rfl ⟨rfl, hx, _, hf, hb⟩
theorem STcfAlloc : StructT Tryz.prog 207 11 := .of (by kernel_rfl)
def IsAlloc (x : List Value) : Prop := ∃ (a0 : Int) (a1 : Int) (a2 : Int) (a3 : Int) (a4 : Int) (a5 : Int) (a6 : Int) (a7 : Int) (a8 : Int) (a9 : Bool) (a10 : Int), x = [.int .i64 a0, .int .i64 a1, .int .i64 a2, .int .i64 a3, .int .i64 a4, .int .i64 a5, .int .i64 a6, .int .i64 a7, .int .i64 a8, .bool a9, .int .i64 a10]
set_option maxRecDepth 20000 in
set_option maxHeartbeats 8000000 in
theorem cfListAlloc {fb N b o n c : Nat} {bad : Bool} {cs : Array Value} {A : Option Addr} {xs : List (List Value)} (w : World) (h : Form w fb N bad) (hr : CRec w b cs) (hl : cs[o]? = some (.slice A n c)) (hs : Sl w 11 A n xs) (hold : ∀ g, A.map (·.block) = some g → xs ≠ [] → g < fb) (hsh : ∀ x ∈ xs, IsAlloc x) (hn : n ≤ 1048576) (hN : N + 7050 ≤ 60000000) :
    Calls Tryz.prog 169 #[.pointer (some ⟨fb, 0, none⟩), .pointer (some ⟨b, o, none⟩), .func (.func 170) #[.pointer (some ⟨fb, 0, none⟩)] #[]] w (Wrote fb (N + 7050) bad w) := by
  have cl : w.cell? ⟨b, o, none⟩ = some (.slice A n c) := by rw [hr.cell]; exact hl
  have hcall := cfMany (n := (n : Int)) (m := 64) w h (by omega) (by omega)
  go_enter Tryz.func169, Tryz.ntmps169
  go_upto_region 1 with (first | go_skip | go_guarded | (go_at_call 182; (with_reducible refine hcall.mono ?_); rintro e w2 ⟨⟨r, rfl⟩, hx2, bad2, hf2, hb2, ho2⟩))
  clear hcall
  have hr2 := hr.keep hx2
  have cl2 : w2.cell? ⟨b, o, none⟩ = some (.slice A n c) := by rw [hr2.cell]; exact hl
  have c1 : w2.cell? ⟨fb, 1, none⟩ = some (.bool false) := by obtain ⟨v9, n9, xs9, f9⟩ := hf2; rw [f9.blk.cell]; rfl
  go_upto_region 3 with (first | go_skip | go_guarded)
  clear cl2 c1
  go_loopw [25] (fun ki wr => ∃ t : Nat, t ≤ n ∧ t ≤ 64 ∧ ki = .int .i64 t ∧ (∃ bad', Form wr fb (N + 10 + 110 * t) bad' ∧ (bad = true → bad' = true) ∧ (64 < n → bad' = true)) ∧ Ext (FX fb w) w wr) (fun ki _ => n - (intOf ki).toNat)
  case atStart => exact ⟨0, Nat.zero_le _, by omega, rfl, ⟨bad2, hf2.mono (by omega), hb2, fun e => ho2 (by omega)⟩, hx2⟩
  case round =>
    obtain ⟨t, ht, ht64, rfl, ⟨bad', hf, hb, ho⟩, hx⟩ := hrel
    by_cases hlt : t < n
    · obtain ⟨v9, n9, xs9, f9⟩ := id hf
      have cb : wr.cell? ⟨fb, 2, none⟩ = some (.bool bad') := by rw [f9.blk.cell]; rfl
      clear f9
      have hk0 : (0 : Int) ≤ (t : Int) := by omega
      have hk1 : (t : Int) < (n : Int) := by omega
      have hk2 : (t : Int) + 1 ≤ 60000000 := by omega
      cases bad' with
      | true =>
        have HT := Lib.hid ht64
        clear hlt ht ht64 hN hn hb ho ho2 hb2
        go_wp2_with (first | go_skip | go_guarded)
        exact bodyPost_ret (results_none rfl _ _ _) rfl ⟨rfl, hx, true, hf.mono (by have := HT.out; omega), fun _ => rfl⟩
      | false =>
        have h64 : n ≤ 64 := by
          apply Classical.byContradiction
          intro e
          have := ho (by omega)
          cases this
        obtain ⟨x, hxt⟩ : ∃ x, xs[t]? = some x := ⟨_, List.getElem?_eq_getElem (by have := hs.1; omega)⟩
        obtain ⟨gb, goff, rfl, hxl, hcx⟩ := hs.2 t x hxt
        obtain ⟨a0, a1, a2, a3, a4, a5, a6, a7, a8, a9, a10, rfl⟩ := hsh x (List.mem_of_getElem? hxt)
        have hgb : gb < fb := hold gb rfl (by rintro rfl; simp at hxt)
        have hng : ¬ FX fb w gb := fun e => by have := e.1; omega
        have hcl : ∀ (j : Nat) (u : Value), (#[.int .i64 a0, .int .i64 a1, .int .i64 a2, .int .i64 a3, .int .i64 a4, .int .i64 a5, .int .i64 a6, .int .i64 a7, .int .i64 a8, .bool a9, .int .i64 a10] : Array Value).toList[j]? = some u → wr.cell? ⟨gb, goff + t * 11 + j, none⟩ = some u := fun j u hu => hx.cell (by have h8 := hcx j u hu; exact h8) hng
        have hrr := hr.keep hx
        have cl3 : wr.cell? ⟨b, o, none⟩ = some (.slice (some ⟨gb, goff, none⟩) n c) := by rw [hrr.cell]; exact hl
        have hcallE := cfAlloc (o := 0) (cs := #[.int .i64 a0, .int .i64 a1, .int .i64 a2, .int .i64 a3, .int .i64 a4, .int .i64 a5, .int .i64 a6, .int .i64 a7, .int .i64 a8, .bool a9, .int .i64 a10]) (wr.alloc (.cells #[.int .i64 a0, .int .i64 a1, .int .i64 a2, .int .i64 a3, .int .i64 a4, .int .i64 a5, .int .i64 a6, .int .i64 a7, .int .i64 a8, .bool a9, .int .i64 a10] 207)) (hf.e0 Ext.auto) (CRec.new wr _ _ (by decide) (by decide)) ⟨_, rfl⟩ ⟨_, rfl⟩ ⟨_, rfl⟩ ⟨_, rfl⟩ ⟨_, rfl⟩ ⟨_, rfl⟩ ⟨_, rfl⟩ ⟨_, rfl⟩ ⟨_, rfl⟩ ⟨_, rfl⟩ ⟨_, rfl⟩ (by omega)
        have hxa : Ext (FX fb w) w (wr.alloc (.cells #[.int .i64 a0, .int .i64 a1, .int .i64 a2, .int .i64 a3, .int .i64 a4, .int .i64 a5, .int .i64 a6, .int .i64 a7, .int .i64 a8, .bool a9, .int .i64 a10] 207)) := hx.t0 Ext.auto
        have HT := Lib.hid (show t + 1 ≤ n ∧ t + 1 ≤ 64 ∧ n ≤ 64 by omega)
        clear hlt ht ht64 hN hn ho ho2 hb2 h64 hcx hs hr hrr hold hsh hxl hxt
        go_wp2_with (first | go_skip | go_guarded | ((with_reducible refine cLd 207 rfl ?_); refine wpList_load_at rfl 207 _ rfl STcfAlloc gb (goff + t * 11) rfl #[.int .i64 a0, .int .i64 a1, .int .i64 a2, .int .i64 a3, .int .i64 a4, .int .i64 a5, .int .i64 a6, .int .i64 a7, .int .i64 a8, .bool a9, .int .i64 a10] hcl rfl ?_) | (go_at_call 170; (with_reducible refine hcallE.mono ?_); rintro e w3 ⟨rfl, hx3, bad3, hf3, hb3⟩))
        go_roundw
        case rel => exact ⟨t + 1, HT.out.1, HT.out.2.1, by go_num, ⟨bad3, hf3.mono (by omega), fun e => hb3 (hb e), fun e => by have := HT.out; omega⟩, hxa.fx hx3 (fun b e => e)⟩
        case measure => have := HT.out; simp [intOf]; omega
    · have hnl : ¬ ((t : Int) < (n : Int)) := by omega
      have hf := hf.mono (show N + 10 + 110 * t ≤ N + 7050 by omega)
      clear ht ht64 hN hn hlt
      go_wp2_with (first | go_skip | go_guarded)
      exact bodyPost_ret (results_none rfl _ _ _) rfl ⟨rfl, hx, _, hf, hb⟩
end Go.Proofs.YtjcjiokneibfdaaGreatDoor
