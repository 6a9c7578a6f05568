/- The evaluator's slices of slices, conversions and operators. -/
import Derived.Test.YtgjabfpkbcdkcaaGreatDoorEvU
import Derived.Lib.Builder
import Derived.IntWalk
namespace Go.Proofs.YtgjabfpkbcdkcaaGreatDoor
set_option linter.unusedVariables false
set_option linter.unusedSimpArgs false
theorem bytes_extract (s : List UInt8) (l h : Nat) : (⟨⟨s⟩⟩ : ByteArray).extract l h = ⟨⟨(s.drop l).take (h - l)⟩⟩ := by
  have : ((⟨⟨s⟩⟩ : ByteArray).extract l h).data.toList = (s.drop l).take (h - l) := by
    simp [ByteArray.extract, ByteArray.copySlice]
  cases hb : (⟨⟨s⟩⟩ : ByteArray).extract l h with
  | mk d => rw [hb] at this; cases d; simp at this; rw [this]
section
variable {P : Program} {E : En} {w : World}
theorem bnd_le {y y' z n : Nat} {x : Option Value} (hy : y ≤ y') (h : bnd y x z = some n) : bnd y' x z = some n := by
  unfold bnd at *
  split at h
  · exact h
  · rename_i k m
    cases hb : Nat.ble m y with
    | false => rw [hb] at h; cases h
    | true =>
      rw [hb, cond_true, Option.some.injEq] at h
      subst h
      have hb := Nat.le_of_ble_eq_true hb
      rw [Nat.ble_eq_true_of_le (Nat.le_trans hb hy), cond_true]
  · cases h
theorem run_bnd {y z n : Nat} {x : Option Value} (code : BoundsCode) (h : bnd y x z = some n) : (match x.map (conc E) with | some v => Instr.sliceBound v y code | none => pure z : Sem Nat).run P w = .ok n w := by
  unfold bnd at h
  split at h
  · simp only [Option.some.injEq] at h
    subst h
    rfl
  · rename_i k m
    cases hb : Nat.ble m y with
    | false => rw [hb] at h; cases h
    | true =>
      rw [hb, cond_true, Option.some.injEq] at h
      subst h
      have hb := Nat.le_of_ble_eq_true hb
      have : (Int.ofNat m) = (m : Int) := rfl
      simp [conc, Instr.sliceBound, asIntOf, this, hb]
  · cases h
theorem run_bounds {isS : Bool} {len cap l h : Nat} {lo hi : Option Value} (h1 : bnd cap hi len = some h) (h2 : bnd h lo 0 = some l) :
    (Instr.sliceBounds isS len cap (lo.map (conc E)) (hi.map (conc E)) none).run P w = .ok (l, h, cap) w := by
  have r1 := run_bnd (P := P) (E := E) (w := w) (if isS then .sliceAcap else .sliceAlen) h1
  have r2 := run_bnd (P := P) (E := E) (w := w) .sliceB h2
  unfold Instr.sliceBounds
  cases hi with
  | none =>
    simp only [Option.map_none] at r1 ⊢
    have e : len = h := by simpa [bnd] using h1
    subst e
    cases lo with
    | none =>
      have e : 0 = l := by simpa [bnd] using h2
      subst e
      simp
    | some v => simp only [Option.map_some] at r2 ⊢; simp [r2]
  | some u =>
    simp only [Option.map_some] at r1 ⊢
    cases lo with
    | none =>
      have e : 0 = l := by simpa [bnd] using h2
      subst e
      simp [r1]
    | some v => simp only [Option.map_some] at r2 ⊢; simp [r1, r2]
theorem run_bounds3 {len cap l h m : Nat} {lo : Option Value} {u : Value} {k : IntKind} (hm : m ≤ cap) (h1 : bnd m (some u) len = some h) (h2 : bnd h lo 0 = some l) :
    (Instr.sliceBounds true len cap (lo.map (conc E)) (some (conc E u)) (some (.int k (m : Int)))).run P w = .ok (l, h, m) w := by
  have r1 := run_bnd (P := P) (E := E) (w := w) .slice3B h1
  have r2 := run_bnd (P := P) (E := E) (w := w) .slice3C h2
  have r0 : (Instr.sliceBound (.int k (m : Int)) cap .slice3Acap).run P w = .ok m w := by simp [Instr.sliceBound, asIntOf, hm]
  unfold Instr.sliceBounds
  simp only [Option.map_some] at r1
  cases lo with
  | none =>
    have e : 0 = l := by simpa [bnd] using h2
    subst e
    simp [r0, r1]
  | some v => simp only [Option.map_some] at r2 ⊢; simp [r0, r1, r2]
end
section
variable {w0 : Base} {w w' : World} {E E' : En} {H H' : Hp} {t e : TypeId} {d : TypeDesc} {i : TypeInfo}
theorem bnd_hi {y z n : Nat} {x : Option Value} (h : bnd y x z = some n) : n ≤ y ∨ n = z := by
  unfold bnd at h
  split at h
  · simp only [Option.some.injEq] at h; exact .inr h.symm
  · rename_i k m
    cases hb : Nat.ble m y with
    | false => rw [hb] at h; cases h
    | true => rw [hb, cond_true, Option.some.injEq] at h; subst h; exact .inl (Nat.le_of_ble_eq_true hb)
  · cases h
theorem addr_map_conc (a : Option Addr) (k : Nat) : (a.map (cAddr E)).map (·.add k) = (a.map (·.add k)).map (cAddr E) := by
  cases a with
  | none => rfl
  | some a =>
    simp only [Option.map_some, Option.some.injEq]
    unfold Addr.add cAddr
    split <;> rfl
theorem cCap_lt {a : Addr} {c : Nat} (h : ¬ (HALF ≤ c)) : cCap E a c = c := if_neg h
theorem add_block (a : Addr) (k : Nat) : (a.add k).block = a.block := by unfold Addr.add; split <;> rfl
theorem slice_ok {x v : Value} {lo hi mx : Option Value} (hg : good E x) (h : sliceE t x lo hi mx = some v) (w : World) :
    (Instr.sliceAt t (conc E x) (lo.map (conc E)) (hi.map (conc E)) (mx.map (conc E))).run PP w = .ok (conc E v) w ∧ good E v := by
  unfold sliceE at h
  split at h
  · rename_i k m e _ a len cap ht
    obtain ⟨hu, _⟩ := tab_ok ht
    unfold slice3E at h
    cases hc : (Nat.blt cap HALF && Nat.ble m cap && hi.isSome) with
    | false => rw [hc] at h; cases h
    | true =>
      rw [hc, cond_true] at h
      simp only [Bool.and_eq_true, Nat.blt_eq] at hc
      obtain ⟨⟨c1, c2⟩, c3⟩ := hc
      have c2 := Nat.le_of_ble_eq_true c2
      cases hh : bnd m hi len with
      | none => rw [hh] at h; cases h
      | some h' =>
        simp only [hh] at h
        split at h
        · rename_i l sz hl hsz
          simp only [Option.some.injEq] at h
          subst h
          obtain ⟨i, hi', rfl⟩ := sizeE_ok hsz
          obtain ⟨u, rfl⟩ := Option.isSome_iff_exists.1 c3
          obtain ⟨c', hc', hle, hkn, _⟩ := slice_conc hg
          obtain rfl := hkn c1
          have hb := run_bounds3 (P := PP) (E := E) (w := w) (k := k) (cap := c') c2 hh hl
          have hhm : h' ≤ m := by
            unfold bnd at hh
            split at hh
            · cases ‹some u = none›
            · rename_i k' n' _
              cases hq : Nat.ble n' m with
              | false => rw [hq] at hh; cases hh
              | true => rw [hq, cond_true, Option.some.injEq] at hh; subst hh; exact Nat.le_of_ble_eq_true hq
            · cases hh
          have hlh : l ≤ h' := (bnd_hi hl).elim id (fun h => by omega)
          refine ⟨?_, ?_⟩
          · have hm : conc E (.int k (Int.ofNat m)) = .int k (m : Int) := rfl
            rw [hc', Option.map_some, Option.map_some, hm]
            unfold cutE
            by_cases hml : m = l
            · subst hml
              have : h' - m = 0 := by omega
              cases a <;> simp [Instr.sliceAt, run_underlying hu, Instr.slice, hb, run_sizeOf hi', conc, cCap, HALF, cAddr]
            · have hmm : ¬ (HALF ≤ m - l) := by omega
              have := addr_map_conc (E := E) a (l * i.size)
              cases a with
              | none => simp [Instr.sliceAt, run_underlying hu, Instr.slice, hb, run_sizeOf hi', conc, hml]
              | some a =>
                simp only [Option.map_some, Option.some.injEq] at this
                simp [Instr.sliceAt, run_underlying hu, Instr.slice, hb, run_sizeOf hi', conc, hml, cCap_lt hmm, this]
          · unfold cutE
            cases a with
            | none => simp only [good] at hg ⊢; split <;> simp [good] <;> omega
            | some a =>
              simp only [good] at hg
              split <;> simp [good, hg.1, add_block] <;> omega
        · cases h
  · rename_i _ s ht
    obtain ⟨hu, _⟩ := tab_ok ht
    unfold sliceS at h
    cases hh : bnd (ln s) hi (ln s) with
    | none => rw [hh] at h; cases h
    | some h' =>
      simp only [hh] at h
      cases hl : bnd h' lo 0 with
      | none => rw [hl] at h; cases h
      | some l =>
        simp only [hl, Option.some.injEq] at h
        subst h
        rw [ln_eq] at hh
        have hs : (⟨⟨s⟩⟩ : ByteArray).size = s.length := rfl
        have hb := run_bounds (P := PP) (E := E) (w := w) (isS := false) (len := s.length) (cap := s.length) hh hl
        refine ⟨?_, trivial⟩
        rw [tk_eq, dr_eq]
        simp [Instr.sliceAt, run_underlying hu, Instr.slice, conc, hs, hb, bytes_extract]
  · rename_i e _ a len cap ht
    obtain ⟨hu, _⟩ := tab_ok ht
    unfold sliceL at h
    cases hh : bnd (cond (Nat.blt cap HALF) cap len) hi len with
    | none => rw [hh] at h; cases h
    | some h' =>
      simp only [hh] at h
      split at h
      · rename_i l sz hl hsz
        obtain ⟨i, hi', rfl⟩ := sizeE_ok hsz
        obtain ⟨c', hc', hle, hkn, hop⟩ := slice_conc hg
        have hlh : l ≤ h' := (bnd_hi hl).elim id (fun h => by omega)
        cases hcap : Nat.blt cap HALF with
        | true =>
          rw [hcap, cond_true] at h hh
          rw [Nat.blt_eq] at hcap
          obtain rfl := hkn hcap
          simp only [Option.some.injEq] at h
          subst h
          have hb := run_bounds (P := PP) (E := E) (w := w) (isS := true) (len := len) (cap := c') hh hl
          have hhm : h' ≤ c' := (bnd_hi hh).elim id (fun h => by omega)
          refine ⟨?_, ?_⟩
          · rw [hc']
            unfold cutE
            by_cases hml : c' = l
            · subst hml
              have : h' - c' = 0 := by omega
              cases a <;> simp [Instr.sliceAt, run_underlying hu, Instr.slice, hb, run_sizeOf hi', conc, cCap, HALF, cAddr]
            · have hmm : ¬ (HALF ≤ c' - l) := by omega
              have := addr_map_conc (E := E) a (l * i.size)
              cases a with
              | none => simp [Instr.sliceAt, run_underlying hu, Instr.slice, hb, run_sizeOf hi', conc, hml]
              | some a =>
                simp only [Option.map_some, Option.some.injEq] at this
                simp [Instr.sliceAt, run_underlying hu, Instr.slice, hb, run_sizeOf hi', conc, hml, cCap_lt hmm, this]
          · unfold cutE
            cases a with
            | none => simp only [good] at hg ⊢; split <;> simp [good] <;> omega
            | some a =>
              simp only [good] at hg
              split <;> simp [good, hg.1, add_block] <;> omega
        | false =>
          rw [hcap, cond_false] at h hh
          have hcap : HALF ≤ cap := by
            rcases Nat.lt_or_ge cap HALF with h | h
            · rw [Nat.blt_eq.mpr h] at hcap; cases hcap
            · exact h
          obtain ⟨a, rfl, hcc, hsome⟩ := hop hcap
          have hhm : h' ≤ len := (bnd_hi hh).elim id (fun h => by omega)
          have hb := run_bounds (P := PP) (E := E) (w := w) (isS := true) (len := len) (cap := c') (bnd_le hle hh) hl
          simp only [good] at hg
          obtain ⟨g1, g2, g3⟩ := hg
          obtain ⟨g4, g5⟩ := g2 hcap
          rw [hc']
          cases hl0 : Nat.beq l 0 with
          | true =>
            have hl0 := Nat.eq_of_beq_eq_true hl0
            subst hl0
            rw [show Nat.beq 0 0 = true from rfl, cond_true, Option.some.injEq] at h
            subst h
            refine ⟨?_, ?_⟩
            · have hcv : conc E (.slice (some a) h' cap) = .slice (some (cAddr E a)) h' c' := by
                simp [conc, cCap, hcap, hcc]
              rw [hcv]
              by_cases hc0 : c' = 0
              · rw [hc0] at hb
                simp [Instr.sliceAt, run_underlying hu, Instr.slice, hb, run_sizeOf hi', hc0]
              · simp [Instr.sliceAt, run_underlying hu, Instr.slice, hb, run_sizeOf hi', hc0, Addr.add]
            · simp only [good]
              exact ⟨g1, fun _ => ⟨g4, by omega⟩, fun h => by omega⟩
          | false =>
            rw [hl0, cond_false] at h
            cases hll : (Nat.blt l len && Nat.ble HALF (cap - l)) with
            | false => rw [hll] at h; cases h
            | true =>
              rw [hll, cond_true, Option.some.injEq] at h
              simp only [Bool.and_eq_true, Nat.blt_eq] at hll
              obtain ⟨hll, hbig⟩ := hll
              have hbig := Nat.le_of_ble_eq_true hbig
              have hpos : 0 < HALF := by decide
              subst h
              refine ⟨?_, ?_⟩
              · have hne : c' ≠ l := by omega
                have := addr_map_conc (E := E) (some a) (l * i.size)
                simp only [Option.map_some, Option.some.injEq] at this
                have hcv : cCap E (a.add (l * i.size)) (cap - l) = c' - l := by
                  unfold cCap
                  rw [if_pos hbig, add_block, hcc]
                  omega
                simp [Instr.sliceAt, run_underlying hu, Instr.slice, hb, run_sizeOf hi', conc, hne, this, hcv]
              · simp only [good, Option.map_some]
                refine ⟨by rw [add_block]; exact g1, fun _ => ⟨by omega, ?_⟩, fun h => by omega⟩
                rw [add_block]
                omega
      · cases h
  · rename_i n e _ a ht
    obtain ⟨hu, _⟩ := tab_ok ht
    unfold sliceA at h
    cases hn : Nat.blt n HALF with
    | false => rw [hn] at h; cases h
    | true =>
    rw [hn, cond_true] at h
    rw [Nat.blt_eq] at hn
    cases hh : bnd n hi n with
    | none => rw [hh] at h; cases h
    | some h' =>
      simp only [hh] at h
      split at h
      · rename_i l sz hl hsz
        simp only [Option.some.injEq] at h
        subst h
        obtain ⟨i, hi', rfl⟩ := sizeE_ok hsz
        have hb := run_bounds (P := PP) (E := E) (w := w) (isS := false) (len := n) (cap := n) hh hl
        have hlh : l ≤ h' := (bnd_hi hl).elim id (fun h => by omega)
        have hhm : h' ≤ n := (bnd_hi hh).elim id (fun h => by omega)
        simp only [good] at hg
        have hmm : ¬ (HALF ≤ n - l) := by omega
        refine ⟨?_, ?_⟩
        · unfold cutE
          have := addr_map_conc (E := E) (some a) (l * i.size)
          simp only [Option.map_some, Option.some.injEq] at this
          by_cases hml : n = l
          · subst hml
            have : h' - n = 0 := by omega
            simp [Instr.sliceAt, Instr.sureAddr, run_underlying hu, hb, run_sizeOf hi', conc, cCap, HALF]
          · simp [Instr.sliceAt, Instr.sureAddr, run_underlying hu, hb, run_sizeOf hi', conc, hml, cCap_lt hmm, this]
        · unfold cutE
          by_cases hml : n = l
          · rw [if_pos hml]
            simp only [good]
            exact ⟨hg, fun h => absurd h hmm, fun _ => by omega⟩
          · rw [if_neg hml]
            simp only [good, Option.map_some, add_block]
            exact ⟨hg, fun h => absurd h hmm, fun _ => by omega⟩
      · cases h
  · cases h
/-! ### conversions -/
theorem u8E_ok (h : u8E e = true) : PP.underlying e = some (.int .u8) := by
  unfold u8E at h
  split at h
  · rename_i i ht; exact (tab_ok ht).1
  · cases h
theorem pureOf_ok {α : Type} {s : Sem α} {a : α} (h : pureOf PP s = some a) (w : World) : s.run PP w = .ok a w := by
  have key : ∀ (n : Nat) (s : Sem α), pureN PP n s = some a → s.run PP w = .ok a w := by
    intro n
    induction n with
    | zero => intro s h; cases h
    | succ n ih =>
      intro s h
      cases s with
      | pure b => obtain rfl : b = a := by simpa [pureN] using h
                  rfl
      | program k => exact ih (k PP) h
      | mark m k => exact ih k h
      | _ => cases h
  exact key _ s h
theorem ofF_ok {o : Option Value} {R : Result Value} (hR : ∀ v, o = some v → R = .ok v w) : VOk w0 E H w R (ofF o) := by
  unfold ofF
  cases o with
  | none => trivial
  | some v =>
    simp only
    cases ha : afree v with
    | false => trivial
    | true =>
      obtain ⟨c1, c2⟩ := afree_ok E ha
      exact ⟨by rw [hR v rfl, c1], c2⟩
theorem natV_ok {k : IntKind} {n : Nat} {v : Value} (h : natV k n = some v) : v = .int k (n : Int) ∧ n < lim k := by
  unfold natV at h
  cases hb : Nat.blt n (lim k) with
  | false => rw [hb] at h; cases h
  | true =>
    rw [hb, cond_true, Option.some.injEq] at h
    rw [Nat.blt_eq] at hb
    exact ⟨h.symm, hb⟩
theorem wrap_lim {k : IntKind} {n : Nat} (h : n < lim k) : k.wrap (n : Int) = n := by
  cases k with
  | i8 => exact Go.IntWalk.i8_in _ (by have : n < 128 := h; omega)
  | i16 => exact Go.IntWalk.i16_in _ (by have : n < 32768 := h; omega)
  | i32 => exact Go.IntWalk.i32_in _ (by have : n < 2147483648 := h; omega)
  | i64 => exact Go.IntWalk.i64_in _ (by have : n < 9223372036854775808 := h; omega)
  | u8 => exact Go.IntWalk.u8_in _ (by have : n < 256 := h; omega)
  | u16 => exact Go.IntWalk.u16_in _ (by have : n < 65536 := h; omega)
  | u32 => exact Go.IntWalk.u32_in _ (by have : n < 4294967296 := h; omega)
  | u64 => exact Go.IntWalk.u64_in _ (by have : n < 18446744073709551616 := h; omega)
end
end Go.Proofs.YtgjabfpkbcdkcaaGreatDoor
