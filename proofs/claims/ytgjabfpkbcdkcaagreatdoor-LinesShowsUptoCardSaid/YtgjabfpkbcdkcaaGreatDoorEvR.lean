/- The evaluator's copy, clear, strings and maps. -/
import Derived.Test.YtgjabfpkbcdkcaaGreatDoorEvQ
namespace Go.Proofs.YtgjabfpkbcdkcaaGreatDoor
set_option linter.unusedVariables false
set_option linter.unusedSimpArgs false
section
variable {P : Program} {w w' : World} {e : TypeId} {i : TypeInfo}
theorem run_copy {dT ty : TypeId} {ts : Array TypeId} (h0 : ts[0]? = some dT) (hu : P.underlying dT = some (.slice e)) (hi : P.info? e = some i) {x : Value} {m : Nat} {cs : List Value} {base : Option Addr} {dl c : Nat}
    (hl : (Builtin.lenOf x).run P w = .ok m w) (hf : (Builtin.firstCells i.size (Nat.min m dl) x).run P w = .ok ⟨cs⟩ w)
    (hst : (match base with | some a => (storeCells a cs).run P w | none => .ok () w) = .ok () w') :
    (Builtin.copy_ ts ty #[.slice base dl c, x]).run P w = .ok (goInt (Nat.min m dl)) w' := by
  cases base with
  | none =>
    simp only [Result.ok.injEq, true_and] at hst
    subst hst
    simp [Builtin.copy_, h0, run_underlying hu, sizeOf, typeInfo, hi, hl, hf]
  | some a => simp [Builtin.copy_, h0, run_underlying hu, sizeOf, typeInfo, hi, hl, hf, hst]
end
section
variable {w0 : Base} {w w' : World} {E E' : En} {H H' : Hp} {t e : TypeId} {d : TypeDesc} {i : TypeInfo}
theorem lenOf_ok {x : Value} {n : Nat} (h : lenOf' x = some n) (w : World) : (Builtin.lenOf (conc E x)).run PP w = .ok n w := by
  unfold lenOf' at h
  split at h
  · rename_i a m c
    simp only [Option.some.injEq] at h
    subst h
    cases a <;> simp [conc, Builtin.lenOf]
  · rename_i s
    simp only [Option.some.injEq, ln_eq] at h
    subst h
    simp [conc, Builtin.lenOf]
  · cases h
theorem copyE_ok (S : Sim PP w0 E H w) {ts : Array TypeId} {dT ty : TypeId} (h0 : ts[0]? = some dT) {d x : Value} (hgd : good E d) (hgx : good E x) :
    VOk w0 E H w ((Builtin.copy_ ts ty #[conc E d, conc E x]).run PP w) (copyE dT d x H) := by
  unfold copyE
  split
  · rename_i e _ base dl c m hdT hm
    obtain ⟨hu, _⟩ := tab_ok hdT
    cases hs : sizeE e with
    | none => trivial
    | some sz =>
      obtain ⟨i, hi, rfl⟩ := sizeE_ok hs
      simp only
      cases hf : firstOf H i.size (Nat.min m dl) x with
      | none => trivial
      | some new =>
        obtain ⟨f1, f2, f3⟩ := first_ok S hf rfl
        obtain ⟨c', hc', hle', hkn, hop⟩ := slice_conc hgd
        have hl := lenOf_ok (E := E) hm w
        simp only
        cases hn : Nat.beq (Nat.min m dl) 0 with
        | true =>
          have hn := Nat.eq_of_beq_eq_true hn
          rw [cond_true]
          refine ⟨?_, trivial⟩
          have hnil : new = [] := by
            rw [hn] at hf f3
            cases x with
            | slice a n c => exact List.eq_nil_of_length_eq_zero (by simpa using f3 a n c rfl)
            | string s =>
              simp only [firstOf, fL_eq, Option.some.injEq, mp_eq, tk_eq] at hf
              subst hf
              rfl
            | _ => simp [firstOf] at hf
          subst hnil
          rw [hc', run_copy (w' := w) h0 hu hi hl f1 (by cases base <;> simp [storeCells])]
          simp [hn, goInt, conc]
        | false =>
          rw [cond_false]
          split
          · rename_i id off
            cases hw : writeE H id off new with
            | none => trivial
            | some H' =>
              obtain ⟨hs, w', hr, hS⟩ := write_ok S hw f2
              refine ⟨E, w', ?_, En.le_refl E, hS, trivial⟩
              rw [hc', run_copy h0 hu hi hl f1 (by simpa [cAddr] using hr)]
              rfl
          · trivial
  · trivial
theorem run_clear_slice {P : Program} {w w' : World} {e : TypeId} {i : TypeInfo} {ts : Array TypeId} {st ty : TypeId} (h0 : ts[0]? = some st) (hu : P.underlying st = some (.slice e)) (hi : P.info? e = some i) {z : Value} (hz : i.zero = some z) {a : Addr} {n c : Nat} (hn : n ≠ 0) {l : List Value}
    (hl : l = (List.replicate n z.cells.toList).flatten) (hst : (storeCells a l).run P w = .ok () w') :
    (Builtin.clear_ ts ty #[.slice (some a) n c]).run P w = .ok (.tuple #[]) w' := by
  have hzc : (Builtin.zeroCells z.cells n).toList = l := by rw [zeroCells_eq, hl]
  obtain ⟨m, rfl⟩ : ∃ m, n = m + 1 := ⟨n - 1, by omega⟩
  simp [Builtin.clear_, h0, run_underlying hu, zeroValue, typeInfo, hi, hz, hzc, hst]
theorem run_clear_map {P : Program} {w : World} {k e : TypeId} {ts : Array TypeId} {st ty : TypeId} (h0 : ts[0]? = some st) (hu : P.underlying st = some (.map k e)) {b : Nat} {es : Array MapEntry} {clock : Nat} (hb : w.heap[b]? = some (.map es clock)) :
    (Builtin.clear_ ts ty #[.map (some b)]).run P w = .ok (.tuple #[]) { w with heap := w.heap.setIfInBounds b (.map #[] clock) } := by
  simp [Builtin.clear_, h0, run_underlying hu, getObj, setObj, Sem.run, hb]
theorem clearE_ok (S : Sim PP w0 E H w) {ts : Array TypeId} {st ty : TypeId} (h0 : ts[0]? = some st) {x : Value} (hgx : good E x) :
    VOk w0 E H w ((Builtin.clear_ ts ty #[conc E x]).run PP w) (clearE st x H) := by
  unfold clearE
  split
  · rename_i e _ id off n c hst
    obtain ⟨hu, _⟩ := tab_ok hst
    cases he : tabE e with
    | none => trivial
    | some y =>
      obtain ⟨d, i⟩ := y
      obtain ⟨_, hi⟩ := tab_ok he
      simp only
      cases hz : cond (Nat.blt 0 n) (zerosE i n) none with
      | none => trivial
      | some l =>
        simp only
        cases hn : Nat.blt 0 n with
        | false => rw [hn] at hz; cases hz
        | true =>
          rw [hn, cond_true] at hz
          rw [Nat.blt_eq] at hn
          obtain ⟨zv, h1, h2, h3, h4, _⟩ := zerosE_ok hz
          obtain ⟨z1, z2⟩ := zeros_conc (E := E) h2 n
          cases hw : writeE H id off l with
          | none => trivial
          | some H' =>
            obtain ⟨hs, w', hr, hS⟩ := write_ok S hw (by rw [h4]; exact z2)
            refine ⟨E, w', ?_, En.le_refl E, hS, trivial⟩
            have hlm : l.map (conc E) = l := by rw [h4]; exact z1
            rw [hlm] at hr
            exact run_clear_slice h0 hu hi h1 (by omega) h4 hr
  · rename_i k e _ id hst
    obtain ⟨hu, _⟩ := tab_ok hst
    split
    · rename_i es hg
      obtain ⟨b, c, hE, hb, ents, clock, a1, a2, a3⟩ := S.at_ hg (by intro q; simp)
      have hblk : E.blk id = b := by simp [En.blk, hE]
      have hlt := (Array.getElem?_eq_some_iff.1 a1).1
      refine ⟨E, _, by simp only [conc, hblk]; exact run_clear_map h0 hu a1, En.le_refl E, ?_, trivial⟩
      refine S.put hg hE hb (by simp) (fun k hk => by simp [Array.getElem?_setIfInBounds_ne (Ne.symm hk)]) rfl rfl rfl (by intro q; simp) ⟨#[], clock, by simp [hlt], rfl, by simp⟩
    · trivial
  · trivial
theorem byteOf_ok {v : Value} {b : UInt8} (h : byteOf' v = some b) : v = .int .u8 (b.toNat : Int) := by
  unfold byteOf' at h
  split at h
  · rename_i m
    cases hb : Nat.blt m 256 with
    | false => rw [hb] at h; cases h
    | true =>
      rw [hb, cond_true, Option.some.injEq] at h
      rw [Nat.blt_eq] at hb
      subst h
      simp [Nat.mod_eq_of_lt hb]
  · cases h
theorem bytesE_nil : bytesE [] = some [] := rfl
theorem bytesE_cons (v : Value) (l : List Value) : bytesE (v :: l) = (match byteOf' v, bytesE l with | some b, some bs => some (b :: bs) | _, _ => none) := rfl
theorem bytesE_ok : ∀ (l : List Value) (s : List UInt8), bytesE l = some s → l = s.map (fun b => .int .u8 (b.toNat : Int))
  | [], s, h => by rw [bytesE_nil, Option.some.injEq] at h; subst h; rfl
  | v :: l, s, h => by
    rw [bytesE_cons] at h
    split at h
    · rename_i b bs hb hbs
      simp only [Option.some.injEq] at h
      subst h
      rw [byteOf_ok hb, bytesE_ok l bs hbs]
      rfl
    · cases h
end
end Go.Proofs.YtgjabfpkbcdkcaaGreatDoor
