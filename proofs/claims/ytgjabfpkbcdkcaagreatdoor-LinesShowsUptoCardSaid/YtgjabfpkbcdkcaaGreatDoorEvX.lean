/- The evaluator's conversions and comparisons. -/
import Derived.Test.YtgjabfpkbcdkcaaGreatDoorEvW
import Derived.Lib.UnsafeStr
import Derived.Lib.Builder
import Derived.Laws.IdiomStrings
import Derived.Laws.BytesString
namespace Go.Proofs.YtgjabfpkbcdkcaaGreatDoor
set_option linter.unusedVariables false
set_option linter.unusedSimpArgs false
def ptrish (v : Value) : Bool := match v with | .pointer _ | .slice _ _ _ | .map _ | .func _ _ _ | .nilFunc | .iface _ _ | .nilIface => true | _ => false
def isNilI (v : Value) : Bool := match v with | .nilIface => true | _ => false
section
variable {P : Program} {w : World} {t : TypeId}
theorem binOp_eql {x y : Value} (h : ptrish x = true) : binOp .eql t x y = (do pure (.bool (← Op.equal t x y))) := by
  cases x <;> simp [ptrish] at h <;> cases y <;> rfl
theorem binOp_neq {x y : Value} (h : ptrish x = true) : binOp .neq t x y = (do pure (.bool (!(← Op.equal t x y)))) := by
  cases x <;> simp [ptrish] at h <;> cases y <;> rfl
theorem guard_ptr (op : BinOp) (ox oy : Operand) {x y : Value} (h : ptrish x = true) (hn : (isNilI x && isNilI y) = false) : (eqGuard op t ox oy x y).run P w = .ok () w := by
  have key : ∀ op, op = .eql ∨ op = .neq → (eqGuard op t ox oy x y).run P w = .ok () w := by
    rintro op (rfl | rfl)
    all_goals (cases x <;> simp [ptrish] at h <;> cases y <;> first | rfl | (simp [isNilI] at hn))
  cases op <;> first | exact key _ (.inl rfl) | exact key _ (.inr rfl) | rfl
end
section
variable {w0 : Base} {w w' : World} {E E' : En} {H H' : Hp} {t e : TypeId} {d : TypeDesc} {i : TypeInfo}
theorem eqE_shape {x y : Value} {b : Bool} (h : eqE t x y = some b) : ptrish (conc E x) = true ∧ (isNilI (conc E x) && isNilI (conc E y)) = false := by
  unfold eqE at h
  cases ht : tabE t with
  | none => rw [ht] at h; cases h
  | some z =>
    obtain ⟨d, i⟩ := z
    simp only [ht] at h
    split at h
    all_goals first
      | (cases h; done)
      | exact ⟨rfl, rfl⟩
      | (rename_i a; cases a <;> exact ⟨rfl, rfl⟩)
      | (rename_i a _ _; cases a <;> exact ⟨rfl, rfl⟩)
theorem bin_ok {op : BinOp} {ox oy : Operand} {x y : Value} (hx : good E x) (hy : good E y) (w : World) :
    VOk w0 E H w ((do eqGuard op t ox oy (conc E x) (conc E y); binOp op t (conc E x) (conc E y) : Sem Value).run PP w) (binE op t ox oy x y) := by
  have hF : ∀ x y : Value, conc E x = x → conc E y = y → VOk w0 E H w ((do eqGuard op t ox oy (conc E x) (conc E y); binOp op t (conc E x) (conc E y) : Sem Value).run PP w) (binF op t ox oy x y) := by
    intro x y hx hy
    unfold binF
    rw [hx, hy]
    cases hg : pureOf PP (eqGuard op t ox oy x y) with
    | none => trivial
    | some u =>
      refine ofF_ok fun v hv => ?_
      have h1 := pureOf_ok hg w
      have h2 := pureOf_ok hv w
      simp [h1, h2]
  have hv : ∀ (x y v : Value), conc E x = x → conc E y = y → (eqGuard op t ox oy x y).run PP w = .ok () w → (binOp op t x y).run PP w = .ok v w ∧ afree v = true →
      VOk w0 E H w ((do eqGuard op t ox oy (conc E x) (conc E y); binOp op t (conc E x) (conc E y) : Sem Value).run PP w) (.v v) := by
    intro x y v hx hy hg hb
    obtain ⟨c1, c2⟩ := afree_ok E hb.2
    refine ⟨?_, c2⟩
    rw [hx, hy, c1]
    simp [hg, hb.1]
  unfold binE
  split
  · rename_i k a j b
    cases hf : fastE op k j a b with
    | some v => exact hv _ _ v rfl rfl (guard_int op ox oy) (fastE_ok hf)
    | none => exact hF _ _ rfl rfl
  · rename_i a b
    cases hf : strE op a b with
    | some v => exact hv _ _ v rfl rfl (guard_str op ox oy) (strE_ok hf)
    | none => exact hF _ _ rfl rfl
  · unfold binG
    cases ha : (afree x && afree y) with
    | true =>
      rw [cond_true]
      simp only [Bool.and_eq_true] at ha
      exact hF x y (afree_ok E ha.1).1 (afree_ok E ha.2).1
    | false =>
      rw [cond_false]
      unfold binQ
      split
      · rename_i b hq
        obtain ⟨s1, s2⟩ := eqE_shape (E := E) hq
        have hr := eqE_ok (E := E) hq w
        refine ⟨?_, trivial⟩
        rw [binOp_eql s1]
        simp [guard_ptr .eql ox oy s1 s2, hr, conc]
      · rename_i b hq
        obtain ⟨s1, s2⟩ := eqE_shape (E := E) hq
        have hr := eqE_ok (E := E) hq w
        refine ⟨?_, trivial⟩
        rw [binOp_neq s1]
        simp [guard_ptr .neq ox oy s1 s2, hr, conc]
      · trivial
theorem push_bytes : ∀ (s acc : List UInt8), (s.map fun b => (b.toNat : Int)).foldl (fun (r : ByteArray) n => r.push (UInt8.ofNat n.toNat)) ⟨⟨acc⟩⟩ = ⟨⟨acc ++ s⟩⟩ := by
  intro s
  induction s with
  | nil => intro acc; simp
  | cons b s ih =>
    intro acc
    have hp : (⟨⟨acc⟩⟩ : ByteArray).push (UInt8.ofNat ((b.toNat : Int)).toNat) = ⟨⟨acc ++ [b]⟩⟩ := by
      simp [ByteArray.push]
    rw [List.map_cons, List.foldl_cons, hp, ih]
    simp
theorem dflt_ok (s : Sem Value) : VOk w0 E H w (s.run PP w) (ofF (pureOf PP s)) := ofF_ok fun v hv => pureOf_ok hv w
theorem conv_ok (S : Sim PP w0 E H w) {src dst : TypeId} {x : Value} (hg : good E x) : VOk w0 E H w ((convert src dst (conc E x)).run PP w) (convE src dst x H) := by
  unfold convE
  split
  · rename_i sd si dd di hs hd
    obtain ⟨hus, _⟩ := tab_ok hs
    obtain ⟨hud, _⟩ := tab_ok hd
    split
    · rename_i q k r n
      cases hv : natV k n with
      | some v =>
        obtain ⟨rfl, hl⟩ := natV_ok hv
        refine ⟨?_, trivial⟩
        have := wrap_lim hl
        have hc : Int.ofNat n = (n : Int) := rfl
        simp [convert, run_underlying hus, run_underlying hud, conc, Conv.intToInt, hc, this]
      | none =>
        refine ⟨?_, trivial⟩
        simp [convert, run_underlying hus, run_underlying hud, conc, Conv.intToInt]
    · refine ⟨?_, trivial⟩
      simp [convert, run_underlying hus, run_underlying hud, conc, Conv.intToInt]
    · rename_i e s
      cases hb : (u8E e && Nat.beq ((sizeE e).getD 0) 1) with
      | false => trivial
      | true =>
        rw [cond_true]
        simp only [Bool.and_eq_true] at hb
        have hu8 := u8E_ok hb.1
        have hz := Nat.eq_of_beq_eq_true hb.2
        cases hse : sizeE e with
        | none => rw [hse] at hz; cases hz
        | some sz =>
          rw [hse] at hz
          obtain ⟨i, hi, rfl⟩ := sizeE_ok hse
          have hz : i.size = 1 := hz
          have hr := run_bytes_of_string (P := PP) w src dst e ⟨⟨s⟩⟩ hus hud hu8
          have hcap := grownCap_ge w s.length 0 e
          have hsz : (⟨⟨s⟩⟩ : ByteArray).size = s.length := rfl
          rw [hsz] at hr
          generalize grownCap w s.length 0 e = gc at hr hcap
          unfold rowE
          rw [fL_eq, mp_eq, ln_eq]
          have hrow : (bytesRow ⟨⟨s⟩⟩ gc).toList = (s.map fun b => Value.int .u8 (b.toNat : Int)).map (conc (E.add H.nx (w.heap.size, gc))) ++ List.replicate (gc - s.length) (.int .u8 0) := by
            simp [bytesRow, hsz, conc]
          have hrl : (bytesRow ⟨⟨s⟩⟩ gc).size = gc := by
            rw [← Array.length_toList, hrow]
            simp
            omega
          have hself : (E.add H.nx (w.heap.size, gc)) H.nx = some (w.heap.size, gc) := if_pos rfl
          rw [hrl] at hr
          have hnew := Sim.new (w' := w.drew.alloc (.cells (bytesRow ⟨⟨s⟩⟩ gc) e (gc, gc + 1))) (c := gc) (o := .cells e (s.map fun b => Value.int .u8 (b.toNat : Int)) true false) S (.cells (bytesRow ⟨⟨s⟩⟩ gc) e (gc, gc + 1)) rfl rfl rfl rfl rfl (by intro q; simp)
            ⟨_, (gc, gc + 1), heap_alloc_new w.drew _, fun v hv => by obtain ⟨b, _, rfl⟩ := List.mem_map.1 hv; trivial, ⟨_, hrow, (fun h => by cases h)⟩, fun _ => ⟨i, hi, by rw [hrl, hz, Nat.mul_one]⟩, fun _ j hj => by
              have h := heap_alloc_new w.drew (.cells (bytesRow ⟨⟨s⟩⟩ gc) e (gc, gc + 1))
              have e : w.drew.heap.size = w.heap.size := rfl
              rw [e] at h
              unfold World.frozen?
              simp only [h]
              rw [hrl] at hj
              simp
              omega⟩
          refine ⟨_, _, ?_, hnew.2, hnew.1, ?_⟩
          · simp only [conc]
            rw [hr]
            simp [cAddr, cCap, En.blk, En.cap, hself, HALF_OPEN]
          · simp only [good, hself]
            exact ⟨rfl, fun _ => ⟨Nat.le_refl _, by simp [En.cap, hself]; exact hcap⟩, fun h => by have := HALF_OPEN; omega⟩
    · rename_i e a n c
      cases hb : u8E e with
      | false => trivial
      | true =>
        rw [cond_true]
        have hu8 := u8E_ok hb
        cases hf : firstOf H 1 n (.slice a n c) with
        | none => trivial
        | some l =>
          simp only
          cases hs' : bytesE l with
          | none => trivial
          | some s =>
            have hl := bytesE_ok l s hs'
            obtain ⟨f1, f2, f3⟩ := first_ok S hf rfl
            refine ⟨?_, trivial⟩
            obtain ⟨c', hc', _⟩ := slice_conc hg
            have hconv := run_convert_bytes_string (P := PP) w src dst e (a.map (cAddr E)) n c' hus hu8 hud
            rw [hc', hconv]
            rw [hc'] at f1
            cases a with
            | none =>
              have hn : n = 0 := by
                unfold firstOf at hf
                simp only at hf
                cases hq : Nat.beq n 0 with
                | false => rw [hq] at hf; cases hf
                | true => exact Nat.eq_of_beq_eq_true hq
              subst hn
              have : l = [] := List.eq_nil_of_length_eq_zero (by simpa using f3 _ _ _ rfl)
              subst this
              cases s with
              | nil => simp [Conv.bytesToString, conc]; rfl
              | cons b s => simp at hl
            | some a =>
              have hld : (loadCells (cAddr E a) n).run PP w = .ok (((s.map fun b => (b.toNat : Int)).map (Value.int .u8))).toArray w := by
                simp only [Option.map_some, Builtin.firstCells, Nat.mul_one] at f1
                rw [f1, hl]
                simp [conc]
              have hbs := run_bytesToString (P := PP) w (cAddr E a) n c' (s.map fun b => (b.toNat : Int)) hld
              rw [Option.map_some, hbs]
              have := push_bytes s []
              have he : ByteArray.empty = ⟨⟨[]⟩⟩ := rfl
              rw [he, this]
              simp [conc]
    · rename_i e id off
      split
      · rename_i cs sz hc hsz
        cases hb : (Nat.blt off (ln cs) && Nat.blt 0 sz) with
        | false => trivial
        | true =>
          rw [cond_true]
          simp only [Bool.and_eq_true, Nat.blt_eq, ln_eq] at hb
          obtain ⟨j, hj, rfl⟩ := sizeE_ok hsz
          obtain ⟨hsome, arr, ty, fr, h1, h2, _⟩ := cellsOf_ok S hc
          refine ⟨?_, hg⟩
          have hsh : w.shape? (cAddr E ⟨id, off, none⟩).block = some (ty, arr.size) := by simp [World.shape?, cAddr, h1]
          exact Go.Lib.run_to_unsafe (P := PP) w (cAddr E ⟨id, off, none⟩) hus hud hj (by omega) hsh (by simp [cAddr]; omega)
      · trivial
    · rename_i u id
      split
      · rename_i ty cs ro sz hgt hsz
        cases hb : liesAt PP PP.depth ty (ln cs / PP.cellsOf ty) 0 u 1 with
        | false => trivial
        | true =>
          rw [cond_true]
          obtain ⟨j, hj, _⟩ := sizeE_ok hsz
          obtain ⟨b, c, hE, hbb, arr, fr, a1, a2, ⟨rest, a3, a3'⟩, _⟩ := S.at_ hgt (by intro q; simp)
          have hrest := a3' rfl
          subst hrest
          have hsz2 : arr.size = cs.length := by have := congrArg List.length a3; simpa using this
          refine ⟨?_, hg⟩
          have hblk : E.blk id = b := by simp [En.blk, hE]
          have hsh : w.shape? (cAddr E ⟨id, 0, none⟩).block = some (ty, arr.size) := by simp [World.shape?, cAddr, hblk, a1]
          rw [ln_eq, ← hsz2] at hb
          exact Go.Lib.run_from_unsafe (P := PP) w (cAddr E ⟨id, 0, none⟩) hus hud hj hsh hb
      · trivial
    · cases ha : afree x with
      | false => trivial
      | true =>
        rw [cond_true, (afree_ok E ha).1]
        generalize convert src dst x = s
        exact dflt_ok s
  · trivial
end
end Go.Proofs.YtgjabfpkbcdkcaaGreatDoor
