/- What the evaluator's values and blocks stand for in a world. -/
import Derived.Test.YtgjabfpkbcdkcaaGreatDoorEvL
import Derived.RowKit
namespace Go.Proofs.YtgjabfpkbcdkcaaGreatDoor
set_option linter.unusedSimpArgs false
set_option linter.unusedVariables false
/-- of each of the evaluator's blocks: the world's block, and its capacity (of an open row) -/
abbrev En := Nat → Option (Nat × Nat)
def En.le (E E' : En) : Prop := ∀ id x, E id = some x → E' id = some x
theorem En.le_refl (E : En) : E.le E := fun _ _ h => h
theorem En.le_trans {E E' E'' : En} (h : E.le E') (k : E'.le E'') : E.le E'' := fun id x hx => k id x (h id x hx)
def En.blk (E : En) (id : Nat) : Nat := match E id with | some x => x.1 | none => 0
def En.cap (E : En) (id : Nat) : Nat := match E id with | some x => x.2 | none => 0
def En.add (E : En) (id : Nat) (x : Nat × Nat) : En := fun j => if j = id then some x else E j
theorem En.add_le {E : En} {id : Nat} {x : Nat × Nat} (h : E id = none) : E.le (E.add id x) := fun j y hy => by
  unfold En.add
  rw [if_neg (by rintro rfl; rw [h] at hy; cases hy)]
  exact hy
/-- an int by a number -/
def decI (n : Nat) : Int := if n % 2 = 0 then Int.ofNat (n / 2) else Int.negSucc (n / 2)
def encI (i : Int) : Nat := match i with | .ofNat n => 2 * n | .negSucc n => 2 * n + 1
theorem decI_encI (i : Int) : decI (encI i) = i := by
  cases i with
  | ofNat n =>
    have h1 : 2 * n % 2 = 0 := by omega
    have h2 : 2 * n / 2 = n := by omega
    simp only [encI, decI, h1, h2, if_pos]
  | negSucc n =>
    have h1 : ¬ (2 * n + 1) % 2 = 0 := by omega
    have h2 : (2 * n + 1) / 2 = n := by omega
    simp only [encI, decI, h1, h2, if_neg, not_false_eq_true]
def cAddr (E : En) (a : Addr) : Addr := { a with block := E.blk a.block }
def cCap (E : En) (a : Addr) (c : Nat) : Nat := if HALF ≤ c then E.cap a.block - (OPEN - c) else c
mutual
def conc (E : En) : Value → Value
  | .pointer (some a) => .pointer (some (cAddr E a))
  | .slice (some a) n c => .slice (some (cAddr E a)) n (cCap E a c)
  | .map (some r) => .map (some (E.blk r))
  | .chan (some r) => .chan (some (E.blk r))
  | .func (.yield k) _ _ => .int .i64 (decI (E.cap k))
  | .func fn f c => .func fn (concA E f) (concA E c)
  | .iface t v => .iface t (conc E v)
  | .agg cs => .agg (concA E cs)
  | .tuple cs => .tuple (concA E cs)
  | .pointer none => .pointer none
  | .slice none n c => .slice none n c
  | .map none => .map none
  | .chan none => .chan none
  | .bool b => .bool b
  | .int k n => .int k n
  | .float k b => .float k b
  | .complex k a b => .complex k a b
  | .string s => .string s
  | .nilFunc => .nilFunc
  | .nilIface => .nilIface
def concA (E : En) : Array Value → Array Value
  | ⟨l⟩ => ⟨concL E l⟩
def concL (E : En) : List Value → List Value
  | [] => []
  | v :: l => conc E v :: concL E l
end
mutual
def good (E : En) : Value → Prop
  | .pointer (some a) => (E a.block).isSome = true
  | .slice (some a) n c => (E a.block).isSome = true ∧ (HALF ≤ c → c ≤ OPEN ∧ n + (OPEN - c) ≤ E.cap a.block) ∧ (c < HALF → n ≤ c)
  | .slice none n c => c < HALF ∧ n ≤ c
  | .map (some r) => (E r).isSome = true
  | .chan (some r) => (E r).isSome = true
  | .func (.func _) f c => goodA E f ∧ goodA E c
  | .func (.yield k) _ _ => (E k).isSome = true
  | .func _ _ _ => False
  | .iface _ v => good E v
  | .agg cs => goodA E cs
  | .tuple cs => goodA E cs
  | _ => True
def goodA (E : En) : Array Value → Prop
  | ⟨l⟩ => goodL E l
def goodL (E : En) : List Value → Prop
  | [] => True
  | v :: l => good E v ∧ goodL E l
end
theorem concL_eq (E : En) (l : List Value) : concL E l = l.map (conc E) := by
  induction l with
  | nil => rfl
  | cons v l ih => simp [concL, ih]
theorem concA_eq (E : En) (a : Array Value) : (concA E a).toList = a.toList.map (conc E) := by
  obtain ⟨l⟩ := a; simp [concA, concL_eq]
theorem concA_mk (E : En) (l : List Value) : concA E ⟨l⟩ = ⟨l.map (conc E)⟩ := by simp [concA, concL_eq]
theorem goodL_iff {E : En} {l : List Value} : goodL E l ↔ ∀ v ∈ l, good E v := by
  induction l with
  | nil => simp [goodL]
  | cons v l ih => simp [goodL, ih]
theorem goodA_iff {E : En} {a : Array Value} : goodA E a ↔ ∀ v ∈ a.toList, good E v := by
  obtain ⟨l⟩ := a; simp only [goodA, goodL_iff]
theorem En.blk_le {E E' : En} (h : E.le E') {id : Nat} (hs : (E id).isSome = true) : E'.blk id = E.blk id := by
  obtain ⟨x, hx⟩ := Option.isSome_iff_exists.1 hs
  simp [En.blk, hx, h _ _ hx]
theorem En.cap_le {E E' : En} (h : E.le E') {id : Nat} (hs : (E id).isSome = true) : E'.cap id = E.cap id := by
  obtain ⟨x, hx⟩ := Option.isSome_iff_exists.1 hs
  simp [En.cap, hx, h _ _ hx]
theorem En.some_le {E E' : En} (h : E.le E') {id : Nat} (hs : (E id).isSome = true) : (E' id).isSome = true := by
  obtain ⟨x, hx⟩ := Option.isSome_iff_exists.1 hs
  simp [h _ _ hx]
mutual
theorem conc_le {E E' : En} (h : E.le E') : ∀ v : Value, good E v → conc E' v = conc E v ∧ good E' v
  | .pointer (some a), hg => by
    simp only [good] at hg
    simp [conc, good, cAddr, En.blk_le h hg, En.some_le h hg]
  | .slice (some a) n c, hg => by
    simp only [good] at hg
    obtain ⟨h1, h2⟩ := hg
    refine ⟨by simp [conc, cAddr, cCap, En.blk_le h h1, En.cap_le h h1], ?_⟩
    simp only [good]
    exact ⟨En.some_le h h1, fun hc => by rw [En.cap_le h h1]; exact h2.1 hc, h2.2⟩
  | .slice none n c, hg => ⟨rfl, hg⟩
  | .map (some r), hg => by
    simp only [good] at hg
    simp [conc, good, En.blk_le h hg, En.some_le h hg]
  | .chan (some r), hg => by
    simp only [good] at hg
    simp [conc, good, En.blk_le h hg, En.some_le h hg]
  | .func (.func f) a c, hg => by
    simp only [good] at hg
    obtain ⟨h1, h2⟩ := concA_le h a hg.1
    obtain ⟨h3, h4⟩ := concA_le h c hg.2
    simp [conc, good, h1, h2, h3, h4]
  | .func (.method _) a c, hg => by simp [good] at hg
  | .func (.methodOf _ _) a c, hg => by simp [good] at hg
  | .func (.via _ _ _ _) a c, hg => by simp [good] at hg
  | .func (.yield k) a c, hg => by
    simp only [good] at hg
    exact ⟨by simp [conc, En.cap_le h hg], En.some_le h hg⟩
  | .iface t v, hg => by
    simp only [good] at hg
    obtain ⟨h1, h2⟩ := conc_le h v hg
    simp [conc, good, h1, h2]
  | .agg cs, hg => by
    simp only [good] at hg
    obtain ⟨h1, h2⟩ := concA_le h cs hg
    simp [conc, good, h1, h2]
  | .tuple cs, hg => by
    simp only [good] at hg
    obtain ⟨h1, h2⟩ := concA_le h cs hg
    simp [conc, good, h1, h2]
  | .pointer none, _ => ⟨rfl, trivial⟩
  | .map none, _ => ⟨rfl, trivial⟩
  | .chan none, _ => ⟨rfl, trivial⟩
  | .bool _, _ => ⟨rfl, trivial⟩
  | .int _ _, _ => ⟨rfl, trivial⟩
  | .float _ _, _ => ⟨rfl, trivial⟩
  | .complex _ _ _, _ => ⟨rfl, trivial⟩
  | .string _, _ => ⟨rfl, trivial⟩
  | .nilFunc, _ => ⟨rfl, trivial⟩
  | .nilIface, _ => ⟨rfl, trivial⟩
theorem concA_le {E E' : En} (h : E.le E') : ∀ a : Array Value, goodA E a → concA E' a = concA E a ∧ goodA E' a
  | ⟨l⟩, hg => by
    simp only [goodA] at hg
    obtain ⟨h1, h2⟩ := concL_le h l hg
    simp [concA, goodA, h1, h2]
theorem concL_le {E E' : En} (h : E.le E') : ∀ l : List Value, goodL E l → concL E' l = concL E l ∧ goodL E' l
  | [], _ => ⟨rfl, trivial⟩
  | v :: l, hg => by
    simp only [goodL] at hg
    obtain ⟨h1, h2⟩ := conc_le h v hg.1
    obtain ⟨h3, h4⟩ := concL_le h l hg.2
    simp [concL, goodL, h1, h2, h3, h4]
end
theorem map_conc_le {E E' : En} (h : E.le E') {l : List Value} (hg : ∀ v ∈ l, good E v) : l.map (conc E') = l.map (conc E) :=
  List.map_congr_left fun v hv => (conc_le h v (hg v hv)).1
/-! ### values without addresses -/
theorem afreeN_ok (E : En) : ∀ (d : Nat) (v : Value), afreeN d v = true → conc E v = v ∧ good E v := by
  intro d
  induction d with
  | zero => intro v h; cases h
  | succ d ih =>
    have hl : ∀ l : List Value, allB (afreeN d) l = true → concL E l = l ∧ goodL E l := by
      intro l
      induction l with
      | nil => intro _; exact ⟨rfl, trivial⟩
      | cons v l ihl =>
        intro h
        have h1 := allB_iff.1 h
        obtain ⟨a, b⟩ := ih v (h1 v (by simp))
        obtain ⟨c, e⟩ := ihl (allB_iff.2 fun x hx => h1 x (by simp [hx]))
        simp [concL, goodL, a, b, c, e]
    intro v h
    cases v with
    | bool b => exact ⟨rfl, trivial⟩
    | int k n => exact ⟨rfl, trivial⟩
    | float k n => exact ⟨rfl, trivial⟩
    | complex k a b => exact ⟨rfl, trivial⟩
    | string s => exact ⟨rfl, trivial⟩
    | nilFunc => exact ⟨rfl, trivial⟩
    | nilIface => exact ⟨rfl, trivial⟩
    | pointer a =>
      cases a with
      | none => exact ⟨rfl, trivial⟩
      | some a => cases h
    | map a =>
      cases a with
      | none => exact ⟨rfl, trivial⟩
      | some a => cases h
    | chan a =>
      cases a with
      | none => exact ⟨rfl, trivial⟩
      | some a => cases h
    | slice a n c =>
      cases a with
      | none =>
        refine ⟨rfl, ?_⟩
        have h2 : (Nat.blt c HALF && Nat.ble n c) = true := h
        simp only [Bool.and_eq_true, Nat.blt_eq] at h2
        simp only [good]
        exact ⟨h2.1, Nat.le_of_ble_eq_true h2.2⟩
      | some a => cases h
    | func f a c => cases h
    | iface t v =>
      obtain ⟨a, b⟩ := ih v h
      simp [conc, good, a, b]
    | agg cs =>
      obtain ⟨l⟩ := cs
      obtain ⟨a, b⟩ := hl l h
      simp [conc, good, concA, goodA, a, b]
    | tuple cs =>
      obtain ⟨l⟩ := cs
      obtain ⟨a, b⟩ := hl l h
      simp [conc, good, concA, goodA, a, b]
theorem afree_ok (E : En) {v : Value} (h : afree v = true) : conc E v = v ∧ good E v := afreeN_ok E 8 v h
theorem afree_cells (E : En) {v : Value} (h : afree v = true) : (v.cells.toList).map (conc E) = v.cells.toList ∧ ∀ x ∈ v.cells.toList, good E x := by
  obtain ⟨h1, h2⟩ := afree_ok E h
  cases v <;> simp only [Value.cells] <;> try (simp [h1, h2]; done)
  rename_i cs
  obtain ⟨l⟩ := cs
  simp only [conc, concA_mk, Value.agg.injEq, Array.mk.injEq] at h1
  exact ⟨h1, goodA_iff.1 h2⟩
theorem conc_cells (E : En) (v : Value) : (conc E v).cells.toList = v.cells.toList.map (conc E) := by
  cases v with
  | agg cs => simp [conc, Value.cells, concA_eq]
  | pointer a => cases a <;> simp [conc, Value.cells]
  | slice a n c => cases a <;> simp [conc, Value.cells]
  | map a => cases a <;> simp [conc, Value.cells]
  | chan a => cases a <;> simp [conc, Value.cells]
  | func fn a c => cases fn <;> simp [conc, Value.cells]
  | _ => simp [conc, Value.cells]
theorem good_cells {E : En} {v : Value} (h : good E v) : ∀ x ∈ v.cells.toList, good E x := by
  cases v with
  | agg cs => exact goodA_iff.1 h
  | _ => simpa [Value.cells] using h
theorem conc_one1 (E : En) (v : Value) : one1 (conc E v) = one1 v := by
  cases v with
  | pointer a => cases a <;> rfl
  | slice a n c => cases a <;> rfl
  | map a => cases a <;> rfl
  | chan a => cases a <;> rfl
  | func fn a c => cases fn <;> rfl
  | _ => rfl
end Go.Proofs.YtgjabfpkbcdkcaaGreatDoor
