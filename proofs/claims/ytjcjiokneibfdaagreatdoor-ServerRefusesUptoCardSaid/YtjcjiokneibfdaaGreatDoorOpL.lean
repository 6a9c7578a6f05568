/- More words for regions that draw their order: a slice of one is built, a row grows; a whole slice, empty or not, is appended. No function of the program is named. -/
import Derived.Test.YtjcjiokneibfdaaGreatDoorFitL
namespace Go.Proofs.YtjcjiokneibfdaaGreatDoor
set_option linter.unusedVariables false
open Go.RowKit

section
variable {P : Program} {ops : Array Oper} {Q : Exit → Act → World → Prop} {i : Nat} {o : Oper} {a : Act} {w : World} {K : Act → World → Prop}
theorem wpOp_wp (hi : ops[i]? = some o) (hw : Region.wanted o (yielded ops a.tmps) = true) (h : o.wp P a w K Q) : wpOp P ops Q i K a w := by
  unfold wpOp
  simp only [hi, hw, if_true]
  exact .inl h
theorem wpOp_slice1 (hi : ops[i]? = some o) (hw : Region.wanted o (yielded ops a.tmps) = true) (t : TypeId) (x : Operand) (ho : o.op = .buildSlice t 1 #[(0, x)]) {e sz : Nat} (E : SliceT P t e sz) (cs : Array Value) (hx : (a.eval x).cells = cs) (hv : cs.size = sz)
    (h : K (a.put o.dst (.slice (some ⟨w.heap.size, 0, none⟩) 1 1)) (w.alloc (.cells cs e))) : wpOp P ops Q i K a w := by
  obtain ⟨ht, i', z, hi', hz, hzs, hsz, h0, hle, hby⟩ := E
  subst hx
  have hr := run_slice1 ht hi' hz (by rw [hzs, hsz]) (by omega) (by omega) (a.eval x) (by rw [hv, hsz]) w
  refine wpOp_wp hi hw ?_
  unfold Oper.wp
  simp only [execOp, ho]
  simp [hr, Result.andThen]
  exact h
theorem wpOp_app1 (hi : ops[i]? = some o) (hw : Region.wanted o (yielded ops a.tmps) = true) (s x : Operand) (t : TypeId) (ho : o.op = .call { callee := .builtin .append, args := #[s, x], argTypes := #[t, t] })
    (base : Nat) {e sz : Nat} (E : SliceT P t e sz) (v : Value) (n : Nat) (xs : List Value) (hs : a.eval s = v) (hown : w.ownsRow base e sz v n xs)
    (g c : Nat) (cs : Array Value) (hx : a.eval x = .slice (some ⟨g, 0, none⟩) 1 c) (hg : Blk w g e cs) (hcs : cs.size = sz) (h1 : cs.toList.all Value.oneCell' = true)
    (hn : n < 67108864) (hbase : base ≤ w.heap.size)
    (h : ∀ A' c' w', w'.ownsRow base e sz (.slice A' (n + 1) c') (n + 1) (xs ++ cs.toList) → w.grownBy w' v.ownBlock → K (a.put o.dst (.slice A' (n + 1) c')) w') : wpOp P ops Q i K a w := by
  obtain ⟨ht, i', z, hi', hz, hzs, hsz, h0, hle, hby⟩ := E
  refine wpOp_wp hi hw (wp_append_own w s x t ho base e i' z sz i'.bytes ht hi' hz hsz rfl hzs h0 v n xs hs hown ⟨g, 0, none⟩ 1 c cs.toList hx (by simpa using hcs) (fun j u hu => ?_) (fun u hu => ?_) (by unfold maxLen; omega) ?_ hbase (fun v' w' r1 r2 _ => by obtain ⟨A', c', rfl⟩ := own_slice r1; exact h A' c' w' r1 r2))
  · have hadd : (⟨g, 0, none⟩ : Addr).add j = ⟨g, j, none⟩ := by unfold Addr.add; split <;> simp_all
    rw [hadd, hg.cell]; simpa using hu
  · exact List.all_eq_true.1 h1 u hu
  · have := Nat.mul_le_mul (show n + 1 ≤ 67108864 by omega) hby; omega
end

theorem run_append_none {P : Program} {t e ty : TypeId} {i : TypeInfo} (ht : P.underlying t = some (.slice e)) (hi : P.info? e = some i) (w : World) (A : Option Addr) (n c c' : Nat) (hc : n ≤ c) :
    (Builtin.append_ #[t, t] ty #[.slice A n c, .slice none 0 c']).run P w = .ok (.slice A n c) w := by
  cases A with
  | none => simp [Builtin.append_, run_underlying ht, sizeOf, typeInfo, hi, Result.andThen, hc, Builtin.lenOf, run_firstCells_none]
  | some a => simp [Builtin.append_, run_underlying ht, sizeOf, typeInfo, hi, Result.andThen, hc, Builtin.lenOf, run_firstCells_none, storeCells]
theorem own_cap {w : World} {base e sz n : Nat} {v : Value} {xs : List Value} (h : w.ownsRow base e sz v n xs) : ∃ A c, v = .slice A n c ∧ n ≤ c := by
  rcases h.2 with ⟨rfl, rfl⟩ | ⟨g, cap', cur, hv, _, _, hle, _⟩
  · exact ⟨none, 0, rfl, Nat.le_refl _⟩
  · exact ⟨_, cap', hv, hle⟩
section
variable {P : Program} {ops : Array Oper} {Q : Exit → Act → World → Prop} {i : Nat} {o : Oper} {a : Act} {w : World} {K : Act → World → Prop} {rest : List Oper}
theorem wp_appS (s x : Operand) (t : TypeId) (ho : o.op = .call { callee := .builtin .append, args := #[s, x], argTypes := #[t, t] })
    (base : Nat) {e sz : Nat} (E : SliceT P t e sz) (v : Value) (n : Nat) (xs : List Value) (hs : a.eval s = v) (hown : w.ownsRow base e sz v n xs)
    (A : Option Addr) (m c : Nat) (ys : List (List Value)) (hx : a.eval x = .slice A m c) (hl : Sl w sz A m ys) (h1 : ∀ y ∈ ys, y.all Value.oneCell' = true)
    (hn : n + m ≤ 67108864) (hbase : base ≤ w.heap.size)
    (h : ∀ A' c' w', w'.ownsRow base e sz (.slice A' (n + m) c') (n + m) (xs ++ ys.flatten) → w.grownBy w' v.ownBlock → K (a.put o.dst (.slice A' (n + m) c')) w') : o.wp P a w K Q := by
  obtain ⟨ht, i', z, hi', hz, hzs, hsz, h0, hle, hby⟩ := E
  cases A with
  | none =>
    have hy : ys = [] := by
      cases ys with
      | nil => rfl
      | cons y r => obtain ⟨_, _, h, _⟩ := hl.2 0 y rfl; cases h
    subst hy
    have hm : m = 0 := by have := hl.1; simp at this; omega
    subst hm
    obtain ⟨A', c', rfl, hc⟩ := own_cap hown
    have hr := run_append_none (ty := o.type) ht hi' w A' n c' c hc
    unfold Oper.wp execOp
    simp only [ho, resolve, invoke, builtin, Sem.run_bind, Sem.run_pure, Result.andThen_ok, List.map_toArray, List.map_cons, List.map_nil, hs, hx, hr]
    exact h A' c' w (by simpa using hown) ⟨rfl, rfl, rfl, Nat.le_refl _, fun _ _ _ => rfl⟩
  | some ad =>
    obtain ⟨n1, n2⟩ := hl.news
    refine wp_append_own w s x t ho base e i' z sz i'.bytes ht hi' hz hsz rfl hzs h0 v n xs hs hown ad m c ys.flatten hx n1 n2 (fun u hu => ?_) (by unfold maxLen; omega) ?_ hbase (fun v' w' r1 r2 _ => by obtain ⟨A', c', rfl⟩ := own_slice r1; exact h A' c' w' r1 r2)
    · obtain ⟨y, hy, huy⟩ := List.mem_flatten.1 hu
      exact List.all_eq_true.1 (h1 y hy) u huy
    · have := Nat.mul_le_mul hn hby; omega
theorem wpList_appS (hgd : o.guard = none) (s x : Operand) (t : TypeId) (ho : o.op = .call { callee := .builtin .append, args := #[s, x], argTypes := #[t, t] })
    (base : Nat) {e sz : Nat} (E : SliceT P t e sz) (v : Value) (n : Nat) (xs : List Value) (hs : a.eval s = v) (hown : w.ownsRow base e sz v n xs)
    (A : Option Addr) (m c : Nat) (ys : List (List Value)) (hx : a.eval x = .slice A m c) (hl : Sl w sz A m ys) (h1 : ∀ y ∈ ys, y.all Value.oneCell' = true)
    (hn : n + m ≤ 67108864) (hbase : base ≤ w.heap.size)
    (h : ∀ A' c' w', w'.ownsRow base e sz (.slice A' (n + m) c') (n + m) (xs ++ ys.flatten) → w.grownBy w' v.ownBlock → wpList P ops Q rest (a.put o.dst (.slice A' (n + m) c')) w') : wpList P ops Q (o :: rest) a w :=
  wpList_plain hgd fun _ hK => wp_appS s x t ho base E v n xs hs hown A m c ys hx hl h1 hn hbase fun A' c' w' r1 r2 => hK _ _ (h A' c' w' r1 r2)
theorem wpList_store_blk (hgd : o.guard = none) (ty : TypeId) (p x : Operand) (ho : o.op = .store ty p x) {sz : Nat} (E : StructT P ty sz) (g : Nat) (hp : a.eval p = .pointer (some ⟨g, 0, none⟩)) (cs : Array Value) (hx : a.eval x = .agg cs)
    {t : TypeId} {cs0 : Array Value} (hB : Blk w g t cs0) (h0 : cs0.size = sz) (hcs : cs.size = sz) (h1 : cs.toList.all Value.oneCell' = true)
    (h : ∀ w', Blk w' g t cs → Ext (fun q => q = g) w w' → wpList P ops Q rest (a.put o.dst undef) w') : wpList P ops Q (o :: rest) a w := by
  refine wpList_plain hgd fun K hK => ?_
  obtain ⟨w', hr, h2, h3⟩ := run_store_blk hB h0 E hcs h1
  unfold Oper.wp
  rw [run_store_op ho hp hx hr]
  exact hK _ _ (h w' h2 h3)
end
end Go.Proofs.YtjcjiokneibfdaaGreatDoor
