/- The tasks' map: it is looked up, written, emptied; its keys, sorted. The machine yields. -/
import Derived.Test.YtockcifkphfnlaaGreatDoorAg1
import Derived.Test.YtockcifkphfnlaaGreatDoorFitL
namespace Go.Proofs.YtockcifkphfnlaaGreatDoor
set_option linter.unusedVariables false
set_option linter.unusedSimpArgs false
open Go.RowKit
open Go.Maps Go.WideMaps Go.Sort Go.Shelf
open Go.ChangeMaps (setBlock heap_setBlock_same heap_setBlock_other)

def zTask : Ag.TaskD := (⟨0, 0, 0, 0, 0, 0, 0, ⟨0, 0⟩, false, 0⟩, 0)
theorem run_store_sized {P : Program} {w : World} {g off : Nat} {t ty : TypeId} {sz : Nat} {cs0 cs : Array Value} (hB : Blk w g t cs0) (h0 : off + sz ≤ cs0.size) (hs : (P.info? ty).map (·.size) = some sz) (hcs : cs.size = sz) (h1 : cs.toList.all Value.oneCell' = true) :
    ∃ w', (Instr.storeAt ty (.pointer (some ⟨g, off, none⟩)) (.agg cs)).run P w = .ok () w' ∧ Blk w' g t (cs0.toList.take off ++ cs.toList ++ cs0.toList.drop (off + sz)).toArray ∧ Ext (fun q => q = g) w w' := by
  obtain ⟨i, hi1, hi2⟩ := Option.map_eq_some_iff.1 hs
  have hst := run_storeCells_at P g off t cs.toList 0 cs0 w hB (by simp; omega) (fun v hv => List.all_eq_true.1 h1 v hv)
  have h2 : (cs0.toList.take (off + 0) ++ cs.toList ++ cs0.toList.drop (off + 0 + cs.toList.length)).toArray = (cs0.toList.take off ++ cs.toList ++ cs0.toList.drop (off + sz)).toArray := by
    simp only [Nat.add_zero, Array.length_toList, hcs]
  rw [h2] at hst
  refine ⟨w.setRow g (cs0.toList.take off ++ cs.toList ++ cs0.toList.drop (off + sz)).toArray, ?_, ?_, ⟨rfl, rfl, rfl, by simp [World.setRow], fun k hk hn => ?_⟩⟩
  · simp only [Instr.storeAt, Instr.sureAddr, Sem.run_bind, Sem.run_pure, Result.andThen_ok, storeVar, sizeOf, typeInfo, run_program, hi1, Value.cells, hi2, hcs]
    simp [hst]
  · show (w.setRow g _).heap[g]? = _
    simp only [World.setRow, Array.getElem?_modify, if_true, show w.heap[g]? = _ from hB]
    rfl
  · simp only [World.setRow, Array.getElem?_modify]
    rw [if_neg (fun e => hn e.symm)]
section
variable {P : Program} {w : World} {ops : Array Oper} {rest : List Oper} {o : Oper} {a : Act} {Q : Exit → Act → World → Prop}
/-- the operation is a store of this type; a call of this builtin -/
theorem isSt (ty : TypeId) {p x : Operand} (h0 : o.op = .store ty p x) (h : wpList P ops Q (o :: rest) a w) : wpList P ops Q (o :: rest) a w := h
theorem isBu (b : Builtin) {xs : Array Operand} {ts : Array TypeId} (h0 : o.op = .call { callee := .builtin b, args := xs, argTypes := ts }) (h : wpList P ops Q (o :: rest) a w) : wpList P ops Q (o :: rest) a w := h
theorem isUp (ty : TypeId) {m k x : Operand} (h0 : o.op = .mapUpdate ty m k x) (h : wpList P ops Q (o :: rest) a w) : wpList P ops Q (o :: rest) a w := h
theorem wpList_store_sized (hgd : o.guard = none) (ty : TypeId) (p x : Operand) (ho : o.op = .store ty p x) {sz : Nat} (hs : (P.info? ty).map (·.size) = some sz) (g off : Nat) (hp : a.eval p = .pointer (some ⟨g, off, none⟩)) (cs : Array Value) (hx : a.eval x = .agg cs)
    {t : TypeId} {cs0 : Array Value} (hB : Blk w g t cs0) (h0 : off + sz ≤ cs0.size) (hcs : cs.size = sz) (h1 : cs.toList.all Value.oneCell' = true)
    (h : ∀ w', Blk w' g t (cs0.toList.take off ++ cs.toList ++ cs0.toList.drop (off + sz)).toArray → Ext (fun q => q = g) w w' → wpList P ops Q rest (a.put o.dst undef) w') : wpList P ops Q (o :: rest) a w := by
  refine wpList_plain hgd fun K hK => ?_
  obtain ⟨w', hr, h2, h3⟩ := run_store_sized hB h0 hs hcs h1
  unfold Oper.wp
  rw [run_store_op ho hp hx hr]
  exact hK _ _ (h w' h2 h3)
end
section
variable {w w' : World} {Ok S : Nat → Prop} {b : Nat} {T : Ag.Tasks}
/-- what a look-up among the tasks gives -/
theorem tm_look (h : TM w b T) {k : Int} (hk : In64 k) (ok : Bool) :
    (Instr.lookup 79 (.map (some b)) (.int .i64 k) ok).run Tryz.prog w = .ok (if ok then .tuple #[taskV ((Ag.tfind T k).getD zTask), .bool (Ag.tfind T k).isSome] else taskV ((Ag.tfind T k).getD zTask)) w := by
  obtain ⟨L, h1, h2⟩ := h.out
  have hg : aget k L = Ag.tfind T k := Ag.perm_tfind h2 h.asc k
  have hr := h1.look KLi inj_i ULt (z := taskV zTask) (Tryz.zeroValue96 w) (int_key hk) ok
  rw [hr, hg]
  cases Ag.tfind T k <;> rfl
theorem tm_put (h : TM w b T) {k : Int} (hk : In64 k) (v : Ag.TaskD) :
    ∃ w', (Instr.mapUpdate 79 (.map (some b)) (.int .i64 k) (taskV v)).run Tryz.prog w = .ok () w' ∧ TM w' b (Ag.tput T k v) ∧ Ext (fun q => q = b) w w' := by
  obtain ⟨L, h1, h2⟩ := h.out
  obtain ⟨w', e1, e2, e3⟩ := h1.put KLi inj_i ULt (int_key hk) v
  have hx : Ext (fun q => q = b) w w' := Ext.of_grown e3 (fun g hg => (Option.some.inj hg).symm)
  have hst : StI w' b := by
    obtain ⟨es, clock, s1, s2, s3⟩ := h.st
    obtain ⟨es', clock', t1, t2, t3, _⟩ := Go.MapKept.mapUpdate_keeps ULt ULi s1 s2 s3 (show Go.MapKept.IsKey (.int .i64) (.int .i64 k) from rfl) e1
    exact ⟨es', clock', t1, t2, t3⟩
  refine ⟨w', e1, ⟨⟨aput k v L, e2, Ag.perm_tput h2 h.asc k v⟩, hst, Ag.tput_asc h.asc k v, fun p hp => ?_⟩, hx⟩
  rcases Ag.tput_mem.1 hp with rfl | ⟨hm, _⟩
  · exact hk
  · exact h.keys p hm
theorem TM.clear (h : TM w b T) (ty : TypeId) : ∃ w', (Builtin.clear_ #[79] ty #[.map (some b)]).run Tryz.prog w = .ok (.tuple #[]) w' ∧ TM w' b [] ∧ Ext (fun q => q = b) w w' := by
  obtain ⟨L, ⟨es, clock, hb, he, hl, hd⟩, h2⟩ := h.out
  refine ⟨setBlock w b (.map #[] clock), ?_, ⟨⟨[], ⟨_, _, heap_setBlock_same hb _, by simp, by simp, by simp⟩, List.Perm.refl _⟩, ⟨_, _, heap_setBlock_same hb _, Go.MapKept.stamped_empty _, by simp⟩, by simp [Ag.TAsc], by simp⟩, ⟨rfl, rfl, rfl, by simp [setBlock], fun i _ hi => heap_setBlock_other hb _ (fun e => hi e)⟩⟩
  simp [Builtin.clear_, run_underlying ULt, MapKept.run_getObj_map hb, MapKept.run_setObj_map _ hb, Result.andThen, setBlock]
theorem wpList_tclear {ops : Array Oper} {rest : List Oper} {o : Oper} {a : Act} {Q : Exit → Act → World → Prop} (hg : o.guard = none) (m : Operand) (hop : o.op = Op.call { callee := Callee.builtin Builtin.clear, args := #[m], argTypes := #[79] })
    (h : TM w b T) (hm : a.eval m = .map (some b)) (hK : ∀ w', TM w' b [] → Ext (fun q => q = b) w w' → wpList Tryz.prog ops Q rest (a.put o.dst (.tuple #[])) w') : wpList Tryz.prog ops Q (o :: rest) a w := by
  refine wpList_plain hg fun K' hK' => ?_
  obtain ⟨w', hrun, r1, r2⟩ := h.clear o.type
  unfold Oper.wp
  simp [execOp, hop, resolve, invoke, builtin, hm, hrun, Result.andThen]
  exact hK' _ _ (hK w' r1 r2)
end
/-- slices.Sort's two contracts, at the fence that asks nothing -/
theorem sortsI (m : Nat) : AnyZI.SortsIn Tryz.prog Tryz.sortedA_ren Fence.wide m :=
  ⟨fun blk off cap ss W hH hblk hsz => callsIn_wide.2 (AnyM.slices_Sort_int Tryz.sortA blk off cap ss W hH hblk hsz),
   fun p cap W => callsIn_wide.2 (AnyM.slices_Sort_int_none Tryz.sortA p cap W)⟩
/-- whatever reads as an element -/
def anyTask (_ : Value) : Option (DataW Unit × List Go.MemPlace) := some (.nil, [])
set_option maxRecDepth 20000 in
theorem tm_owns {w : World} {b : Nat} {T : Ag.Tasks} (h : TM w b T) (hT : T.length ≤ 67108864) :
    ∃ D : DataW Unit, w.ownsMap Tryz.prog 3 anyTask b 67108864 D ∧ Maps.size D ≤ 67108864 ∧ (intKeys D).Perm (T.map (·.1)) := by
  obtain ⟨L, ⟨es, clock, hb, m1, m2, m3⟩, h3⟩ := h.out
  obtain ⟨es', clock', s1, s2, s3⟩ := h.st
  rw [hb] at s1
  injection s1 with s1
  injection s1 with s1 s4
  subst s1 s4
  have hlen : es.size = T.length := by
    have e1 := congrArg List.length m1
    have e2 := h3.length_eq
    simp only [List.length_map, Array.length_toList] at e1 e2
    omega
  have hrd : ∀ x ∈ es.toList, ∃ s : Int, x.key = .int .i64 s ∧ Go.WideElems.rd Tryz.prog 3 anyTask x = some (.int .i64 s, .nil) := by
    intro x hx
    obtain ⟨j, hj⟩ := List.getElem?_of_mem hx
    obtain ⟨p, hp, e1, e2⟩ := MapIs.at_ m1 hj
    obtain ⟨l, hl⟩ := m2 p (List.mem_of_getElem? hp)
    obtain ⟨s, e3, e4, e5⟩ := Go.Maps.keyOf_i64 ULi hl
    have e6 : p.1 = s := inj_i _ _ e3
    subst e6
    subst e4
    refine ⟨p.1, e1, ?_⟩
    obtain ⟨key, val, born⟩ := x
    simp only at e1
    subst e1
    exact Go.WideElems.rd_mk (R := anyTask) (yv := (.nil, [])) hl rfl
  have hkeys : (es.toList.map (Go.WideElems.rg Tryz.prog 3 anyTask)).map (fun p => Go.intOf p.1) = L.map (·.1) := by
    rw [List.map_map]
    have e1 : es.toList.map (fun e => e.key) = L.map (fun p => Value.int .i64 p.1) := by
      have := congrArg (List.map Prod.fst) m1
      rw [List.map_map, List.map_map] at this
      exact this
    have e2 : (es.toList.map ((fun p : Lit × DataW Unit => Go.intOf p.1) ∘ Go.WideElems.rg Tryz.prog 3 anyTask)).map (Value.int .i64) = (L.map (·.1)).map (Value.int .i64) := by
      rw [List.map_map, List.map_map]
      refine Eq.trans (List.map_congr_left fun x hx => ?_) e1
      obtain ⟨s, k1, k2⟩ := hrd x hx
      show Value.int .i64 (Go.intOf _) = _
      rw [Go.WideElems.rg_of k2, k1]
      rfl
    refine List.map_inj_right (f := Value.int .i64) (fun x y e => inj_i x y e) |>.1 ?_
    exact e2
  refine ⟨.map ((es.toList.map (Go.WideElems.rg Tryz.prog 3 anyTask)).foldr DataW.insert []), ⟨es, clock, hb, ⟨by unfold maxLen; omega, s2, fun x hx => by obtain ⟨s, _, e⟩ := hrd x hx; exact ⟨_, e⟩⟩, by omega, rfl⟩, ?_, ?_⟩
  · show ((es.toList.map (Go.WideElems.rg Tryz.prog 3 anyTask)).foldr DataW.insert []).length ≤ 67108864
    rw [(Go.WideShapes.sorted_perm _).length_eq, List.length_map, Array.length_toList]
    omega
  · show (((es.toList.map (Go.WideElems.rg Tryz.prog 3 anyTask)).foldr DataW.insert []).map fun p => Go.intOf p.1).Perm _
    refine ((Go.WideShapes.sorted_perm _).map _).trans ?_
    rw [hkeys]
    exact h3.map (·.1)
theorem tkeys_sorted {T : Ag.Tasks} (hA : Ag.TAsc T) {ss : List Int} (h : ss.Perm (T.map (·.1))) : ss.mergeSort (fun x y => decide (x ≤ y)) = T.map (·.1) := by
  rw [show ss.mergeSort (fun x y => decide (x ≤ y)) = ss.mergeSort leI from rfl, mergeSort_of_perm_i h]
  refine List.mergeSort_of_pairwise ?_
  refine List.Pairwise.imp (fun {a b} hab => ?_) hA
  simp only [leI, decide_eq_true_eq]
  exact Int.le_of_lt hab
set_option maxRecDepth 20000 in
set_option maxHeartbeats 8000000 in
theorem tSorted {b : Nat} {T : Ag.Tasks} (w : World) (h : TM w b T) (hT : T.length ≤ 67108864) :
    Calls Tryz.prog 25 #[.func (.func 39) #[] #[.pointer (some ⟨w.heap.size, 0, none⟩)]] (w.alloc (.cells #[.map (some b)] 79)) fun e w' => ∃ v, e = .returned v ∧ w'.ownsRow w.heap.size 3 1 v T.length ((T.map (·.1)).map (Value.int .i64)) ∧ Ext Nothing w w' := by
  obtain ⟨D0, hown, hsz, hp⟩ := tm_owns h hT
  refine (callsIn_wide (n := 5)).1 ?_
  have hseq : SeqGives Fence.wide 2 Tryz.prog 39 #[.pointer (some ⟨w.heap.size, 0, none⟩)] encZ (fun ss => ss.Perm (intKeys D0)) (Maps.size D0) (w.alloc (.cells #[.map (some b)] 79)) :=
    AnyZI.keys_gives (ρ := Tryz.keysA_ren) { Tryz.keysA with } Fence.wide _ trivial rfl (by omega) w.heap.size b 67108864 D0 _ (by simp) (by simp) (by
      have hbl := hown.lt
      obtain ⟨es, clock, hb, Ft, hs, hD⟩ := hown
      exact ⟨es, clock, (Below.heap_alloc _ _ b hbl).trans hb, Ft, hs, hD⟩)
  have cS := AnyZI.sorted_in Tryz.sortedA Fence.wide 5 trivial trivial trivial trivial rfl (by omega) (sortsI _) (enters_of Tryz.func38 (by kernel_rfl) rfl) 39 #[.pointer (some ⟨w.heap.size, 0, none⟩)] trivial (enters_of Tryz.func39 (by kernel_rfl) rfl) _ _ (by unfold maxLen; omega) (by omega) _ hseq
  change CallsIn _ _ Tryz.prog 25 _ _ _ at cS
  refine cS.mono ?_
  rintro e w' ⟨v, ss, rfl, hS, hrow, hnil, hb⟩
  have hks := hS.trans hp
  rw [tkeys_sorted h.asc hks, show ss.length = T.length by rw [hks.length_eq]; exact List.length_map ..] at hrow
  exact ⟨v, rfl, ownsRow_base_a hrow (by simp), (show Ext Nothing w _ from Ext.auto).tr (Ext.of_below' hb)⟩
theorem tKeys (b : Option Nat) (W : World) : Calls Tryz.prog 26 #[.map b] W fun e w' => e = .returned (.func (.func 39) #[] #[.pointer (some ⟨W.heap.size, 0, none⟩)]) ∧ w' = W.alloc (.cells #[.map b] 79) :=
  (callsIn_wide (n := 5)).1 (AnyZI.keys_in Tryz.keysA Fence.wide 5 trivial rfl b W)
section
variable {w w' : World} {Ok : Nat → Prop} {B a b mt : Nat} {s s' : Ag.AgD} {d : Dk.DiskD}
/-- a write to the tasks' map -/
theorem AgIs.map {T : Ag.Tasks} (h : AgIs w Ok B a b mt s d) (hx : Ext (fun q => q = mt) w w') (ht : TM w' mt T) : AgIs w' Ok B a b mt { s with tasks := T } d := by
  refine ⟨h.blk.ext hx (fun e => h.tasks.ne h.blk e.symm), h.disk.keep hx (fun q cs e hq => ?_) (fun q c e => ⟨fun hq => ?_, fun hq => ?_⟩) (fun q e => ?_), ht, h.good, h.beats, h.ge⟩
  all_goals (have e : q = mt := e; subst e)
  · exact absurd rfl (h.tasks.ne hq)
  · exact absurd rfl (h.tasks.ne hq)
  · exact absurd rfl (h.tasks.ne hq)
  · intro hd
    rcases hd.2 with ⟨cs, h1⟩ | ⟨cs, h1⟩ | ⟨_, h1⟩
    · exact h.tasks.ne h1 rfl
    · exact h.tasks.ne h1 rfl
    · exact h1 rfl
theorem AgIs.agm (h : AgIs w Ok B a b mt s d) (hx : Ext (fun q => q = mt) w w') : Ext (AgB B w) w w' := hx.mono (fun q _ e => by have e : q = mt := e; subst e; exact ⟨h.ge.2.2, .inr (.inr (.inr h.tasks.isMap))⟩)
end
end Go.Proofs.YtockcifkphfnlaaGreatDoor
