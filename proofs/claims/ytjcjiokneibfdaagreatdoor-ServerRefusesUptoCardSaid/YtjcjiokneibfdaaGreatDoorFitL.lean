/- General words for regions that draw their order and hold a call, a load and a store of a struct. No function of the program is named. -/
import Derived.Test.YtjcjiokneibfdaaGreatDoorKeep
import Derived.OrdersHeld
namespace Go.Proofs.YtjcjiokneibfdaaGreatDoor
set_option linter.unusedVariables false
open Go.RowKit

theorem run_load_struct {P : Program} {o : Oper} {ρ : Operand → Value} {ty : TypeId} {x : Operand} {sz b off : Nat} {cs : Array Value} {w : World} (ho : o.op = .load ty x) (E : StructT P ty sz) (hx : ρ x = .pointer (some ⟨b, off, none⟩))
    (hg : ∀ j u, cs.toList[j]? = some u → w.cell? ⟨b, off + j, none⟩ = some u) (hi : cs.size = sz) : (execOp ρ o).run P w = .ok (.value (.agg cs)) w := by
  obtain ⟨⟨fs, hu⟩, hs⟩ := E
  have hl : (loadCells ⟨b, off, none⟩ cs.toList.length).run P w = .ok cs.toList.toArray w :=
    run_loadCells_list (P := P) w ⟨b, off, none⟩ cs.toList (fun j v hv => by
      have hadd : (⟨b, off, none⟩ : Addr).add j = ⟨b, off + j, none⟩ := by unfold Addr.add; split <;> simp_all
      rw [hadd]; exact hg j v hv)
  simp only [Array.length_toList, Array.toArray_toList] at hl
  obtain ⟨i, hi1, hi2⟩ := Option.map_eq_some_iff.1 hs
  have hlv : (loadVar ty ⟨b, off, none⟩).run P w = .ok (.agg cs) w := by
    simp [loadVar, isAgg, run_underlying hu, sizeOf, typeInfo, hi1, hi2, ← hi, hl, Result.andThen]
  unfold execOp
  simp only [ho, hx, Instr.loadAt, Instr.sureAddr, Sem.run_bind, Sem.run_pure, Result.andThen_ok, hlv]
theorem wpOp_call {P : Program} {ops : Array Oper} {Q : Exit → Act → World → Prop} {i : Nat} {o : Oper} {a : Act} {w : World} {K : Act → World → Prop} {f : FuncId} {args : Array Value} (hi : ops[i]? = some o) (hw : Region.wanted o (yielded ops a.tmps) = true)
    (hr : (execOp a.eval o).run P w = .ok (.enter f args) w) (hc : Calls P f args w fun e w' => ∃ v, e = .returned v ∧ K (a.put o.dst v) w') : wpOp P ops Q i K a w := by
  unfold wpOp
  simp only [hi, hw, if_true, Oper.wp, hr, Oper.upon]
  exact .inl (hc.mono fun e w' ⟨v, he, hk⟩ => by subst he; exact hk)
theorem run_store_blk {P : Program} {w : World} {p : Nat} {t ty : TypeId} {sz : Nat} {cs0 cs : Array Value} (hB : Blk w p t cs0) (h0 : cs0.size = sz) (E : StructT P ty sz) (hcs : cs.size = sz) (h1 : cs.toList.all Value.oneCell' = true) :
    ∃ w', (Instr.storeAt ty (.pointer (some ⟨p, 0, none⟩)) (.agg cs)).run P w = .ok () w' ∧ Blk w' p t cs ∧ Ext (fun q => q = p) w w' := by
  obtain ⟨⟨fs, hu⟩, hs⟩ := E
  obtain ⟨i, hi1, hi2⟩ := Option.map_eq_some_iff.1 hs
  have hst := run_storeCells_at P p 0 t cs.toList 0 cs0 w hB (by simp; omega) (fun v hv => List.all_eq_true.1 h1 v hv)
  have h2 : (cs0.toList.take (0 + 0) ++ cs.toList ++ cs0.toList.drop (0 + 0 + cs.toList.length)).toArray = cs := by
    simp
    rw [List.drop_eq_nil_of_le (by simp; omega)]; simp
  rw [h2] at hst
  refine ⟨w.setRow p cs, ?_, ?_, ⟨rfl, rfl, rfl, by simp [World.setRow], fun k hk hn => ?_⟩⟩
  · simp only [Instr.storeAt, Instr.sureAddr, Sem.run_bind, Sem.run_pure, Result.andThen_ok, storeVar, sizeOf, typeInfo, run_program, hi1, Value.cells, hi2, hcs]
    simp [hst]
  · show (w.setRow p cs).heap[p]? = _
    simp only [World.setRow, Array.getElem?_modify, if_true, show w.heap[p]? = _ from hB]
    rfl
  · simp only [World.setRow, Array.getElem?_modify]
    rw [if_neg (fun e => hn e.symm)]
theorem run_alloc_any {P : Program} {o : Oper} {ρ : Operand → Value} {ty : TypeId} {sz : Nat} (ho : o.op = .alloc ty) (E : ZeroT P ty sz) (w : World) : ∃ z : Array Value, z.size = sz ∧ (execOp ρ o).run P w = .ok (.value (.pointer (some ⟨w.heap.size, 0, none⟩))) (w.alloc (.cells z ty)) := by
  obtain ⟨i, z, hi, hz, hzs⟩ := E
  refine ⟨z.cells, hzs, ?_⟩
  have hr : (Instr.alloc ty true (.tuple #[])).run P w = .ok (.pointer (some ⟨w.heap.size, 0, none⟩)) (w.alloc (.cells z.cells ty)) := by
    simp [Instr.alloc, zeroValue, typeInfo, hi, hz, Result.andThen, newVar, newRow]
  simp only [execOp, ho]
  simp [hr, Result.andThen]
theorem run_store_op {P : Program} {o : Oper} {ρ : Operand → Value} {ty : TypeId} {p x : Operand} {v u : Value} {w w' : World} (ho : o.op = .store ty p x) (hp : ρ p = v) (hx : ρ x = u) (h : (Instr.storeAt ty v u).run P w = .ok () w') : (execOp ρ o).run P w = .ok .skip w' := by
  simp only [execOp, ho, hp, hx]
  simp [h, Result.andThen]
theorem wpOp_alloc {P : Program} {ops : Array Oper} {Q : Exit → Act → World → Prop} {i : Nat} {o : Oper} {a : Act} {w : World} {K : Act → World → Prop} {ty : TypeId} {sz : Nat} (hi : ops[i]? = some o) (hw : Region.wanted o (yielded ops a.tmps) = true) (ho : o.op = .alloc ty) (E : ZeroT P ty sz)
    (h : ∀ z : Array Value, z.size = sz → K (a.put o.dst (.pointer (some ⟨w.heap.size, 0, none⟩))) (w.alloc (.cells z ty))) : wpOp P ops Q i K a w := by
  obtain ⟨z, hz, hr⟩ := run_alloc_any (ρ := a.eval) ho E w
  exact wpOp_val hi hw hr (h z hz)
theorem wpOp_store {P : Program} {ops : Array Oper} {Q : Exit → Act → World → Prop} {i : Nat} {o : Oper} {a : Act} {w : World} {K : Act → World → Prop} {t ty : TypeId} {sz p : Nat} {x y : Operand} {cs0 cs : Array Value} (hi : ops[i]? = some o) (hw : Region.wanted o (yielded ops a.tmps) = true) (ho : o.op = .store ty x y)
    (hp : a.eval x = .pointer (some ⟨p, 0, none⟩)) (hx : a.eval y = .agg cs) (hB : Blk w p t cs0) (h0 : cs0.size = sz) (E : StructT P ty sz) (hcs : cs.size = sz) (h1 : cs.toList.all Value.oneCell' = true)
    (h : ∀ w', Blk w' p t cs → Ext (fun q => q = p) w w' → K (a.put o.dst undef) w') : wpOp P ops Q i K a w := by
  obtain ⟨w', hr, h2, h3⟩ := run_store_blk hB h0 E hcs h1
  exact wpOp_none hi hw (run_store_op ho hp hx hr) (h w' h2 h3)
end Go.Proofs.YtjcjiokneibfdaaGreatDoor
