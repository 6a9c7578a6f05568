/- What the machine runs: Running. -/
import Derived.Test.YtockcifkphfnlaaGreatDoorAg4
namespace Go.Proofs.YtockcifkphfnlaaGreatDoor
set_option linter.unusedVariables false
set_option linter.unusedSimpArgs false
open Go.RowKit

theorem STAllocG : StructT Tryz.prog 67 11 := .of (by kernel_rfl)
theorem SRAllocG : SliceT Tryz.prog 43 67 11 := .of (by kernel_rfl)
def runF (T : Ag.Tasks) : List AllocD := (T.filter (fun p => p.2.2 == 2)).map (·.2.1)
theorem runF_snoc (T : Ag.Tasks) (t : Nat) (p : Int × Ag.TaskD) (h : T[t]? = some p) : runF (T.take (t + 1)) = runF (T.take t) ++ if p.2.2 == 2 then [p.2.1] else [] := by
  unfold runF
  rw [List.take_add_one, h, List.filter_append, List.map_append]
  congr 1
  simp only [Option.toList]
  cases e : (p.2.2 == 2) <;> simp [List.filter_cons, e]
theorem runF_len (T : Ag.Tasks) : (runF T).length ≤ T.length := by
  unfold runF
  rw [List.length_map]
  exact List.length_filter_le _ _
section
variable {P : Program} {w : World} {ops : Array Oper} {rest : List Oper} {o : Oper} {a : Act} {Q : Exit → Act → World → Prop}
theorem isBs (ty : TypeId) {x : Operand} (h0 : o.op = .buildSlice ty 1 #[(0, x)]) (h : wpList P ops Q (o :: rest) a w) : wpList P ops Q (o :: rest) a w := h
theorem isLk (ty : TypeId) {m k : Operand} {c : Bool} (h0 : o.op = .lookup ty m k c) (h : wpList P ops Q (o :: rest) a w) : wpList P ops Q (o :: rest) a w := h
end
set_option maxRecDepth 20000 in
set_option maxHeartbeats 8000000 in
theorem agRunning {Ok : Nat → Prop} {B a b mt : Nat} {s : Ag.AgD} {d : Dk.DiskD} (w : World) (h : AgIs w Ok B a b mt s d) (hT : s.tasks.length ≤ 67108863) :
    Calls Tryz.prog 11 #[.pointer (some ⟨a, 0, none⟩)] w fun e w' => ∃ v, e = .returned v ∧ w'.ownsRow w.heap.size 67 11 v (Ag.running s).length ((Ag.running s).flatMap AllocD.cells) ∧ Ext Nothing w w' := by
  have k33 : w.cell? ⟨a, 33, none⟩ = some (.map (some mt)) := by rw [h.blk.cell]; exact ag_c33 h.beats
  have hs := tSorted w h.tasks (by omega)
  have hta := h.tasks
  go_enter Tryz.func11, Tryz.ntmps11
  go_upto_region 3 with (first | go_skip | go_guarded | (go_at_call 26; (with_reducible refine (tKeys (some mt) w).mono ?_); rintro e w' ⟨rfl, rfl⟩) | (go_at_call 25; (with_reducible refine hs.mono ?_); rintro e w2 ⟨v, rfl, ho, hx⟩; obtain ⟨A, c, rfl⟩ := own_slice ho))
  have hl : Sl w2 1 A s.tasks.length ((s.tasks.map (·.1)).map fun k => [Value.int .i64 k]) := Sl.of_own (f := fun k : Int => [Value.int .i64 k]) (fun _ => rfl) (by have e : (s.tasks.map (·.1)).flatMap (fun k : Int => [Value.int .i64 k]) = (s.tasks.map (·.1)).map (Value.int .i64) := (by generalize s.tasks.map (·.1) = l; induction l with | nil => rfl | cons y r ih => rw [List.flatMap_cons, ih]; rfl); rw [e]; exact ho) (by simp)
  have hz := hx.size
  generalize hn : s.tasks.length = n at hl
  have HN := Lib.hid hn
  have hn0 : n ≤ 67108863 := by omega
  clear hn ho k33 hs
  go_loopw [3, 14] (fun sv ki wr => ∃ t : Nat, t ≤ n ∧ ki = .int .i64 t ∧ ∃ A' m' c', sv = .slice A' m' c' ∧ m' = (runF (s.tasks.take t)).length ∧ wr.ownsRow w2.heap.size 67 11 (.slice A' m' c') m' ((runF (s.tasks.take t)).flatMap AllocD.cells) ∧ Ext Nothing w2 wr) (fun _ ki _ => n - (intOf ki).toNat)
  case atStart => exact ⟨0, Nat.zero_le _, rfl, none, 0, 0, rfl, rfl, World.ownsRow_nil _ _ _ _, Ext.refl _ _⟩
  case round =>
    obtain ⟨t, ht, rfl, A', m', c', rfl, hm', hown, hxr⟩ := hrel
    by_cases hlt : t < n
    · obtain ⟨hjn, q, off, hAe, hce⟩ := hl.get hxr hlt
      have hjn2 : t < s.tasks.length := by simpa using hjn
      have hat : s.tasks[t]? = some s.tasks[t] := List.getElem?_eq_getElem hjn2
      have hkey : (s.tasks.map (·.1))[t] = s.tasks[t].1 := by rw [List.getElem_map]
      rw [hkey] at hce
      have HSN := Lib.hid (runF_snoc s.tasks t _ hat)
      have hI64 := hta.keys _ (List.mem_of_getElem? hat)
      have hfd : Ag.tfind s.tasks s.tasks[t].1 = some s.tasks[t].2 := (Ag.tfind_mem hta.asc).2 (List.mem_of_getElem? hat)
      have hTr := (hta.ext hx (fun e => e)).ext hxr (fun e => e)
      have hlk := tm_look hTr hI64 false
      rw [hfd] at hlk
      have hk33 : wr.cell? ⟨a, 33, none⟩ = some (.map (some mt)) := by rw [((h.blk.e0 hx).e0 hxr).cell]; exact ag_c33 h.beats
      have hml : m' ≤ t := by
        rw [hm']
        refine Nat.le_trans (runF_len _) ?_
        rw [List.length_take]
        omega
      generalize s.tasks[t] = p at hce HSN hlk hfd
      obtain ⟨k, x, st⟩ := p
      replace hlk : (Instr.lookup 79 (.map (some mt)) (.int .i64 k) false).run Tryz.prog wr = .ok (.agg (taskCells x st).toArray) wr := hlk
      subst hAe
      have c0 : wr.cell? ⟨q, off + t, none⟩ = some (.int .i64 k) := by have h9 := hce 0 _ rfl; simpa using h9
      have hB1 := Blk.new wr 96 (taskCells x st).toArray
      have r11 : (wr.alloc (.cells (taskCells x st).toArray 96)).cell? ⟨wr.heap.size, 11, none⟩ = some (.int .i64 st) := hB1.cell 11
      have hk0 : (0 : Int) ≤ (t : Int) := by omega
      have hk1 : (t : Int) < n := by omega
      have HT := Lib.hid hlt
      have HM := Lib.hid hm'
      clear hce hlt hm' h hfd hat hkey hTr hI64
      go_upto_region 6 with (first | go_skip | go_guarded | ((with_reducible refine isAl 96 rfl ?_); refine wpList_alloc_any rfl _ rfl ZTTask ?_; intro z hz9) | ((with_reducible refine isSt 96 rfl ?_); refine wpList_store_new rfl _ _ _ rfl STTask z hz9 rfl rfl (taskCells x st).toArray rfl rfl rfl ?_; clear hz9))
      have ha : Ext Nothing wr (wr.alloc (.cells (taskCells x st).toArray 96)) := Ext.auto
      generalize hq : wr.heap.size = qb at hB1 r11 ⊢
      have hza : (wr.alloc (.cells (taskCells x st).toArray 96)).heap.size = qb + 1 := by rw [← hq]; simp
      generalize (wr.alloc (.cells (taskCells x st).toArray 96)) = wa at ha hB1 r11 hza ⊢
      have hcA : ∀ j u, x.cells.toArray.toList[j]? = some u → wa.cell? ⟨qb, 0 + j, none⟩ = some u := fun j u hu => by
        rw [Nat.zero_add, hB1.cell]
        have hj : j < x.cells.length := by rcases Nat.lt_or_ge j x.cells.length with h9 | h9; exact h9; rw [List.getElem?_eq_none (by simpa using h9)] at hu; cases hu
        rw [List.getElem?_toArray, List.getElem?_append_left hj]
        simpa using hu
      clear hlk hk33 c0
      have hxa := hxr.tr ha
      have hua := own_ext hown ha (fun g hg e => e)
      cases he : (st == 2) with
      | false =>
        have HW := Lib.hid (show runF (s.tasks.take (t + 1)) = runF (s.tasks.take t) by rw [HSN.out]; simp [he])
        go_wp2_with (first | go_skip | go_guarded)
        go_roundw
        case rel => exact ⟨t + 1, HT.out, by go_num, A', m', c', rfl, by rw [HW.out]; exact HM.out, by rw [HW.out]; exact hua, hxa⟩
        case measure => have := HT.out; simp [intOf]; omega
      | true =>
        have HW := Lib.hid (show runF (s.tasks.take (t + 1)) = runF (s.tasks.take t) ++ [x] by rw [HSN.out]; simp [he])
        have hm9 : m' < 67108864 := by omega
        have hbs := hxa.size
        have haa : Ext Nothing wa (wa.alloc (.cells x.cells.toArray 67)) := Ext.auto
        go_wp2_with (first | go_skip | go_guarded | ((with_reducible refine isLd 67 rfl ?_); refine wpList_load_at rfl 67 _ rfl STAllocG qb 0 rfl x.cells.toArray hcA rfl ?_) | ((with_reducible refine isBs 43 rfl ?_); refine wpList_slice1 rfl 43 _ rfl SRAllocG x.cells.toArray rfl rfl ?_) | (at_builtin; refine wpList_app1 rfl _ _ 43 rfl w2.heap.size SRAllocG (.slice A' m' c') m' _ rfl (own_ext hua haa (fun g hg e => e)) wa.heap.size 1 x.cells.toArray rfl (Blk.new _ _ _) rfl rfl hm9 (Nat.le_trans hbs (by simp)) ?_; intro A8 c8 w8 hown8 hgr8))
        have hx8 : Ext Nothing w2 w8 := (hxa.tr haa).grown hgr8 (fun g hg => .inl ((own_ext hua haa (fun g hg e => e)).lt g hg).1)
        go_roundw
        case rel => exact ⟨t + 1, HT.out, by go_num, A8, m' + 1, c8, rfl, by rw [HW.out, List.length_append, ← HM.out]; rfl, by rw [HW.out, List.flatMap_append]; simpa using hown8, hx8⟩
        case measure => have := HT.out; simp [intOf]; omega
    · have hnl : ¬ ((t : Int) < n) := by omega
      have HE := Lib.hid (show s.tasks.take t = s.tasks from List.take_of_length_le (by have := HN.out; omega))
      have HM := Lib.hid hm'
      clear hm'
      go_wp2_with (first | go_skip | go_guarded)
      go_ret
      have e9 : runF (s.tasks.take t) = Ag.running s := by rw [HE.out]; rfl
      rw [← e9, ← HM.out]
      exact ⟨_, rfl, own_base hown hz, hx.tr hxr⟩
end Go.Proofs.YtockcifkphfnlaaGreatDoor
