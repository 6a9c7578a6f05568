/- One operation of the evaluator's is the model's: all of them. -/
import Derived.Test.YtgjabfpkbcdkcaaGreatDoorEvZ
namespace Go.Proofs.YtgjabfpkbcdkcaaGreatDoor
set_option linter.unusedVariables false
set_option linter.unusedSimpArgs false
section
variable {w0 : Base} {w w' : World} {E E' : En} {H H' : Hp} {t e : TypeId} {d : TypeDesc} {i : TypeInfo} {F : Tr Value} {ρ : Operand → Value}
theorem zero_cells {z : Value} (h : afree z = true) : (cellsL z).map (conc E) = cellsL z ∧ ∀ v ∈ cellsL z, good E v := by
  obtain ⟨c1, c2⟩ := afree_ok E h
  have := conc_cells E z
  rw [c1] at this
  rw [cellsL_eq]
  exact ⟨this.symm, good_cells c2⟩
theorem build_ok {parts : Array (Nat × Operand)} {v : Value} (hρ : ∀ p ∈ parts.toList, ρ p.2 = conc E (opv F p.2) ∧ good E (opv F p.2)) (h : buildE F t parts.toList = some v) (w : World) :
    (Instr.build t (parts.map fun x => (x.1, ρ x.2))).run PP w = .ok (conc E v) w ∧ good E v := by
  unfold buildE at h
  split at h
  · rename_i fs i z ht hz
    obtain ⟨hu, hi⟩ := tab_ok ht
    obtain ⟨i', hi', hzi, ha⟩ := zeroE_ok hz
    rw [hi] at hi'
    obtain rfl : i = i' := by simpa using hi'
    obtain ⟨z1, z2⟩ := zero_cells (E := E) ha
    cases hb : allB (fun f : Field => (sizeE f.type).isSome) fs.toList with
    | false => rw [hb] at h; cases h
    | true =>
      rw [hb, cond_true] at h
      have hall := allB_iff.1 hb
      split at h
      · rename_i l hf
        simp only [Option.some.injEq] at h
        subst h
        obtain ⟨f1, f2, f3⟩ := fill_ok (E := E) (ρ := ρ) parts.toList (cellsL z) l hf hρ z2
        have hp : ∀ fs : List Field, (∀ f ∈ fs, (sizeE f.type).isSome = true) → fs.mapM (fun f => (PP.info? f.type).map fun i => (f.offset, i.size)) = some (fs.map fun f => (f.offset, (sizeE f.type).getD 0)) := by
          intro fs
          induction fs with
          | nil => intro _; rfl
          | cons f fs ih =>
            intro h
            obtain ⟨sz, hs⟩ := Option.isSome_iff_exists.1 (h f (by simp))
            obtain ⟨j, hj, rfl⟩ := sizeE_ok hs
            simp [List.mapM_cons, hj, hs, ih fun x hx => h x (by simp [hx])]
        refine ⟨?_, ?_⟩
        · have hc : conc E (.agg ⟨l⟩) = .agg ⟨l.map (conc E)⟩ := by simp [conc, concA_mk]
          rw [hc]
          refine run_build (P := PP) w t _ _ ?_
          unfold Program.built
          simp only [hi, hu, hzi, hp fs.toList hall]
          have hplace : (fun x => ((fs.toList.map fun f => (f.offset, (sizeE f.type).getD 0)).toArray)[x]?) = (fun k => match nth fs.toList k with | some f => (match sizeE f.type with | some sz => some (f.offset, sz) | none => none) | none => none) := by
            funext k
            rw [nth_eq]
            cases hk : fs.toList[k]? with
            | none => simp at hk; simp [hk]
            | some f =>
              obtain ⟨sz, hs⟩ := Option.isSome_iff_exists.1 (hall f (List.mem_of_getElem? hk))
              rw [List.getElem?_toArray, List.getElem?_map, hk]
              simp [hs]
          have hcells : z.cells = ⟨(cellsL z).map (conc E)⟩ := by
            apply Array.ext'
            rw [z1, cellsL_eq]
          rw [hplace, hcells, Array.toList_map]
          exact f1
        · exact goodA_iff.2 f2
      · cases h
  · rename_i n e i z ht hz
    obtain ⟨hu, hi⟩ := tab_ok ht
    obtain ⟨i', hi', hzi, ha⟩ := zeroE_ok hz
    rw [hi] at hi'
    obtain rfl : i = i' := by simpa using hi'
    obtain ⟨z1, z2⟩ := zero_cells (E := E) ha
    cases hs : sizeE e with
    | none => rw [hs] at h; cases h
    | some sz =>
      obtain ⟨j, hj, rfl⟩ := sizeE_ok hs
      simp only [hs] at h
      split at h
      · rename_i l hf
        simp only [Option.some.injEq] at h
        subst h
        obtain ⟨f1, f2, f3⟩ := fill_ok (E := E) (ρ := ρ) parts.toList (cellsL z) l hf hρ z2
        refine ⟨?_, goodA_iff.2 f2⟩
        have hc : conc E (.agg ⟨l⟩) = .agg ⟨l.map (conc E)⟩ := by simp [conc, concA_mk]
        rw [hc]
        refine run_build (P := PP) w t _ _ ?_
        unfold Program.built
        simp only [hi, hu, hzi, hj]
        have hcells : z.cells = ⟨(cellsL z).map (conc E)⟩ := by
          apply Array.ext'
          rw [z1, cellsL_eq]
        rw [hcells, Array.toList_map]
        exact f1
      · cases h
  · cases h
theorem conc_func (E : En) (f : FuncId) (a b : Array Value) : conc E (.func (.func f) a b) = .func (.func f) ⟨a.toList.map (conc E)⟩ ⟨b.toList.map (conc E)⟩ := by
  obtain ⟨a⟩ := a
  obtain ⟨b⟩ := b
  simp [conc, concA_mk]
theorem call_ok (S : Sim PP w0 E H w) {c : Call} {ty : TypeId} (hρ : Opd E F ρ (.call c)) : NOk w0 E H w ((do let d ← resolve ρ c ty; invoke d.target d.args : Sem Next).run PP w) (callOf F c ty H) := by
  obtain ⟨callee, args, ats⟩ := c
  have hargs : ∀ x ∈ args.toList, ρ x = conc E (opv F x) ∧ good E (opv F x) := fun x hx => hρ x (by simp only [opsL, app_eq, List.mem_append]; exact .inr hx)
  have hmap : args.map ρ = ⟨(args.toList.map (opv F)).map (conc E)⟩ := by
    apply Array.ext'
    simp only [Array.toList_map, List.map_map]
    exact List.map_congr_left fun x hx => (hargs x hx).1
  have hgood : ∀ v ∈ args.toList.map (opv F), good E v := fun v hv => by
    obtain ⟨x, hx, rfl⟩ := List.mem_map.1 hv
    exact (hargs x hx).2
  unfold callOf
  cases callee with
  | builtin b =>
    simp only [resolve, mpV_eq, hmap]
    have := fun cs => builtin_ok (cs := cs) (b := b) (ts := ats.toList) (ty := ty) S hgood
    simp only [pure_bind, invoke]
    exact this _
  | invoke r n => trivial
  | value f =>
    obtain ⟨hf1, hf2⟩ := hρ f (by simp [opsL, app_eq])
    simp only [mpV_eq]
    generalize opv F f = fv at hf1 hf2
    unfold enterE
    split
    · rename_i g first captured
      rw [fL_eq, app_eq, app_eq]
      rw [conc_func] at hf1
      refine ⟨?_, ?_⟩
      · simp [resolve, hf1, Deferred.ofValue, hmap, invoke]
      · obtain ⟨h1, h2⟩ := hf2
        intro v hv
        simp only [List.mem_append] at hv
        rcases hv with hv | hv | hv
        · exact goodA_iff.1 h1 v hv
        · exact hgood v hv
        · exact goodA_iff.1 h2 v hv
    · trivial
theorem defer_ok {c : Call} {ty : TypeId} (hρ : Opd E F ρ (.defer c)) (w : World) : NOk w0 E H w ((do pure (.defer (← resolve ρ c ty)) : Sem Next).run PP w) (deferOf F c) := by
  obtain ⟨callee, args, ats⟩ := c
  have hargs : ∀ x ∈ args.toList, ρ x = conc E (opv F x) ∧ good E (opv F x) := fun x hx => hρ x (by simp only [opsL, app_eq, List.mem_append]; exact .inr hx)
  have hmap : args.map ρ = ⟨(args.toList.map (opv F)).map (conc E)⟩ := by
    apply Array.ext'
    simp only [Array.toList_map, List.map_map]
    exact List.map_congr_left fun x hx => (hargs x hx).1
  have hgood : ∀ v ∈ args.toList.map (opv F), good E v := fun v hv => by
    obtain ⟨x, hx, rfl⟩ := List.mem_map.1 hv
    exact (hargs x hx).2
  unfold deferOf
  cases callee with
  | builtin b => trivial
  | invoke r n => trivial
  | value f =>
    obtain ⟨hf1, hf2⟩ := hρ f (by simp [opsL, app_eq])
    simp only [mpV_eq]
    generalize opv F f = fv at hf1 hf2
    unfold deferE
    split
    · rename_i g first captured
      rw [fL_eq, fL_eq, app_eq]
      rw [conc_func] at hf1
      obtain ⟨h1, h2⟩ := hf2
      refine ⟨?_, ?_, goodA_iff.1 h2⟩
      · simp [resolve, hf1, Deferred.ofValue, hmap]
      · intro v hv
        simp only [List.mem_append] at hv
        rcases hv with hv | hv
        · exact goodA_iff.1 h1 v hv
        · exact hgood v hv
    · trivial
theorem evalOp_ok (S : Sim PP w0 E H w) {o : Oper} (hρ : Opd E F ρ o.op) : NOk w0 E H w ((execOp ρ o).run PP w) (evalOp o.op o.type F H) := by
  obtain ⟨dst, op, ty, pos, af, gd⟩ := o
  have hnew : ∀ r, r = ofN (evalNew F op) H → NOk w0 E H w ((execOp ρ ⟨dst, op, ty, pos, af, gd⟩).run PP w) r := by
    rintro r rfl
    cases hn : evalNew F op with
    | none => trivial
    | some y =>
      obtain ⟨ob, mk⟩ := y
      obtain ⟨co, c, h1, h2, h3, h4⟩ := new_ok (dst := dst) (ty := ty) (pos := pos) (af := af) (gd := gd) hn hρ H.nx S.nx_none w
      have hS := Sim.new (w' := w.alloc co) (c := c) (o := ob) S co rfl rfl rfl rfl rfl h3 h2
      exact ⟨_, _, .inl h1, hS.2, hS.1, h4⟩
  have hn : ∀ (op' : Op) , True := fun _ => trivial
  cases op
  case move x => obtain ⟨h1, h2⟩ := hρ x (by simp [opsL]); exact ⟨by simp [execOp, h1], h2⟩
  case assign x => obtain ⟨h1, h2⟩ := hρ x (by simp [opsL]); exact ⟨by simp [execOp, h1], h2⟩
  case pick c a b =>
    obtain ⟨h1, _⟩ := hρ c (by simp [opsL])
    obtain ⟨h2, g2⟩ := hρ a (by simp [opsL])
    obtain ⟨h3, g3⟩ := hρ b (by simp [opsL])
    show NOk w0 E H w _ (pickE (opv F c) (opv F a) (opv F b))
    unfold pickE
    split
    · rename_i q hq
      rw [hq] at h1
      cases q with
      | true => exact ⟨by simp [execOp, h1, h2, conc, asBool], g2⟩
      | false => exact ⟨by simp [execOp, h1, h3, conc, asBool], g3⟩
    · trivial
  case alloc e => exact hnew _ rfl
  case box e x => exact hnew _ rfl
  case build t ps =>
    exact nok_v (vok_o fun v hv => build_ok (fun p hp => hρ p.2 (by simp only [opsL, mp_eq]; exact List.mem_map.2 ⟨p, hp, rfl⟩)) hv w)
  case buildSlice t n ps => exact hnew _ rfl
  case load t a =>
    obtain ⟨h1, h2⟩ := hρ a (by simp [opsL])
    exact nok_v (vok_o fun v hv => by rw [h1]; exact load_ok S hv)
  case store t a x =>
    obtain ⟨h1, h2⟩ := hρ a (by simp [opsL])
    obtain ⟨h3, h4⟩ := hρ x (by simp [opsL])
    exact nok_u fun H' hH => by rw [h1, h3]; exact store_ok S hH h4
  case nilCheck x =>
    obtain ⟨h1, h2⟩ := hρ x (by simp [opsL])
    show NOk w0 E H w _ (nilE (opv F x))
    generalize opv F x = v at h1 h2
    unfold nilE
    split
    · exact ⟨by simp [execOp, h1, conc], h2⟩
    · rename_i f a b
      rw [conc_func] at h1
      exact ⟨by simp [execOp, h1, conc_func], h2⟩
    · exact ⟨by simp [execOp, h1, conc], h2⟩
    · trivial
  case binOp op t x y pos =>
    obtain ⟨h1, h2⟩ := hρ x (by simp [opsL])
    obtain ⟨h3, h4⟩ := hρ y (by simp [opsL])
    exact nok_v (s := do eqGuard op t x y (ρ x) (ρ y); binOp op t (ρ x) (ρ y)) (by rw [h1, h3]; exact bin_ok h2 h4 w)
  case unOp op t x =>
    obtain ⟨h1, h2⟩ := hρ x (by simp [opsL])
    exact nok_v (s := Op.unary op (ρ x)) (by rw [h1]; exact un_ok w)
  case convert s d x =>
    obtain ⟨h1, h2⟩ := hρ x (by simp [opsL])
    exact nok_v (s := convert s d (ρ x)) (by rw [h1]; exact conv_ok S h2)
  case makeInterface t x =>
    obtain ⟨h1, h2⟩ := hρ x (by simp [opsL])
    exact nok_v (s := Instr.makeInterface t (ρ x)) (by rw [h1]; exact iface_ok h2 w)
  case makeFunc f a b => exact nok_v (func_ok (fun x hx => hρ x (by simp only [opsL, app_eq]; exact hx)) w)
  case makeMap t r => exact hnew _ rfl
  case makeChan t c => exact hnew _ rfl
  case makeSlice t l c => exact hnew _ rfl
  case slice t x lo hi mx =>
    obtain ⟨h1, h2⟩ := hρ x (by simp [opsL])
    have hm : ∀ o : Option Operand, (∀ y, o = some y → ρ y = conc E (opv F y)) → o.map ρ = (o.map (opv F)).map (conc E) := fun o ho => by
      cases o with
      | none => rfl
      | some y => simp [ho y rfl]
    have e1 := hm lo fun y hy => (hρ y (by subst hy; simp [opsL, app_eq])).1
    have e2 := hm hi fun y hy => (hρ y (by subst hy; simp [opsL, app_eq])).1
    have e3 := hm mx fun y hy => (hρ y (by subst hy; simp [opsL, app_eq])).1
    exact nok_v (s := Instr.sliceAt t (ρ x) (lo.map ρ) (hi.map ρ) (mx.map ρ)) (vok_o fun v hv => by rw [h1, e1, e2, e3]; exact slice_ok h2 hv w)
  case fieldAddr s x f =>
    obtain ⟨h1, h2⟩ := hρ x (by simp [opsL])
    exact nok_v (s := Instr.fieldAt s (ρ x) f) (by rw [h1]; exact fieldAddr_ok h2 w)
  case field t x f =>
    obtain ⟨h1, h2⟩ := hρ x (by simp [opsL])
    exact nok_v (s := Instr.field t (ρ x) f) (vok_o fun v hv => by rw [h1]; exact field_ok h2 hv w)
  case indexAddr t x ix =>
    obtain ⟨h1, h2⟩ := hρ x (by simp [opsL])
    obtain ⟨h3, h4⟩ := hρ ix (by simp [opsL])
    exact nok_v (s := Instr.indexAt t (ρ x) (ρ ix)) (by rw [h1, h3]; exact indexAddr_ok h2 w)
  case index t x ix =>
    obtain ⟨h1, h2⟩ := hρ x (by simp [opsL])
    obtain ⟨h3, h4⟩ := hρ ix (by simp [opsL])
    exact nok_v (s := Instr.index t (ρ x) (ρ ix)) (vok_o fun v hv => by rw [h1, h3]; exact index_ok h2 hv w)
  case lookup t x ix ok =>
    obtain ⟨h1, h2⟩ := hρ x (by simp [opsL])
    obtain ⟨h3, h4⟩ := hρ ix (by simp [opsL])
    exact nok_v (s := Instr.lookup t (ρ x) (ρ ix) ok) (vok_o fun v hv => by rw [h1, h3]; exact mapGet_ok S hv)
  case extract x k =>
    obtain ⟨h1, h2⟩ := hρ x (by simp [opsL])
    exact nok_v (s := Instr.extract (ρ x) k) (vok_o fun v hv => by rw [h1]; exact extract_ok h2 hv w)
  case mapUpdate t m k x =>
    obtain ⟨h1, h2⟩ := hρ m (by simp [opsL])
    obtain ⟨h3, h4⟩ := hρ k (by simp [opsL])
    obtain ⟨h5, h6⟩ := hρ x (by simp [opsL])
    exact nok_u (s := Instr.mapUpdate t (ρ m) (ρ k) (ρ x)) fun H' hH => by rw [h1, h3, h5]; exact mapPut_ok S hH h6
  case insert t m k x =>
    obtain ⟨h1, h2⟩ := hρ m (by simp [opsL])
    obtain ⟨h3, h4⟩ := hρ k (by simp [opsL])
    obtain ⟨h5, h6⟩ := hρ x (by simp [opsL])
    exact nok_u (s := Instr.mapUpdate t (ρ m) (ρ k) (ρ x)) fun H' hH => by rw [h1, h3, h5]; exact mapPut_ok S hH h6
  case call c => exact call_ok S hρ
  case defer c => exact defer_ok hρ w
  all_goals trivial
end
end Go.Proofs.YtgjabfpkbcdkcaaGreatDoor
