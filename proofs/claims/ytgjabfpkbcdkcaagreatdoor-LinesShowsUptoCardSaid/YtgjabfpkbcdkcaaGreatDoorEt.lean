/- Operations of the evaluator's that change nothing: what they yield depends on what they see alone. -/
import Derived.Test.YtgjabfpkbcdkcaaGreatDoorEs
namespace Go.Proofs.YtgjabfpkbcdkcaaGreatDoor
set_option linter.unusedVariables false
set_option linter.unusedSimpArgs false
/-- what is known in the one memory is known in the other -/
def HLe (H H' : Hp) : Prop := ∀ id o, (∀ q, o ≠ .virt q) → H.t.get id = some o → H'.t.get id = some o
section
variable {H H' : Hp} {F F' : Tr Value} {t : TypeId} {v : Value}
theorem HLe.refl (H : Hp) : HLe H H := fun _ _ _ h => h
theorem HLe.trans {H H' H'' : Hp} (h : HLe H H') (k : HLe H' H'') : HLe H H'' := fun id o hv hg => k id o hv (h id o hv hg)
theorem cellsOf_le (h : HLe H H') {id : Nat} {cs : List Value} (hc : cellsOf H id = some cs) : cellsOf H' id = some cs := by
  unfold cellsOf at hc ⊢
  split at hc
  · rename_i ty cs' opn ro hg
    rw [h id _ (by intro q; simp) hg]
    exact hc
  · cases hc
theorem loadE_le (h : HLe H H') {p : Value} (hl : loadE t p H = some v) : loadE t p H' = some v := by
  unfold loadE at hl ⊢
  split at hl
  · rename_i id off
    split at hl
    · rename_i cs d i hc ht
      rw [cellsOf_le h hc]
      simp only [ht]
      exact hl
    · cases hl
  · cases hl
theorem firstOf_le (h : HLe H H') {sz n : Nat} {x : Value} {l : List Value} (hl : firstOf H sz n x = some l) : firstOf H' sz n x = some l := by
  unfold firstOf at hl ⊢
  split at hl
  · rename_i id off n' c
    split at hl
    · rename_i cs hc
      rw [cellsOf_le h hc]
      exact hl
    · cases hl
  · exact hl
  · exact hl
  · cases hl
theorem mapOf_le (h : HLe H H') {m : Value} {r : TypeDesc × Nat × List (Value × Value)} (hl : mapOf t m H = some r) : mapOf t m H' = some r := by
  unfold mapOf at hl ⊢
  split at hl
  · rename_i kt et i id ht
    split at hl
    · rename_i kd i' es hk hg
      simp only [hk]
      rw [h id _ (by intro q; simp) hg]
      exact hl
    · cases hl
  · cases hl
theorem mapGet_le (h : HLe H H') {m k : Value} {ok : Bool} (hl : mapGetE t m k ok H = some v) : mapGetE t m k ok H' = some v := by
  unfold mapGetE at hl ⊢
  split at hl
  · rename_i kt et i ht
    split at hl
    · exact hl
    · rename_i hne
      split at hl
      · rename_i kd id es hm
        rw [mapOf_le h hm]
        exact hl
      · cases hl
  · cases hl
theorem lenE_le (h : HLe H H') {x : Value} (hl : lenE t x H = some v) : lenE t x H' = some v := by
  unfold lenE at hl ⊢
  cases ht : tabE t with
  | none => rw [ht] at hl; cases hl
  | some y =>
    obtain ⟨d, i⟩ := y
    simp only [ht] at hl ⊢
    split at hl
    · exact hl
    · exact hl
    · exact hl
    · exact hl
    · rename_i id
      split at hl
      · rename_i es hg
        simp only [h id _ (by intro q; simp) hg]
        exact hl
      · cases hl
    · cases hl
theorem conv_le (h : HLe H H') {src dst : TypeId} {x : Value} (hl : convE src dst x H = .v v) : convE src dst x H' = .v v := by
  unfold convE at hl ⊢
  split at hl
  · rename_i sd si dd di hs hd
    split at hl
    · exact hl
    · exact hl
    · rename_i e s
      revert hl
      cases hb : (u8E e && Nat.beq ((sizeE e).getD 0) 1) with
      | false => intro hl; cases hl
      | true =>
        rw [cond_true]
        unfold rowE
        rw [fL_eq]
        intro hl
        cases hl
    · rename_i e a n c
      revert hl
      cases hb : u8E e with
      | false => intro hl; cases hl
      | true =>
        rw [cond_true, cond_true]
        intro hl
        split at hl
        · rename_i l hf
          rw [firstOf_le h hf]
          exact hl
        · cases hl
    · rename_i e id off
      split at hl
      · rename_i cs sz hc hsz
        rw [cellsOf_le h hc]
        simp only [hsz]
        exact hl
      · cases hl
    · rename_i u id
      split at hl
      · rename_i ty cs ro sz hg hsz
        rw [h id _ (by intro q; simp) hg]
        simp only [hsz]
        exact hl
      · cases hl
    · exact hl
  · cases hl
/-! ### the operands -/
theorem fillL_congr {place : Nat → Option (Nat × Nat)} : ∀ (ps : List (Nat × Operand)) (cs : List Value), (∀ p ∈ ps, opv F p.2 = opv F' p.2) → fillL F place ps cs = fillL F' place ps cs := by
  intro ps
  induction ps with
  | nil => intro cs _; rfl
  | cons p ps ih =>
    intro cs h
    rw [fillL_cons, fillL_cons, h p (by simp)]
    split
    · rfl
    · rename_i off size _
      cases Nat.beq (ln (cellsL (opv F' p.2))) size with
      | false => rfl
      | true =>
        rw [cond_true, cond_true]
        split
        · exact ih _ fun x hx => h x (by simp [hx])
        · rfl
theorem mpV_congr (l : List Operand) (h : ∀ x ∈ l, opv F x = opv F' x) : mpV (opv F) l = mpV (opv F') l := by
  rw [mpV_eq, mpV_eq]
  exact List.map_congr_left h
theorem mapO_congr (o : Option Operand) (h : ∀ x ∈ o.toList, opv F x = opv F' x) : o.map (opv F) = o.map (opv F') := by
  cases o with
  | none => rfl
  | some x => simp [h x (by simp)]
theorem new_congr {op : Op} (h : ∀ x ∈ opsL op, opv F x = opv F' x) : evalNew F op = evalNew F' op := by
  cases op <;> try rfl
  case box e x => simp only [evalNew, h x (by simp [opsL])]
  case buildSlice t n ps =>
    simp only [evalNew, buildSliceE]
    have hps : ∀ p ∈ ps.toList, opv F p.2 = opv F' p.2 := fun p hp => h p.2 (by simp only [opsL, mp_eq]; exact List.mem_map.2 ⟨p, hp, rfl⟩)
    split
    · split
      · split
        · rw [fillL_congr _ _ hps]
        · rfl
      · rfl
    · rfl
  case makeMap t r => simp only [evalNew, mapO_congr r h]
  case makeChan t c => simp only [evalNew, h c (by simp [opsL])]
  case makeSlice t l c => simp only [evalNew, h l (by simp [opsL]), h c (by simp [opsL])]
theorem ofO_le {o o' : Option Value} (h : ∀ x, o = some x → o' = some x) (hv : ofO o = .v v) : ofO o' = .v v := by
  cases o with
  | none => cases hv
  | some x => rw [h x rfl]; exact hv
theorem build_congr (ps : List (Nat × Operand)) (hps : ∀ p ∈ ps, opv F p.2 = opv F' p.2) : buildE F t ps = buildE F' t ps := by
  unfold buildE
  split
  · rename_i fs i z ht hz
    cases allB (fun f : Field => (sizeE f.type).isSome) fs.toList with
    | false => rfl
    | true => rw [cond_true, cond_true, fillL_congr _ _ hps]
  · split
    · rw [fillL_congr _ _ hps]
    · rfl
  · rfl
/-- an operation that changes nothing, with more known -/
theorem quiet_le {op : Op} {ty : TypeId} (hq : quietOp op = true) (hF : ∀ x ∈ opsL op, opv F x = opv F' x) (hH : HLe H H') (h : evalOp op ty F H = .v v) : evalOp op ty F' H' = .v v := by
  cases op <;> try (simp [quietOp] at hq; done)
  case move x => show OR.v (opv F' x) = .v v; rw [← hF x (by simp [opsL])]; exact h
  case assign x => show OR.v (opv F' x) = .v v; rw [← hF x (by simp [opsL])]; exact h
  case pick c a b => show pickE (opv F' c) (opv F' a) (opv F' b) = .v v; rw [← hF c (by simp [opsL]), ← hF a (by simp [opsL]), ← hF b (by simp [opsL])]; exact h
  case build t ps =>
    show ofO (buildE F' t ps.toList) = .v v
    rw [← build_congr ps.toList fun p hp => hF p.2 (by simp only [opsL, mp_eq]; exact List.mem_map.2 ⟨p, hp, rfl⟩)]
    exact h
  case load t a =>
    show ofO (loadE t (opv F' a) H') = .v v
    rw [← hF a (by simp [opsL])]
    exact ofO_le (fun x hx => loadE_le hH hx) h
  case nilCheck x => show nilE (opv F' x) = .v v; rw [← hF x (by simp [opsL])]; exact h
  case binOp op t x y pos => show binE op t x y (opv F' x) (opv F' y) = .v v; rw [← hF x (by simp [opsL]), ← hF y (by simp [opsL])]; exact h
  case unOp op t x => show unE op (opv F' x) = .v v; rw [← hF x (by simp [opsL])]; exact h
  case convert s d x =>
    show convE s d (opv F' x) H' = .v v
    rw [← hF x (by simp [opsL])]
    exact conv_le hH h
  case makeInterface t x => show ifaceE t (opv F' x) = .v v; rw [← hF x (by simp [opsL])]; exact h
  case makeFunc f a b =>
    have h : funcE F f a.toList b.toList = .v v := h
    show funcE F' f a.toList b.toList = .v v
    rw [← h]
    simp only [opsL, app_eq] at hF
    unfold funcE
    split
    · rw [mpV_congr a.toList fun x hx => (hF x (List.mem_append.2 (.inl hx))), mpV_congr b.toList fun x hx => (hF x (List.mem_append.2 (.inr hx)))]
    · rfl
  case slice t x lo hi mx =>
    show ofO (sliceE t (opv F' x) (lo.map (opv F')) (hi.map (opv F')) (mx.map (opv F'))) = .v v
    simp only [opsL, app_eq] at hF
    rw [← hF x (by simp), ← mapO_congr lo fun y hy => hF y (List.mem_cons_of_mem _ (List.mem_append.2 (.inl hy))), ← mapO_congr hi fun y hy => hF y (List.mem_cons_of_mem _ (List.mem_append.2 (.inr (List.mem_append.2 (.inl hy))))),
      ← mapO_congr mx fun y hy => hF y (List.mem_cons_of_mem _ (List.mem_append.2 (.inr (List.mem_append.2 (.inr hy)))))]
    exact h
  case fieldAddr s x f => show fieldAddrE s (opv F' x) f = .v v; rw [← hF x (by simp [opsL])]; exact h
  case field t x f => show ofO (fieldE t (opv F' x) f) = .v v; rw [← hF x (by simp [opsL])]; exact h
  case indexAddr t x ix => show indexAddrE t (opv F' x) (opv F' ix) = .v v; rw [← hF x (by simp [opsL]), ← hF ix (by simp [opsL])]; exact h
  case index t x ix => show ofO (indexE t (opv F' x) (opv F' ix)) = .v v; rw [← hF x (by simp [opsL]), ← hF ix (by simp [opsL])]; exact h
  case lookup t x ix ok =>
    show ofO (mapGetE t (opv F' x) (opv F' ix) ok H') = .v v
    rw [← hF x (by simp [opsL]), ← hF ix (by simp [opsL])]
    exact ofO_le (fun y hy => mapGet_le hH hy) h
  case extract x k => show ofO (extractE (opv F' x) k) = .v v; rw [← hF x (by simp [opsL])]; exact h
  case call c =>
    obtain ⟨callee, args, ats⟩ := c
    cases callee with
    | value f => cases hq
    | invoke r n => cases hq
    | builtin b =>
      cases b <;> try (cases hq; done)
      simp only [opsL, app_eq, List.nil_append] at hF
      have h : builtinE .len ats.toList ty (mpV (opv F) args.toList) H = .v v := h
      show builtinE .len ats.toList ty (mpV (opv F') args.toList) H' = .v v
      rw [← mpV_congr args.toList hF]
      generalize mpV (opv F) args.toList = l at h
      cases hat : ats.toList with
      | nil => rw [hat] at h; cases h
      | cons st ts =>
        rw [hat] at h
        cases l with
        | nil => cases h
        | cons x l =>
          cases l with
          | nil => exact ofO_le (o := lenE st x H) (fun y hy => lenE_le hH hy) h
          | cons y l => cases h
theorem ofO_v (o : Option Value) : ofO o = .no ∨ ∃ v, ofO o = .v v := by cases o with | none => exact .inl rfl | some v => exact .inr ⟨v, rfl⟩
theorem ofF_v (o : Option Value) : ofF o = .no ∨ ∃ v, ofF o = .v v := by
  unfold ofF
  cases o with
  | none => exact .inl rfl
  | some v => simp only; cases afree v with | false => exact .inl rfl | true => exact .inr ⟨v, rfl⟩
theorem cond_v {b : Bool} {r : OR} (h : r = .no ∨ ∃ v, r = .v v) : cond b r .no = .no ∨ ∃ v, cond b r .no = .v v := by cases b with | false => exact .inl rfl | true => exact h
theorem binF_v {op : BinOp} {t : TypeId} {ox oy : Operand} {x y : Value} : binF op t ox oy x y = .no ∨ ∃ v, binF op t ox oy x y = .v v := by
  unfold binF
  generalize pureOf PP (eqGuard op t ox oy x y) = u
  generalize pureOf PP (binOp op t x y) = q
  cases u with
  | none => exact .inl rfl
  | some u => exact ofF_v q
/-- .. yields a value, or nothing is known -/
theorem quiet_v {op : Op} {ty : TypeId} (hq : quietOp op = true) : evalOp op ty F H = .no ∨ ∃ v, evalOp op ty F H = .v v := by
  cases op <;> try (simp [quietOp] at hq; done)
  case move x => exact .inr ⟨_, rfl⟩
  case assign x => exact .inr ⟨_, rfl⟩
  case pick c a b => show pickE (opv F c) (opv F a) (opv F b) = .no ∨ ∃ v, pickE (opv F c) (opv F a) (opv F b) = .v v; unfold pickE; split; exact .inr ⟨_, rfl⟩; exact .inl rfl
  case build t ps => exact ofO_v _
  case load t a => exact ofO_v _
  case nilCheck x => show nilE (opv F x) = .no ∨ ∃ v, nilE (opv F x) = .v v; unfold nilE; split <;> first | exact .inr ⟨_, rfl⟩ | exact .inl rfl
  case binOp op t x y pos =>
    show binE op t x y (opv F x) (opv F y) = .no ∨ ∃ v, binE op t x y (opv F x) (opv F y) = .v v
    unfold binE
    split
    · split
      · exact .inr ⟨_, rfl⟩
      · exact binF_v
    · split
      · exact .inr ⟨_, rfl⟩
      · exact binF_v
    · unfold binG
      cases (afree (opv F x) && afree (opv F y)) with
      | true => exact binF_v
      | false =>
        rw [cond_false]
        unfold binQ
        split
        · exact .inr ⟨_, rfl⟩
        · exact .inr ⟨_, rfl⟩
        · exact .inl rfl
  case unOp op t x =>
    show unE op (opv F x) = .no ∨ ∃ v, unE op (opv F x) = .v v
    unfold unE
    generalize pureOf PP (Op.unary op (opv F x)) = q
    exact cond_v (ofF_v q)
  case convert s d x =>
    show convE s d (opv F x) H = .no ∨ ∃ v, convE s d (opv F x) H = .v v
    unfold convE
    split
    · rename_i sd si dd di hs hd
      split
      · split
        · exact .inr ⟨_, rfl⟩
        · exact .inr ⟨_, rfl⟩
      · exact .inr ⟨_, rfl⟩
      · simp [quietOp, hd] at hq
      · rename_i e a n c hx
        split
        · split
          · exact .inr ⟨_, rfl⟩
          · exact .inl rfl
        · exact .inl rfl
      · split
        · exact cond_v (.inr ⟨_, rfl⟩)
        · exact .inl rfl
      · split
        · exact cond_v (.inr ⟨_, rfl⟩)
        · exact .inl rfl
      · generalize pureOf PP (convert s d (opv F x)) = q
        exact cond_v (ofF_v q)
    · exact .inl rfl
  case makeInterface t x =>
    show ifaceE t (opv F x) = .no ∨ ∃ v, ifaceE t (opv F x) = .v v
    unfold ifaceE
    split
    · exact .inl rfl
    · rw [nf_eq]; exact .inr ⟨_, rfl⟩
    · exact .inl rfl
  case makeFunc f a b =>
    show funcE F f a.toList b.toList = .no ∨ ∃ v, funcE F f a.toList b.toList = .v v
    unfold funcE
    split
    · exact .inr ⟨_, rfl⟩
    · exact .inl rfl
  case slice t x lo hi mx => exact ofO_v _
  case fieldAddr s x f =>
    show fieldAddrE s (opv F x) f = .no ∨ ∃ v, fieldAddrE s (opv F x) f = .v v
    unfold fieldAddrE
    split
    · split
      · split
        · rename_i sz _
          cases Nat.ble sz 0 with
          | true => exact .inl rfl
          | false => exact .inr ⟨_, rfl⟩
        · exact .inl rfl
      · exact .inl rfl
    · exact .inl rfl
  case field t x f => exact ofO_v _
  case indexAddr t x ix =>
    show indexAddrE t (opv F x) (opv F ix) = .no ∨ ∃ v, indexAddrE t (opv F x) (opv F ix) = .v v
    unfold indexAddrE
    split
    · unfold elemE
      split
      · exact .inr ⟨_, rfl⟩
      · exact .inl rfl
    · unfold elemE
      split
      · exact .inr ⟨_, rfl⟩
      · exact .inl rfl
    · exact .inl rfl
  case index t x ix => exact ofO_v _
  case lookup t x ix ok => exact ofO_v _
  case extract x k => exact ofO_v _
  case call c =>
    obtain ⟨callee, args, ats⟩ := c
    cases callee with
    | value f => cases hq
    | invoke r n => cases hq
    | builtin b =>
      cases b <;> try (cases hq; done)
      show builtinE .len ats.toList ty (mpV (opv F) args.toList) H = .no ∨ ∃ v, builtinE .len ats.toList ty (mpV (opv F) args.toList) H = .v v
      generalize mpV (opv F) args.toList = l
      cases ats.toList with
      | nil => exact .inl rfl
      | cons st ts =>
        cases l with
        | nil => exact .inl rfl
        | cons x l =>
          cases l with
          | nil => exact ofO_v (lenE st x H)
          | cons y l => exact .inl rfl
end
end Go.Proofs.YtgjabfpkbcdkcaaGreatDoor
