/- Closed calls by the evaluator. -/
import Derived.Test.YtgjabfpkbcdkcaaGreatDoorEg
namespace Go.Proofs.YtgjabfpkbcdkcaaGreatDoor
set_option linter.unusedVariables false
set_option linter.unusedSimpArgs false
noncomputable def cloneE (args : List Value) (H : Hp) : Option (Value × Hp) :=
  match args with
  | [.map (some id)] => match H.t.get id with
    | some (.map es) => some (.map (some H.nx), H.new (.map es))
    | _ => none
  | _ => none
noncomputable def evHook (f : FuncId) : Option (List Value → Hp → Option (Value × Hp)) := cond (Nat.beq f 191) (some cloneE) none
theorem evHook_ok (w0 : Base) : HooksOk w0 evHook := by
  intro f h args H v H' hf hv E w S hg
  unfold evHook at hf
  cases hb : Nat.beq f 191 with
  | false => rw [hb] at hf; cases hf
  | true =>
    rw [hb, cond_true] at hf
    obtain rfl := Option.some.inj hf
    have hfe := Nat.eq_of_beq_eq_true hb
    clear hb
    unfold cloneE at hv
    split at hv
    · rename_i id
      split at hv
      · rename_i es hge
        simp only [Option.some.injEq, Prod.mk.injEq] at hv
        obtain ⟨rfl, rfl⟩ := hv
        obtain ⟨b, c, hE, hbb, ents, clock, a1, a2, a3⟩ := S.at_ hge (by intro q; simp)
        have hblk : E.blk id = b := by simp [En.blk, hE]
        have hargs : (⟨[Value.map (some id)].map (conc E)⟩ : Array Value) = #[.map (some b)] := by simp [conc, hblk]
        rw [hargs, hfe]
        refine ⟨enters Tryz.func191 (by kernel_rfl) rfl _ w, ?_⟩
        refine (evClone w a1).mono fun e w' he => ?_
        obtain ⟨rfl, rfl⟩ := he
        have hself : (E.add H.nx (w.heap.size, 0)) H.nx = some (w.heap.size, 0) := if_pos rfl
        have hle := En.add_le (x := (w.heap.size, 0)) S.nx_none
        have hnew := Sim.new (w' := w.alloc (.map ents clock)) (c := 0) (o := .map es) S (.map ents clock) rfl rfl rfl rfl rfl (by intro q; simp)
          ⟨ents, clock, heap_alloc_new w _, by rw [a2]; exact List.map_congr_left fun p hp => by rw [(conc_le hle _ (a3 p hp)).1], fun p hp => (conc_le hle _ (a3 p hp)).2⟩
        exact ⟨_, by simp [conc, En.blk, hself], hnew.2, hnew.1, by simp [good, hself]⟩
      · cases hv
    · cases hv
noncomputable def e0 (N : Nat) : En := fun id => if id < N then some (id, 0) else none
theorem sim0 {N : Nat} (hN : PP.globals.size = N) (w : World) : Sim PP ⟨⟨w, fun _ => False⟩, fun _ => none⟩ (e0 N) ⟨N, .e⟩ w := by
  have hno : ∀ id o, (Tr.e : Tr AO).get id = some o → False := fun id o h => by cases h
  refine ⟨rfl, rfl, rfl, Nat.le_refl _, fun _ _ => rfl, fun g hg => by unfold e0; rw [if_pos (by omega)], fun id x hx => ?_, fun id o h => (hno id o h).elim, fun id o h => (hno id o h).elim, fun id id' o o' b c c' h => (hno id o h).elim, fun id ob h => by cases h⟩
  unfold e0 at hx
  split at hx
  · assumption
  · cases hx
def isT (r : Option (Value × Hp)) : Bool := match r with | some (.bool true, _) => true | _ => false
/-- a closed call that answers true -/
theorem closed_true {N mask k : Nat} {ext : FuncId → Option (List Value → Option Value)} (hN : PP.globals.size = N) (hm : PP.follows .mixedOrders = true) (hfn : okAll N mask PP.funcs.toList 0 = true) (hx : ExtOk ext) {f : FuncId}
    (h : isT (callE ext (fnsM mask) evHook k f [] ⟨N, .e⟩) = true) (w : World) :
    Calls PP f #[] w fun e w' => e = .returned (.bool true) ∧ w'.os = w.os ∧ w'.tape = w.tape ∧ w'.output = w.output ∧ w.heap.size ≤ w'.heap.size ∧ ∀ b, b < w.heap.size → w'.heap[b]? = w.heap[b]? := by
  cases hr : callE ext (fnsM mask) evHook k f [] ⟨N, .e⟩ with
  | none => rw [hr] at h; cases h
  | some y =>
    obtain ⟨v, H'⟩ := y
    have hv : v = .bool true := by
      rw [hr] at h
      unfold isT at h
      split at h
      · rename_i H2 he; exact (Prod.mk.inj (Option.some.inj he)).1
      · cases h
    subst hv
    have := (eval_ok hm (by omega) (fns_ok hfn) hx evHook_ok k ⟨⟨w, fun _ => False⟩, fun _ => none⟩ f [] _ _ _ hr (e0 N) w (sim0 hN w) (fun v hv => by cases hv)).2
    refine this.mono fun e w' he => ?_
    obtain ⟨E', rfl, _, S, _⟩ := he
    exact ⟨rfl, S.os, S.tape, S.out, S.size, fun b hb => S.old b ⟨hb, fun h => h⟩⟩
end Go.Proofs.YtgjabfpkbcdkcaaGreatDoor
