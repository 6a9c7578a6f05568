/- AgentFresh, plain: no boot number is used twice. No program is named. -/
import Derived.Test.YtockcifkphfnlaaGreatDoorAgL
import Derived.Test.YtockcifkphfnlaaGreatDoorDkL
import Derived.Test.YtockcifkphfnlaaGreatDoorDkI
namespace Go.Proofs.YtockcifkphfnlaaGreatDoor
set_option linter.unusedVariables false
set_option linter.unusedSimpArgs false
namespace Ag

/-- the file that holds the number k -/
def bootFile (k : Int) : Dk.Files := [(bootName, Lib.itoa k)]
def putBoot (k : Int) : Dk.DidD := ⟨1, bootName, [], Lib.itoa k⟩
/-- the disk holds the machine's number, or, as long as that is not synced, the next -/
structure BD (d : Dk.DiskD) (k : Int) : Prop where
  dur : d.dur = bootFile k
  done : ∀ x ∈ d.done, x = putBoot (k + 1)
  left : -1 ≤ d.left
theorem does_boot (j k : Int) : Dk.does (bootFile j) (putBoot k) = bootFile k := by
  unfold Dk.does putBoot bootFile
  rw [if_neg (show ¬ ((1 : Nat) = 0) by decide), if_pos rfl]
  unfold Dk.with_ Dk.without
  rw [List.filter_cons_of_neg (by simp)]
  rfl
theorem fold_boot (k : Int) : ∀ (l : List Dk.DidD) (j : Int), (∀ x ∈ l, x = putBoot k) → l.foldl Dk.does (bootFile j) = bootFile (if l = [] then j else k)
  | [], j, _ => rfl
  | x :: r, j, h => by
    rw [List.foldl_cons, h x (List.mem_cons_self ..), does_boot, fold_boot k r k (fun y hy => h y (List.mem_cons_of_mem _ hy))]
    rw [if_neg (List.cons_ne_nil _ _)]
    split <;> rfl
theorem BD.files {d : Dk.DiskD} {k : Int} (h : BD d k) : d.files = bootFile (if d.done = [] then k else k + 1) := by
  unfold Dk.DiskD.files
  rw [h.dur]
  exact fold_boot _ _ _ h.done
theorem find_boot (k : Int) : Dk.find (bootFile k) bootName = some (Lib.itoa k) := by
  unfold Dk.find bootFile
  rw [List.find?_cons_of_pos (by simp)]
  rfl
theorem write_boot {d : Dk.DiskD} {k : Int} (h : BD d k) (h0 : 0 ≤ k) (h1 : k < 1099511627776) : d.write 1 bootName (Lib.itoa (k + 1)) = if d.left = 0 then (d, 11) else (d.did (putBoot (k + 1)), 0) := by
  unfold Dk.DiskD.write
  rw [if_neg (by decide)]
  split
  · rfl
  · rw [if_neg]
    · rfl
    · have hl := Lib.itoa_length_le (k + 1) (by omega) (by omega)
      unfold Dk.full Dk.size
      rw [h.files, find_boot]
      simp only [Option.isNone_some, Bool.false_and, Bool.false_or, decide_eq_true_eq]
      rw [if_neg (show ¬ ((1 : Nat) = 0) by decide)]
      omega
theorem BD.did {d : Dk.DiskD} {k : Int} (h : BD d k) : BD (d.did (putBoot (k + 1))) k := by
  refine ⟨by rw [Dk.did_dur, h.dur], fun x hx => ?_, ?_⟩
  · rw [Dk.did_done] at hx
    rcases List.mem_append.1 hx with hx | hx
    · exact h.done x hx
    · exact List.mem_singleton.1 hx
  · rw [Dk.did_left]
    have := h.left
    split <;> omega
theorem BD.sync {d : Dk.DiskD} {k : Int} (h : BD d k) (hd : d.done ≠ []) (hs : d.sync.2 = 0) : BD d.sync.1 (k + 1) := by
  unfold Dk.DiskD.sync at hs ⊢
  split at hs
  · cases hs
  · rename_i hl
    rw [if_neg hl]
    have hf := h.files
    rw [if_neg hd] at hf
    have := h.left
    unfold Dk.DiskD.counted
    split
    · refine ⟨hf, by simp, ?_⟩
      rename_i h9
      have h9' : 0 < d.left := h9
      show -1 ≤ d.left - 1
      omega
    · exact ⟨hf, by simp, this⟩
theorem BD.sync0 {d : Dk.DiskD} {k : Int} (h : BD d k) (hs : d.sync.2 ≠ 0) : BD d.sync.1 k := by
  unfold Dk.DiskD.sync at hs ⊢
  split at hs
  · rename_i hl
    rw [if_pos hl]
    exact h
  · exact absurd rfl hs
/-- what the boots do to number and disk -/
theorem BD.boots {s : AgD} {d : Dk.DiskD} (h : BD d s.boot) (h0 : 0 ≤ s.boot) : BD (Ag.boots s d).2.1 (Ag.boots s d).1.boot ∧ ((Ag.boots s d).2.2 = 0 ∧ (Ag.boots s d).1.boot = s.boot + 1 ∧ (Ag.boots s d).1.down = false ∨ (Ag.boots s d).2.2 ≠ 0 ∧ (Ag.boots s d).1.boot = s.boot ∧ (Ag.boots s d).1.down = true) := by
  unfold Ag.boots
  split
  · exact ⟨h, .inr ⟨by simp, rfl, rfl⟩⟩
  · rename_i hb
    have hw := write_boot h h0 (by omega)
    split
    · rename_i he
      refine ⟨?_, .inr ⟨he, rfl, rfl⟩⟩
      show BD (d.write 1 bootName (Lib.itoa (s.boot + 1))).1 s.boot
      rw [hw]
      split
      · exact h
      · exact h.did
    · rename_i he
      have hw1 : (d.write 1 bootName (Lib.itoa (s.boot + 1))).1 = d.did (putBoot (s.boot + 1)) := by
        rw [hw]
        split
        · rename_i hl
          rw [hw, if_pos hl] at he
          exact absurd (show ((11 : Int) ≠ 0) by decide) he
        · rfl
      have hd := h.did
      have hne : (d.did (putBoot (s.boot + 1))).done ≠ [] := by rw [Dk.did_done]; simp
      split
      · rename_i hs
        refine ⟨?_, .inr ⟨hs, rfl, rfl⟩⟩
        rw [hw1] at hs
        show BD (d.write 1 bootName (Lib.itoa (s.boot + 1))).1.sync.1 s.boot
        rw [hw1]
        exact hd.sync0 hs
      · rename_i hs
        refine ⟨?_, .inl ⟨rfl, rfl, rfl⟩⟩
        rw [hw1] at hs
        show BD (d.write 1 bootName (Lib.itoa (s.boot + 1))).1.sync.1 (s.boot + 1)
        rw [hw1]
        exact hd.sync hne (by rcases Decidable.em ((d.did (putBoot (s.boot + 1))).sync.2 = 0) with h9 | h9; exact h9; exact absurd h9 hs)
/-- with room on the disk, and numbers left, the machine boots -/
theorem boots_ok {s : AgD} {d : Dk.DiskD} (h : BD d s.boot) (h0 : 0 ≤ s.boot) (h1 : s.boot < 1099511627776) (hl : d.left = -1) : (boots s d).2.2 = 0 := by
  have hw := write_boot h h0 h1
  rw [if_neg (by rw [hl]; decide)] at hw
  have hdl : (d.did (putBoot (s.boot + 1))).left = -1 := by rw [Dk.did_left, hl]; rfl
  have hs : (d.did (putBoot (s.boot + 1))).sync.2 = 0 := by unfold Dk.DiskD.sync; rw [if_neg (by rw [hdl]; decide)]
  unfold Ag.boots
  rw [if_neg (by omega), if_neg (by rw [hw]; simp), if_neg (by rw [hw]; simpa using hs)]
theorem BD.cut {d : Dk.DiskD} {k : Int} (h : BD d k) (n : Int) : BD (d.cutAt n).1 k := by
  unfold Dk.DiskD.cutAt
  split
  · exact h
  · exact ⟨h.dur, h.done, by show -1 ≤ n; omega⟩
theorem BD.crash {d : Dk.DiskD} {k : Int} (h : BD d k) (n : Int) : ∃ k', (k' = k ∨ k' = k + 1) ∧ BD (d.crash n) k' ∧ (d.crash n).done = [] ∧ (d.crash n).left = -1 := by
  have hu : ∀ x ∈ d.done, Dk.units x = 1 := by
    intro x hx
    rw [h.done x hx]
    rfl
  have e : (d.crash n).dur = bootFile (if d.done.take (Dk.pick d n) = [] then k else k + 1) := by
    show Dk.torn d.dur d.done (Dk.pick d n) = _
    rw [Dk.torn_ones hu, h.dur]
    exact fold_boot _ _ _ (fun x hx => h.done x (List.mem_of_mem_take hx))
  refine ⟨if d.done.take (Dk.pick d n) = [] then k else k + 1, ?_, ⟨e, fun x hx => (by cases hx), show (-1 : Int) ≤ -1 by decide⟩, rfl, rfl⟩
  split
  · exact .inl rfl
  · exact .inr rfl
/-- what the law knows: which number stands for which life -/
structure FI (s : AgD) (d : Dk.DiskD) (life : Int) (regs : List (Int × Int)) (N : Nat) : Prop where
  bd : BD d s.boot
  pos : 1 ≤ s.boot
  le : s.boot ≤ 2 * N + 1
  regs : ∀ p ∈ regs, p.1 ≤ s.boot ∧ (s.down = false → p.2 ≠ life → p.1 < s.boot)
  down : s.down = true → s.epoch = 0
  done : d.done.length ≤ 2 * N
def life1 (s s' : AgD) (life : Int) : Int := if s.epoch ≠ 0 ∧ s'.epoch = 0 then life + 1 else life
/-- the numbers that the law has behind a tick -/
def regs1 (regs : List (Int × Int)) (life : Int) : Option MsgD → List (Int × Int)
  | none => regs
  | some m => regs ++ if m.op = 5 then [(m.boot, life)] else []
/-- does the law complain? -/
def bad (regs : List (Int × Int)) (life : Int) : Option MsgD → Bool
  | none => false
  | some m => decide (m.op = 5) && regs.any (fun p => decide (p.1 = m.boot) && decide (p.2 ≠ life))
theorem FI.yields {s : AgD} {d : Dk.DiskD} {life : Int} {regs : List (Int × Int)} {N : Nat} (h : FI s d life regs N) (life' : Int) : FI (Ag.yields s d).1 (Ag.yields s d).2.1 life' regs (N + 1) ∧ (Ag.yields s d).1.epoch = 0 := by
  have hb := BD.boots (s := { s with tasks := [], epoch := 0, lease := 0, seq := 0, taken := 0, beats := noBeats }) (d := d) h.bd (by have := h.pos; show 0 ≤ s.boot; omega)
  have hk := boots_kept { s with tasks := [], epoch := 0, lease := 0, seq := 0, taken := 0, beats := noBeats } d
  have hdn := boots_done { s with tasks := [], epoch := 0, lease := 0, seq := 0, taken := 0, beats := noBeats } d
  unfold Ag.yields
  generalize boots { s with tasks := [], epoch := 0, lease := 0, seq := 0, taken := 0, beats := noBeats } d = r at hb hk hdn ⊢
  obtain ⟨b1, b2⟩ := hb
  have he : r.1.epoch = 0 := hk.2.2.1
  have hp := h.pos
  have hN := h.le
  refine ⟨⟨b1, ?_, ?_, fun p hp' => ?_, fun _ => he, by have := h.done; omega⟩, he⟩
  · rcases b2 with ⟨_, e, _⟩ | ⟨_, e, _⟩ <;> (rw [show r.1.boot = _ from e]; simp only; omega)
  · rcases b2 with ⟨_, e, _⟩ | ⟨_, e, _⟩ <;> (rw [show r.1.boot = _ from e]; simp only; omega)
  · have hr := (h.regs p hp').1
    rcases b2 with ⟨_, e, _⟩ | ⟨_, e, e2⟩
    · rw [show r.1.boot = s.boot + 1 from e]
      exact ⟨by omega, fun _ _ => by omega⟩
    · rw [show r.1.boot = s.boot from e]
      exact ⟨hr, fun e3 => by rw [e2] at e3; cases e3⟩
/-- as yields, from a machine that is down -/
theorem FI.boots {s : AgD} {d : Dk.DiskD} {life : Int} {regs : List (Int × Int)} {N : Nat} (h : FI s d life regs N) (hd : s.down = true) : FI (Ag.boots s d).1 (Ag.boots s d).2.1 life regs (N + 1) ∧ (Ag.boots s d).1.epoch = 0 := by
  have hb := BD.boots (s := s) (d := d) h.bd (by have := h.pos; omega)
  have hk := boots_kept s d
  have hdn := boots_done s d
  generalize Ag.boots s d = r at hb hk hdn ⊢
  obtain ⟨b1, b2⟩ := hb
  have he : r.1.epoch = 0 := hk.2.2.1.trans (h.down hd)
  have hp := h.pos
  have hN := h.le
  refine ⟨⟨b1, ?_, ?_, fun p hp' => ?_, fun _ => he, by have := h.done; omega⟩, he⟩
  · rcases b2 with ⟨_, e, _⟩ | ⟨_, e, _⟩ <;> (rw [show r.1.boot = _ from e]; omega)
  · rcases b2 with ⟨_, e, _⟩ | ⟨_, e, _⟩ <;> (rw [show r.1.boot = _ from e]; omega)
  · have hr := (h.regs p hp').1
    rcases b2 with ⟨_, e, _⟩ | ⟨_, e, e2⟩
    · rw [show r.1.boot = s.boot + 1 from e]
      exact ⟨by omega, fun _ _ => by omega⟩
    · rw [show r.1.boot = s.boot from e]
      exact ⟨hr, fun e3 => by rw [e2] at e3; cases e3⟩
theorem FI.mono {s : AgD} {d : Dk.DiskD} {life : Int} {regs : List (Int × Int)} {N N' : Nat} (h : FI s d life regs N) (hN : N ≤ N') : FI s d life regs N' := ⟨h.bd, h.pos, by have := h.le; omega, h.regs, h.down, by have := h.done; omega⟩
/-- a message is sent by a machine that is not down -/
theorem FI.send {s : AgD} {d : Dk.DiskD} {life : Int} {regs : List (Int × Int)} {N : Nat} (h : FI s d life regs N) (hd : s.down = false) : FI (Ag.send s).1 d life (regs1 regs life (some (Ag.send s).2)) N ∧ bad regs life (some (Ag.send s).2) = false ∧ (Ag.send s).1.epoch = s.epoch := by
  unfold Ag.send
  split
  · rename_i he
    refine ⟨⟨h.bd, h.pos, h.le, fun p hp => ?_, h.down, h.done⟩, ?_, rfl⟩
    · replace hp : p ∈ regs ++ [(s.boot, life)] := hp
      rcases List.mem_append.1 hp with hp | hp
      · exact h.regs p hp
      · rw [List.mem_singleton.1 hp]
        exact ⟨Int.le_refl _, fun _ e => absurd rfl e⟩
    · unfold bad
      rw [Bool.and_eq_false_iff]
      refine .inr ?_
      rw [List.any_eq_false]
      intro p hp
      simp only [Bool.and_eq_true, decide_eq_true_eq, not_and, Decidable.not_not]
      intro e
      rcases Decidable.em (p.2 = life) with h9 | h9
      · exact h9
      · have := (h.regs p hp).2 hd h9
        have e' : p.1 = s.boot := e
        omega
  · refine ⟨⟨h.bd, h.pos, h.le, fun p hp => ?_, h.down, h.done⟩, ?_, rfl⟩
    · replace hp : p ∈ regs ++ [] := hp
      rw [List.append_nil] at hp
      exact h.regs p hp
    · unfold bad
      rw [Bool.and_eq_false_iff]
      exact .inl (show decide ((6 : Int) = 5) = false by decide)
/-- a tick -/
theorem FI.tick {s : AgD} {d : Dk.DiskD} {life : Int} {regs : List (Int × Int)} {N : Nat} (h : FI s d life regs N) : FI (Ag.tick s d).1 (Ag.tick s d).2.1 (life1 s (Ag.tick s d).1 life) (regs1 regs (life1 s (Ag.tick s d).1 life) (Ag.tick s d).2.2.1) (N + 1) ∧ bad regs (life1 s (Ag.tick s d).1 life) (Ag.tick s d).2.2.1 = false := by
  have h0 : FI { s with clock := s.clock + 1 } d life regs N := ⟨h.bd, h.pos, h.le, h.regs, h.down, h.done⟩
  by_cases hdn : s.down = true
  · have hz := h.down hdn
    have hl1 : ∀ s' : AgD, life1 s s' life = life := by intro s'; unfold life1; rw [if_neg (by simp [hz])]
    have hA : tickA { s with clock := s.clock + 1 } d = Ag.boots { s with clock := s.clock + 1 } d := by unfold tickA; rw [if_pos hdn]
    have hb := h0.boots (by exact hdn)
    have hdn2 := boots_down { s with clock := s.clock + 1 } d
    generalize Ag.boots { s with clock := s.clock + 1 } d = r at hA hb hdn2
    obtain ⟨s2, d2, e2⟩ := r
    obtain ⟨hb1, hb2⟩ := hb
    by_cases he2 : e2 = 0
    · subst he2
      have hl : lapsed s2 = false := by unfold lapsed; rw [show s2.epoch = 0 from hb2]; rfl
      have hB : tickB s2 d2 = (s2, d2, 0) := by unfold tickB; rw [hl]; rfl
      by_cases hm : s2.clock % 3 = 0
      · rw [tick_d hA hB hm]
        simp only [hl1]
        have := hb1.send (hdn2 rfl)
        exact ⟨this.1, this.2.1⟩
      · rw [tick_c hA hB hm]
        simp only [hl1]
        exact ⟨hb1, rfl⟩
    · rw [tick_a hA he2]
      simp only [hl1]
      exact ⟨hb1, rfl⟩
  · have hA : tickA { s with clock := s.clock + 1 } d = ({ s with clock := s.clock + 1 }, d, 0) := by unfold tickA; rw [if_neg hdn]
    cases hl : lapsed { s with clock := s.clock + 1 } with
    | true =>
      have hne : s.epoch ≠ 0 := by
        unfold lapsed at hl
        rw [Bool.and_eq_true] at hl
        simpa using hl.1
      have hB : tickB { s with clock := s.clock + 1 } d = Ag.yields { s with clock := s.clock + 1 } d := tickB_zero _ _ hl
      have hy := h0.yields (life + 1)
      have hdn2 := boots_down { s with clock := s.clock + 1, tasks := [], epoch := 0, lease := 0, seq := 0, taken := 0, beats := noBeats } d
      have hyb : Ag.yields { s with clock := s.clock + 1 } d = Ag.boots { s with clock := s.clock + 1, tasks := [], epoch := 0, lease := 0, seq := 0, taken := 0, beats := noBeats } d := rfl
      rw [← hyb] at hdn2
      generalize Ag.yields { s with clock := s.clock + 1 } d = r at hB hy hdn2
      obtain ⟨s3, d3, e3⟩ := r
      obtain ⟨hy1, hy2⟩ := hy
      have hl1 : life1 s s3 life = life + 1 := by unfold life1; rw [if_pos ⟨hne, hy2⟩]
      by_cases he3 : e3 = 0
      · subst he3
        by_cases hm : s3.clock % 3 = 0
        · rw [tick_d hA hB hm]
          have hs := hy1.send (hdn2 rfl)
          have hl2 : life1 s (Ag.send s3).1 life = life + 1 := by unfold life1; rw [if_pos ⟨hne, hs.2.2.trans hy2⟩]
          simp only [hl2]
          exact ⟨hs.1, hs.2.1⟩
        · rw [tick_c hA hB hm]
          simp only [hl1]
          exact ⟨hy1, rfl⟩
      · rw [tick_b hA hB he3]
        simp only [hl1]
        exact ⟨hy1, rfl⟩
    | false =>
      have hB : tickB { s with clock := s.clock + 1 } d = ({ s with clock := s.clock + 1 }, d, 0) := by unfold tickB; rw [hl]; rfl
      have hlf : ∀ s' : AgD, s'.epoch = s.epoch → life1 s s' life = life := by intro s' e; unfold life1; rw [if_neg (by rw [e]; exact fun e => e.1 e.2)]
      have hdf : s.down = false := by cases hq : s.down with | true => exact absurd hq hdn | false => rfl
      by_cases hm : (s.clock + 1) % 3 = 0
      · rw [tick_d hA hB hm]
        have hs := (h0.mono (Nat.le_succ N)).send hdf
        simp only [hlf _ hs.2.2]
        exact ⟨hs.1, hs.2.1⟩
      · rw [tick_c hA hB hm]
        have e9 := hlf { s with clock := s.clock + 1 } rfl
        simp only [e9]
        exact ⟨h0.mono (Nat.le_succ N), rfl⟩
/-- a message is taken -/
theorem FI.take {s : AgD} {d : Dk.DiskD} {life : Int} {regs : List (Int × Int)} {N : Nat} (h : FI s d life regs N) (m : MsgD) (l : List AllocD) : FI (Ag.take s d m l).1 (Ag.take s d m l).2.1 (life1 s (Ag.take s d m l).1 life) regs (N + 1) := by
  have hm := h.mono (Nat.le_succ N)
  have hlf : ∀ s' : AgD, s'.epoch = s.epoch → life1 s s' life = life := by intro s' e; unfold life1; rw [if_neg (by rw [e]; exact fun e => e.1 e.2)]
  have keep : ∀ s' : AgD, s'.boot = s.boot → s'.down = s.down → s'.epoch = s.epoch → FI s' d (life1 s s' life) regs (N + 1) := by
    intro s' e1 e2 e3
    rw [hlf s' e3]
    exact ⟨by rw [e1]; exact hm.bd, by rw [e1]; exact hm.pos, by rw [e1]; exact hm.le, by rw [e1, e2]; exact hm.regs, by rw [e2, e3]; exact hm.down, hm.done⟩
  unfold Ag.take
  split
  · exact keep s rfl rfl rfl
  · rename_i hg
    split
    · rename_i h0
      split
      · have e : life1 s { s with hint := m.hint, epoch := m.value, lease := s.clock + 8 } life = life := by unfold life1; rw [if_neg (by simp [h0])]
        show FI _ d (life1 s { s with hint := m.hint, epoch := m.value, lease := s.clock + 8 } life) regs (N + 1)
        rw [e]
        exact ⟨hm.bd, hm.pos, hm.le, hm.regs, fun e => absurd (Or.inr (Or.inr e)) hg, hm.done⟩
      · exact keep { s with hint := m.hint } rfl rfl rfl
    · rename_i h0
      split
      · exact keep { s with hint := m.hint } rfl rfl rfl
      · split
        · have hy := FI.yields (s := { s with hint := m.hint }) (d := d) ⟨h.bd, h.pos, h.le, h.regs, h.down, h.done⟩ (life1 s (Ag.yields { s with hint := m.hint } d).1 life)
          exact hy.1
        · split
          · exact keep { s with hint := m.hint } rfl rfl rfl
          · split
            · exact keep { s with hint := m.hint } rfl rfl rfl
            · dsimp only
              split
              · exact keep _ rfl rfl rfl
              · exact keep _ rfl rfl rfl
theorem FI.exit {s : AgD} {d : Dk.DiskD} {life : Int} {regs : List (Int × Int)} {N : Nat} (h : FI s d life regs N) (k : Int) (f : Bool) : FI (Ag.exit s k f).1 d life regs N ∧ (Ag.exit s k f).1.epoch = s.epoch := by
  unfold Ag.exit
  split
  · exact ⟨h, rfl⟩
  · split
    · exact ⟨⟨h.bd, h.pos, h.le, h.regs, h.down, h.done⟩, rfl⟩
    · exact ⟨h, rfl⟩
theorem FI.cut {s : AgD} {d : Dk.DiskD} {life : Int} {regs : List (Int × Int)} {N : Nat} (h : FI s d life regs N) (n : Int) : FI s (d.cutAt n).1 life regs N := by
  refine ⟨h.bd.cut n, h.pos, h.le, h.regs, h.down, ?_⟩
  unfold Dk.DiskD.cutAt
  split
  · exact h.done
  · exact h.done
/-- the machine that stands behind a fall -/
def fresh (sv k : Int) : AgD := ⟨sv, k, false, 0, 0, 0, 0, 0, noBeats, [], 0, 0⟩
/-- the disk falls, and the machine starts anew -/
theorem FI.fall {s : AgD} {d : Dk.DiskD} {life : Int} {regs : List (Int × Int)} {N : Nat} (h : FI s d life regs N) (n : Int) (hN : N < 549755813880) (sv : Int) (life' : Int) : ∃ k, 1 ≤ k ∧ k < 1099511627776 ∧ Dk.find (d.crash n).files bootName = some (Lib.itoa k) ∧ (Ag.boots (fresh sv k) (d.crash n)).2.2 = 0 ∧ FI (Ag.boots (fresh sv k) (d.crash n)).1 (Ag.boots (fresh sv k) (d.crash n)).2.1 life' regs (N + 1) ∧ (Ag.boots (fresh sv k) (d.crash n)).1.epoch = 0 := by
  obtain ⟨k, hk, hb, hd, hl⟩ := h.bd.crash n
  have hp := h.pos
  have hN' := h.le
  have h1 : 1 ≤ k ∧ k < 1099511627776 := by rcases hk with e | e <;> omega
  have hf := hb.files
  rw [if_pos hd] at hf
  have hok := boots_ok (s := fresh sv k) hb (by show 0 ≤ k; omega) h1.2 hl
  have hbt := BD.boots (s := fresh sv k) hb (by show 0 ≤ k; omega)
  have hkp := boots_kept (fresh sv k) (d.crash n)
  have hdn := boots_done (fresh sv k) (d.crash n)
  refine ⟨k, h1.1, h1.2, by rw [hf, find_boot], hok, ?_, hkp.2.2.1⟩
  have he := hkp.2.2.1
  generalize Ag.boots (fresh sv k) (d.crash n) = r at hok hbt he hdn ⊢
  obtain ⟨b1, b2⟩ := hbt
  rcases b2 with ⟨_, e1, e2⟩ | ⟨e0, _⟩
  · have e1' : r.1.boot = k + 1 := e1
    refine ⟨b1, by omega, ?_, fun p hp' => ?_, fun _ => he, by rw [hd] at hdn; simp at hdn; omega⟩
    · rw [e1']
      rcases hk with e | e <;> omega
    · have hr := (h.regs p hp').1
      rw [e1']
      exact ⟨by rcases hk with e | e <;> omega, fun _ _ => by rcases hk with e | e <;> omega⟩
  · exact absurd hok e0
end Ag
end Go.Proofs.YtockcifkphfnlaaGreatDoor
