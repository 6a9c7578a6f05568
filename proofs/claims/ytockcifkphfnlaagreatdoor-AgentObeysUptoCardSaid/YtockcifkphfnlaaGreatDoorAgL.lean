/- AgentLease, plain: what runs has a lease. No program is named. -/
import Derived.Test.YtockcifkphfnlaaGreatDoorAgT
namespace Go.Proofs.YtockcifkphfnlaaGreatDoor
set_option linter.unusedVariables false
set_option linter.unusedSimpArgs false
namespace Ag

/-- the machine and what the law knows of it: its lease, the beats that were sent (number and tick) -/
structure LInv (s : AgD) (lease : Int) (sent : List (Int × Int)) : Prop where
  zero : s.epoch = 0 → s.seq = 0 ∧ s.taken = 0 ∧ s.tasks = [] ∧ s.beats = noBeats
  down : s.down = true → s.epoch = 0
  clk : s.epoch ≠ 0 → s.clock ≤ s.lease
  cap : s.epoch ≠ 0 → s.lease ≤ s.clock + 8
  taken : 0 ≤ s.taken
  seq : 0 ≤ s.seq
  ring : ∀ p ∈ s.beats, p = (0, 0) ∨ (p ∈ sent ∧ 0 < p.1 ∧ p.2 ≤ s.clock ∧ (s.taken = 0 → s.lease ≤ p.2 + 8))
  ack : 0 < s.taken → s.lease ≤ lease
  tasks : s.tasks ≠ [] → 0 < s.taken
theorem LInv.fine {s : AgD} {lease : Int} {sent : List (Int × Int)} (h : LInv s lease sent) (ht : s.tasks ≠ []) : s.clock ≤ lease := by
  have he : s.epoch ≠ 0 := fun e => ht (h.zero e).2.2.1
  exact Int.le_trans (h.clk he) (h.ack (h.tasks ht))
/-- a machine without an epoch: nothing is asked of the law's lease and list -/
theorem LInv.nil0 {s : AgD} (h0 : s.epoch = 0) (h1 : s.seq = 0) (h2 : s.taken = 0) (h3 : s.tasks = []) (h4 : s.beats = noBeats) (lease : Int) (sent : List (Int × Int)) : LInv s lease sent := by
  refine ⟨fun _ => ⟨h1, h2, h3, h4⟩, fun _ => h0, fun e => absurd h0 e, fun e => absurd h0 e, by omega, by omega, fun p hp => .inl ?_, fun e => by omega, fun e => absurd h3 e⟩
  rw [h4] at hp
  exact List.eq_of_mem_replicate hp
theorem boots_down (s : AgD) (d : Dk.DiskD) : (boots s d).2.2 = 0 → (boots s d).1.down = false := by
  unfold boots
  split
  · intro h; cases h
  · split
    · intro h; contradiction
    · split
      · intro h; contradiction
      · intro _; rfl
theorem yields_zero (s : AgD) (d : Dk.DiskD) : (yields s d).1.epoch = 0 ∧ (yields s d).1.seq = 0 ∧ (yields s d).1.taken = 0 ∧ (yields s d).1.tasks = [] ∧ (yields s d).1.beats = noBeats := by
  have h := boots_kept { s with tasks := [], epoch := 0, lease := 0, seq := 0, taken := 0, beats := noBeats } d
  exact ⟨h.2.2.1, h.2.2.2.2.1, h.2.2.2.2.2.1, h.2.1, h.2.2.2.2.2.2⟩
/-- what the law knows behind a tick -/
def lease1 (s s' : AgD) (lease : Int) : Int := if s'.epoch = s.epoch then lease else 0
def sent1 (s s' : AgD) (sent : List (Int × Int)) (clock : Int) : Option MsgD → List (Int × Int)
  | none => if s'.epoch = s.epoch then sent else []
  | some m => (if s'.epoch = s.epoch then sent else []) ++ if m.op = 6 then [(m.ctx, clock)] else []
theorem set_mem {l : List (Int × Int)} {n : Nat} {v p : Int × Int} (h : p ∈ l.set n v) : p ∈ l ∨ p = v := List.mem_or_eq_of_mem_set h
theorem tickB_zero (s : AgD) (d : Dk.DiskD) (h : lapsed s = true) : (tickB s d) = yields s d := by unfold tickB; rw [if_pos h]
theorem LInv.send {s : AgD} {lease : Int} {sent : List (Int × Int)} (h : LInv s lease sent) : LInv (send s).1 lease (sent ++ if (send s).2.op = 6 then [((send s).2.ctx, s.clock)] else []) := by
  unfold Ag.send
  by_cases he : s.epoch = 0
  · rw [if_pos he]
    obtain ⟨a1, a2, a3, a4⟩ := h.zero he
    exact LInv.nil0 (s := { s with hint := 0, count := s.count + 1 }) he a1 a2 a3 a4 _ _
  · rw [if_neg he]
    refine ⟨fun e => absurd e he, fun e => absurd (h.down e) he, h.clk, h.cap, h.taken, by have := h.seq; show 0 ≤ s.seq + 1; omega, ?_, h.ack, h.tasks⟩
    intro p hp
    rcases set_mem hp with hp | rfl
    · rcases h.ring p hp with rfl | ⟨x1, x2, x3, x4⟩
      · exact .inl rfl
      · exact .inr ⟨List.mem_append_left _ x1, x2, x3, x4⟩
    · refine .inr ⟨List.mem_append_right _ (by simp), by have := h.seq; show 0 < s.seq + 1; omega, Int.le_refl _, fun _ => h.cap he⟩
theorem send_epoch (s : AgD) : (send s).1.epoch = s.epoch := by unfold send; split <;> rfl
/-- the clock goes one on, as long as nothing lapses -/
theorem LInv.clock {s : AgD} {lease : Int} {sent : List (Int × Int)} (h : LInv s lease sent) (hl : lapsed { s with clock := s.clock + 1 } = false) : LInv { s with clock := s.clock + 1 } lease sent := by
  refine ⟨h.zero, h.down, fun e => ?_, fun e => ?_, h.taken, h.seq, fun p hp => ?_, h.ack, h.tasks⟩
  · unfold lapsed at hl
    rw [Bool.and_eq_false_iff] at hl
    rcases hl with hl | hl
    · simp at hl; exact absurd hl e
    · simpa using hl
  · have := h.cap e
    show s.lease ≤ s.clock + 1 + 8
    omega
  · rcases h.ring p hp with e | ⟨x1, x2, x3, x4⟩
    · exact .inl e
    · exact .inr ⟨x1, x2, by show p.2 ≤ s.clock + 1; omega, x4⟩
theorem sent1_same {s s' : AgD} (h : s'.epoch = s.epoch) (lease : Int) : lease1 s s' lease = lease := by unfold lease1; rw [if_pos h]
/-- a tick -/
theorem LInv.tick {s : AgD} {lease : Int} {sent : List (Int × Int)} (h : LInv s lease sent) (d : Dk.DiskD) : LInv (tick s d).1 (lease1 s (tick s d).1 lease) (sent1 s (tick s d).1 sent (s.clock + 1) (tick s d).2.2.1) ∧ (tick s d).1.clock = s.clock + 1 := by
  obtain ⟨s2, d2, e2, hA⟩ : ∃ s2 d2 e2, tickA { s with clock := s.clock + 1 } d = (s2, d2, e2) := ⟨_, _, _, rfl⟩
  have kA := tickA_kept { s with clock := s.clock + 1 } d
  rw [hA] at kA
  by_cases hdn : s.down = true
  · have h0 := h.down hdn
    obtain ⟨a1, a2, a3, a4⟩ := h.zero h0
    have hb : tickA { s with clock := s.clock + 1 } d = boots { s with clock := s.clock + 1 } d := by unfold tickA; rw [if_pos hdn]
    have kb := boots_kept { s with clock := s.clock + 1 } d
    rw [← hb, hA] at kb
    have z0 : s2.epoch = 0 := kb.2.2.1.trans h0
    have z1 : s2.seq = 0 := kb.2.2.2.2.1.trans a1
    have z2 : s2.taken = 0 := kb.2.2.2.2.2.1.trans a2
    have z3 : s2.tasks = [] := kb.2.1.trans a3
    have z4 : s2.beats = noBeats := kb.2.2.2.2.2.2.trans a4
    have zc : s2.clock = s.clock + 1 := kA.1.clock
    by_cases he2 : e2 = 0
    · subst he2
      have hl : lapsed s2 = false := by unfold lapsed; rw [z0]; rfl
      have hB : tickB s2 d2 = (s2, d2, 0) := by unfold tickB; rw [hl]; rfl
      by_cases hm : s2.clock % 3 = 0
      · rw [tick_d hA hB hm]
        have z0' : (Ag.send s2).1.epoch = 0 := (send_epoch s2).trans z0
        have hs : Ag.send s2 = ({ s2 with hint := 0, count := s2.count + 1 }, ⟨9, 102, to3 s2, s2.boot, 0, 5, s2.boot, 0, 0, 0⟩) := by unfold Ag.send; rw [if_pos z0]
        refine ⟨?_, by show (Ag.send s2).1.clock = _; rw [hs]; exact zc⟩
        show LInv (Ag.send s2).1 _ _
        refine LInv.nil0 z0' ?_ ?_ ?_ ?_ _ _ <;> (rw [hs]; first | exact z1 | exact z2 | exact z3 | exact z4)
      · rw [tick_c hA hB hm]
        exact ⟨LInv.nil0 z0 z1 z2 z3 z4 _ _, zc⟩
    · rw [tick_a hA he2]
      exact ⟨LInv.nil0 z0 z1 z2 z3 z4 _ _, zc⟩
  · have hA' : tickA { s with clock := s.clock + 1 } d = ({ s with clock := s.clock + 1 }, d, 0) := by unfold tickA; rw [if_neg hdn]
    rw [hA'] at hA
    obtain ⟨rfl, rfl, rfl⟩ : { s with clock := s.clock + 1 } = s2 ∧ d = d2 ∧ (0 : Int) = e2 := by simpa using hA
    cases hl : lapsed { s with clock := s.clock + 1 } with
    | true =>
      obtain ⟨s3, d3, e3, hB⟩ : ∃ s3 d3 e3, tickB { s with clock := s.clock + 1 } d = (s3, d3, e3) := ⟨_, _, _, rfl⟩
      have kB := tickB_kept { s with clock := s.clock + 1 } d
      rw [hB] at kB
      have hy := yields_zero { s with clock := s.clock + 1 } d
      rw [← tickB_zero _ _ hl, hB] at hy
      obtain ⟨z0, z1, z2, z3, z4⟩ := hy
      have zc : s3.clock = s.clock + 1 := kB.1.clock
      by_cases he3 : e3 = 0
      · subst he3
        by_cases hm : s3.clock % 3 = 0
        · rw [tick_d hA' hB hm]
          have z0' : (Ag.send s3).1.epoch = 0 := (send_epoch s3).trans z0
          have hs : Ag.send s3 = ({ s3 with hint := 0, count := s3.count + 1 }, ⟨9, 102, to3 s3, s3.boot, 0, 5, s3.boot, 0, 0, 0⟩) := by unfold Ag.send; rw [if_pos z0]
          refine ⟨?_, by show (Ag.send s3).1.clock = _; rw [hs]; exact zc⟩
          show LInv (Ag.send s3).1 _ _
          refine LInv.nil0 z0' ?_ ?_ ?_ ?_ _ _ <;> (rw [hs]; first | exact z1 | exact z2 | exact z3 | exact z4)
        · rw [tick_c hA' hB hm]
          exact ⟨LInv.nil0 z0 z1 z2 z3 z4 _ _, zc⟩
      · rw [tick_b hA' hB he3]
        exact ⟨LInv.nil0 z0 z1 z2 z3 z4 _ _, zc⟩
    | false =>
      have hB : tickB { s with clock := s.clock + 1 } d = ({ s with clock := s.clock + 1 }, d, 0) := by unfold tickB; rw [hl]; rfl
      have h1 := h.clock hl
      by_cases hm : (s.clock + 1) % 3 = 0
      · rw [tick_d hA' hB hm]
        have e9 : (Ag.send { s with clock := s.clock + 1 }).1.epoch = s.epoch := send_epoch _
        refine ⟨?_, by show (Ag.send _).1.clock = _; unfold Ag.send; split <;> rfl⟩
        show LInv (Ag.send { s with clock := s.clock + 1 }).1 (lease1 s (Ag.send { s with clock := s.clock + 1 }).1 lease) _
        rw [sent1_same e9]
        have h2 := h1.send
        unfold sent1
        rw [if_pos e9]
        exact h2
      · rw [tick_c hA' hB hm]
        refine ⟨?_, rfl⟩
        show LInv { s with clock := s.clock + 1 } (lease1 s { s with clock := s.clock + 1 } lease) (sent1 s { s with clock := s.clock + 1 } sent (s.clock + 1) none)
        rw [sent1_same (s := s) (s' := { s with clock := s.clock + 1 }) rfl]
        unfold sent1
        rw [if_pos rfl]
        exact h1
/-- a message that the law takes for an answer to a beat -/
def okBeat (m : MsgD) (epoch : Int) (x : Int) : Bool := (m.kind == 10) && (m.dest == 102) && (m.code == 0) && (m.ctx == x) && (m.op == 6) && (m.epoch == epoch)
def leased1 (m : MsgD) (epoch : Int) (lease : Int) (p : Int × Int) : Int := if okBeat m epoch p.1 = true ∧ lease < p.2 + 8 then p.2 + 8 else lease
def leased (sent : List (Int × Int)) (m : MsgD) (epoch lease : Int) : Int := sent.foldl (leased1 m epoch) lease
theorem leased1_le (m : MsgD) (epoch lease : Int) (p : Int × Int) : lease ≤ leased1 m epoch lease p := by unfold leased1; split <;> omega
theorem leased_le (m : MsgD) (epoch : Int) : ∀ (sent : List (Int × Int)) (lease : Int), lease ≤ leased sent m epoch lease
  | [], lease => Int.le_refl _
  | p :: r, lease => Int.le_trans (leased1_le m epoch lease p) (leased_le m epoch r _)
theorem leased_mem (m : MsgD) (epoch : Int) : ∀ (sent : List (Int × Int)) (lease : Int) {p : Int × Int}, p ∈ sent → okBeat m epoch p.1 = true → p.2 + 8 ≤ leased sent m epoch lease
  | [], _, p, hp, _ => by cases hp
  | q :: r, lease, p, hp, ho => by
    rcases List.mem_cons.1 hp with rfl | hp
    · have h1 := leased_le m epoch r (leased1 m epoch lease p)
      have h2 : p.2 + 8 ≤ leased1 m epoch lease p := by unfold leased1; split; exact Int.le_refl _; rename_i h9; rcases Int.lt_or_le lease (p.2 + 8) with h8 | h8; exact absurd ⟨ho, h8⟩ h9; exact h8
      exact Int.le_trans h2 h1
    · exact leased_mem m epoch r _ hp ho
theorem told1_nil {s : AgD} : told s [] = { s with tasks := [] } := rfl
/-- a message is taken -/
theorem LInv.take {s : AgD} {lease : Int} {sent : List (Int × Int)} (h : LInv s lease sent) (hb : s.beats.length = 8) (d : Dk.DiskD) (m : MsgD) (l : List AllocD) (hm : 0 ≤ s.clock) :
    LInv (take s d m l).1 (lease1 s (take s d m l).1 (leased sent m s.epoch lease)) (sent1 s (take s d m l).1 sent s.clock none) ∧ (take s d m l).1.clock = s.clock := by
  have hle := leased_le m s.epoch sent lease
  have keep : ∀ x : Int, LInv { s with hint := x } (leased sent m s.epoch lease) sent := fun x => ⟨h.zero, h.down, h.clk, h.cap, h.taken, h.seq, h.ring, fun e => Int.le_trans (h.ack e) hle, h.tasks⟩
  have fin : ∀ s' : AgD, s'.epoch = s.epoch → LInv s' (leased sent m s.epoch lease) sent → s'.clock = s.clock → LInv s' (lease1 s s' (leased sent m s.epoch lease)) (sent1 s s' sent s.clock none) ∧ s'.clock = s.clock := by
    intro s' e1 e2 e3
    rw [sent1_same e1]
    unfold sent1
    rw [if_pos e1]
    exact ⟨e2, e3⟩
  unfold Ag.take
  split
  · exact fin s rfl (keep s.hint) rfl
  · split
    · rename_i hg h0
      obtain ⟨a1, a2, a3, a4⟩ := h.zero h0
      split
      · rename_i hc
        refine ⟨?_, rfl⟩
        have hv : m.value ≠ s.epoch := by rw [h0]; have := hc.2.2.1; omega
        refine ⟨fun e => ?_, fun e => ?_, fun _ => ?_, fun _ => Int.le_refl _, h.taken, h.seq, fun p hp => .inl ?_, fun e => ?_, fun e => absurd a3 e⟩
        · have e' : m.value = 0 := e
          have := hc.2.2.1
          omega
        · have e' : s.down = true := e
          exact absurd (Or.inr (Or.inr e')) hg
        · show s.clock ≤ s.clock + 8
          omega
        · have hp' : p ∈ s.beats := hp
          rw [a4] at hp'
          exact List.eq_of_mem_replicate hp'
        · have e' : 0 < s.taken := e
          omega
      · exact fin { s with hint := m.hint } rfl (keep _) rfl
    · rename_i hg h0
      split
      · exact fin { s with hint := m.hint } rfl (keep _) rfl
      · rename_i hop
        split
        · have hy := yields_zero { s with hint := m.hint } d
          have hk := (boots_kept { s with hint := m.hint, tasks := [], epoch := 0, lease := 0, seq := 0, taken := 0, beats := noBeats } d).1.clock
          exact ⟨LInv.nil0 hy.1 hy.2.1 hy.2.2.1 hy.2.2.2.1 hy.2.2.2.2 _ _, hk⟩
        · split
          · exact fin { s with hint := m.hint } rfl (keep _) rfl
          · rename_i hcode
            split
            · exact fin { s with hint := m.hint } rfl (keep _) rfl
            · rename_i hx
              have hgt : s.taken < m.ctx := by
                rcases Int.lt_or_le s.taken m.ctx with h9 | h9
                · exact h9
                · exact absurd (Or.inl h9) hx
              have hseq : (s.beats[(m.ctx % 8).toNat]?.getD (0, 0)).1 = m.ctx := by
                rcases Decidable.em ((s.beats[(m.ctx % 8).toNat]?.getD (0, 0)).1 = m.ctx) with h9 | h9
                · exact h9
                · exact absurd (Or.inr h9) hx
              have hj : (m.ctx % 8).toNat < s.beats.length := by rw [hb]; omega
              rw [List.getElem?_eq_getElem hj] at hseq ⊢
              simp only [Option.getD_some] at hseq ⊢
              have hmem := List.getElem_mem hj
              generalize s.beats[(m.ctx % 8).toNat] = p at hseq hmem ⊢
              have ht0 := h.taken
              rcases h.ring p hmem with e | ⟨r1, r2, r3, r4⟩
              · rw [e] at hseq
                have e' : (0 : Int) = m.ctx := hseq
                omega
              have hok : okBeat m s.epoch p.1 = true := by
                unfold okBeat
                rw [hseq]
                simp only [Bool.and_eq_true, beq_iff_eq]
                refine ⟨⟨⟨⟨⟨?_, ?_⟩, ?_⟩, trivial⟩, ?_⟩, ?_⟩
                · rcases Decidable.em (m.kind = 10) with h9 | h9
                  · exact h9
                  · exact absurd (Or.inl h9) hg
                · rcases Decidable.em (m.dest = 102) with h9 | h9
                  · exact h9
                  · exact absurd (Or.inr (Or.inl h9)) hg
                · rcases Decidable.em (m.code = 0) with h9 | h9
                  · exact h9
                  · exact absurd h9 hcode
                · rcases Decidable.em (m.op = 6) with h9 | h9
                  · exact h9
                  · exact absurd (Or.inl h9) hop
                · rcases Decidable.em (m.epoch = s.epoch) with h9 | h9
                  · exact h9
                  · exact absurd (Or.inr h9) hop
              have hl8 := leased_mem m s.epoch sent lease r1 hok
              have hlow : max s.lease (p.2 + 8) ≤ leased sent m s.epoch lease := by
                rcases Int.lt_or_le 0 s.taken with h9 | h9
                · have := h.ack h9; omega
                · have := r4 (by omega); omega
              have base : LInv { s with hint := m.hint, taken := m.ctx, lease := max s.lease (p.2 + 8) } (leased sent m s.epoch lease) sent := by
                refine ⟨fun e => absurd e h0, h.down, fun e => ?_, fun e => ?_, ?_, h.seq, fun q hq => ?_, fun _ => hlow, fun _ => ?_⟩
                · have := h.clk e
                  show s.clock ≤ max s.lease (p.2 + 8)
                  omega
                · have := h.cap e
                  show max s.lease (p.2 + 8) ≤ s.clock + 8
                  omega
                · show 0 ≤ m.ctx
                  omega
                · rcases h.ring q hq with e | ⟨x1, x2, x3, x4⟩
                  · exact .inl e
                  · exact .inr ⟨x1, x2, x3, fun e => by have e' : m.ctx = 0 := e; omega⟩
                · show 0 < m.ctx
                  omega
              split
              · refine fin _ rfl ?_ rfl
                exact ⟨fun e => absurd e h0, base.down, base.clk, base.cap, base.taken, base.seq, base.ring, base.ack, fun _ => by show 0 < m.ctx; omega⟩
              · exact fin _ rfl base rfl
/-- a task ends -/
theorem LInv.exit {s : AgD} {lease : Int} {sent : List (Int × Int)} (h : LInv s lease sent) (k : Int) (f : Bool) : LInv (exit s k f).1 lease sent ∧ (exit s k f).1.epoch = s.epoch ∧ (exit s k f).1.clock = s.clock := by
  unfold Ag.exit
  split
  · exact ⟨h, rfl, rfl⟩
  · rename_i t ht
    have hne : s.tasks ≠ [] := by
      intro e
      rw [e] at ht
      cases ht
    split
    · refine ⟨⟨fun e => absurd (h.zero e).2.2.1 hne, h.down, h.clk, h.cap, h.taken, h.seq, h.ring, h.ack, fun _ => h.tasks hne⟩, rfl, rfl⟩
    · exact ⟨h, rfl, rfl⟩
end Ag
end Go.Proofs.YtockcifkphfnlaaGreatDoor
