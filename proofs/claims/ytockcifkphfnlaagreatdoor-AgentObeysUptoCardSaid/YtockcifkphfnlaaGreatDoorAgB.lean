/- What a law holds of its machine; bounds of the machine's numbers; the machine's methods, as the laws use them. -/
import Derived.Test.YtockcifkphfnlaaGreatDoorAgP
namespace Go.Proofs.YtockcifkphfnlaaGreatDoor
set_option linter.unusedVariables false
set_option linter.unusedSimpArgs false
open Go.RowKit
namespace Ag
/-- the machine's numbers are small: its clock and its beats' ticks, what it sent, what the disk did -/
structure LimG (s : AgD) (d : Dk.DiskD) (C Q D : Nat) : Prop where
  boot : 0 ≤ s.boot ∧ s.boot ≤ 1099511627776
  clock : 0 ≤ s.clock ∧ s.clock ≤ C
  count : 0 ≤ s.count ∧ s.count ≤ Q
  seq : 0 ≤ s.seq ∧ s.seq ≤ Q
  servers : 1 ≤ s.servers ∧ s.servers ≤ 5
  taken : 0 ≤ s.taken
  tasks : s.tasks.length ≤ 1048577
  beats : ∀ p ∈ s.beats, 0 ≤ p.2 ∧ p.2 ≤ C
  done : d.done.length ≤ D
/-- N deeds were done -/
abbrev Lim (s : AgD) (d : Dk.DiskD) (N : Nat) : Prop := LimG s d N N (2 * N)
section
variable {s : AgD} {d : Dk.DiskD} {C C' Q Q' D D' N N' : Nat}
theorem LimG.mono (h : LimG s d C Q D) (hC : C ≤ C') (hQ : Q ≤ Q') (hD : D ≤ D') : LimG s d C' Q' D' :=
  ⟨h.boot, by have := h.clock; omega, by have := h.count; omega, by have := h.seq; omega, h.servers, h.taken, h.tasks, fun p hp => by have := h.beats p hp; omega, by have := h.done; omega⟩
theorem Lim.mono (h : Lim s d N) (hN : N ≤ N') : Lim s d N' := LimG.mono h hN hN (by omega)
theorem LimG.boots (h : LimG s d C Q D) : LimG (boots s d).1 (boots s d).2.1 C Q (D + 1) := by
  have k := boots_kept s d
  have kd := boots_done s d
  obtain ⟨k1, k2, k3, k4, k5, k6, k7⟩ := k
  generalize Ag.boots s d = r at k1 k2 k3 k4 k5 k6 k7 kd ⊢
  refine ⟨?_, by rw [k1.clock]; exact h.clock, by rw [k1.count]; exact h.count, by rw [k5]; exact h.seq, by rw [k1.servers]; exact h.servers, by rw [k6]; exact h.taken, by rw [k2]; exact h.tasks, by rw [k7]; exact h.beats, by have := h.done; omega⟩
  have := h.boot
  rcases k1.boot with e | ⟨e, e2⟩ <;> omega
theorem LimG.yields (h : LimG s d C Q D) : LimG (yields s d).1 (yields s d).2.1 C Q (D + 1) := by
  refine LimG.boots (s := { s with tasks := [], epoch := 0, lease := 0, seq := 0, taken := 0, beats := noBeats }) ⟨h.boot, h.clock, h.count, ⟨Int.le_refl _, by show (0 : Int) ≤ Q; omega⟩, h.servers, Int.le_refl _, Nat.zero_le _, fun p hp => ?_, h.done⟩
  have hp : p ∈ noBeats := hp
  rw [List.eq_of_mem_replicate hp]
  exact ⟨Int.le_refl _, by show (0 : Int) ≤ C; omega⟩
theorem LimG.send (h : LimG s d C Q D) : LimG (send s).1 d C (Q + 1) D := by
  unfold Ag.send
  split
  · exact ⟨h.boot, h.clock, by have := h.count; show 0 ≤ s.count + 1 ∧ s.count + 1 ≤ ((Q + 1 : Nat) : Int); omega, by have := h.seq; show 0 ≤ s.seq ∧ s.seq ≤ ((Q + 1 : Nat) : Int); omega, h.servers, h.taken, h.tasks, h.beats, h.done⟩
  · refine ⟨h.boot, h.clock, by have := h.count; show 0 ≤ s.count + 1 ∧ s.count + 1 ≤ ((Q + 1 : Nat) : Int); omega, by have := h.seq; show 0 ≤ s.seq + 1 ∧ s.seq + 1 ≤ ((Q + 1 : Nat) : Int); omega, h.servers, h.taken, h.tasks, fun p hp => ?_, h.done⟩
    rcases set_mem hp with hp | rfl
    · exact h.beats p hp
    · exact h.clock
/-- a tick -/
theorem Lim.tick (h : Lim s d N) : Lim (tick s d).1 (tick s d).2.1 (N + 1) := by
  have h0 : LimG { s with clock := s.clock + 1 } d (N + 1) N (2 * N) := ⟨h.boot, by have := h.clock; show 0 ≤ s.clock + 1 ∧ s.clock + 1 ≤ ((N + 1 : Nat) : Int); omega, h.count, h.seq, h.servers, h.taken, h.tasks, fun p hp => by have := h.beats p hp; omega, h.done⟩
  have hA : LimG (tickA { s with clock := s.clock + 1 } d).1 (tickA { s with clock := s.clock + 1 } d).2.1 (N + 1) N (2 * N + 1) := by
    unfold tickA
    split
    · exact h0.boots
    · exact h0.mono (Nat.le_refl _) (Nat.le_refl _) (by omega)
  unfold Ag.tick
  generalize tickA { s with clock := s.clock + 1 } d = r at hA ⊢
  have hB : LimG (tickB r.1 r.2.1).1 (tickB r.1 r.2.1).2.1 (N + 1) N (2 * N + 2) := by
    unfold tickB
    split
    · exact hA.yields
    · exact hA.mono (Nat.le_refl _) (Nat.le_refl _) (by omega)
  split
  · exact hA.mono (by omega) (by omega) (by omega)
  · generalize tickB r.1 r.2.1 = u at hB ⊢
    split
    · exact hB.mono (by omega) (by omega) (by omega)
    · split
      · exact hB.mono (by omega) (by omega) (by omega)
      · exact hB.send.mono (by omega) (by omega) (by omega)
end
theorem tput_len (T : Tasks) (k : Int) (v : TaskD) : (tput T k v).length ≤ T.length + 1 := by
  rw [(tput_perm T k v).length_eq, List.length_cons]
  have : (twithout T k).length ≤ T.length := List.length_filter_le _ _
  omega
theorem told1_len (s : AgD) (T : Tasks) (x : AllocD) : (told1 s T x).length ≤ T.length + 1 := by
  unfold told1
  split
  · omega
  · split
    · exact tput_len _ _ _
    · exact tput_len _ _ _
theorem told_len (s : AgD) : ∀ (l : List AllocD) (T : Tasks), (l.foldl (told1 s) T).length ≤ T.length + l.length
  | [], T => by simp
  | x :: r, T => by
    have h1 := told_len s r (told1 s T x)
    have h2 := told1_len s T x
    rw [List.foldl_cons, List.length_cons]
    omega
theorem Lim.take {s : AgD} {d : Dk.DiskD} {N : Nat} (h : Lim s d N) (m : MsgD) (l : List AllocD) (hl : l.length ≤ 1048577) : Lim (Ag.take s d m l).1 (Ag.take s d m l).2.1 (N + 1) := by
  have hh : Lim { s with hint := m.hint } d N := ⟨h.boot, h.clock, h.count, h.seq, h.servers, h.taken, h.tasks, h.beats, h.done⟩
  unfold Ag.take
  split
  · exact Lim.mono h (by omega)
  · split
    · split
      · exact Lim.mono (N := N) ⟨h.boot, h.clock, h.count, h.seq, h.servers, h.taken, h.tasks, h.beats, h.done⟩ (by omega)
      · exact Lim.mono hh (by omega)
    · split
      · exact Lim.mono hh (by omega)
      · split
        · exact (LimG.yields hh).mono (by omega) (by omega) (by omega)
        · split
          · exact Lim.mono hh (by omega)
          · split
            · exact Lim.mono hh (by omega)
            · rename_i hx
              have h0 := h.taken
              have h1 : 0 ≤ m.ctx := by
                rcases Int.lt_or_le s.taken m.ctx with h9 | h9
                · omega
                · exact absurd (Or.inl h9) hx
              dsimp only
              split
              · refine Lim.mono (N := N) ⟨h.boot, h.clock, h.count, h.seq, h.servers, h1, ?_, h.beats, h.done⟩ (by omega)
                exact Nat.le_trans (told_len _ l []) (by simpa using hl)
              · exact Lim.mono (N := N) ⟨h.boot, h.clock, h.count, h.seq, h.servers, h1, h.tasks, h.beats, h.done⟩ (by omega)
theorem tfind_len {T : Tasks} {k : Int} {v : TaskD} (h : tfind T k ≠ none) : (tput T k v).length ≤ T.length := by
  rw [(tput_perm T k v).length_eq, List.length_cons]
  have : (twithout T k).length < T.length := by
    unfold twithout
    rw [List.length_filter_lt_length_iff_exists]
    rw [Ne, tfind_none, Decidable.not_not] at h
    obtain ⟨p, hp, rfl⟩ := List.mem_map.1 h
    exact ⟨p, hp, by simp⟩
  omega
theorem Lim.exit {s : AgD} {d : Dk.DiskD} {N : Nat} (h : Lim s d N) (k : Int) (f : Bool) : Lim (exit s k f).1 d N := by
  unfold Ag.exit
  split
  · exact h
  · rename_i t ht
    split
    · exact ⟨h.boot, h.clock, h.count, h.seq, h.servers, h.taken, Nat.le_trans (tfind_len (by rw [ht]; simp)) h.tasks, h.beats, h.done⟩
    · exact h
end Ag
/-- what a law that began in w0 holds of its machine in block a -/
structure Law (w0 w : World) (a b : Nat) (s : Ag.AgD) (d : Dk.DiskD) : Prop where
  is : ∃ Ok mt, AgIs w Ok (w0.heap.size + 2) a b mt s d
  tab : HTabB (w0.heap.size + 2) w
  ext : Ext Nothing w0 w
abbrev LawB (w0 w : World) : Nat → Prop := AgB (w0.heap.size + 2) w
section
variable {w0 w w' : World} {a b : Nat} {s : Ag.AgD} {d : Dk.DiskD} {N : Nat}
theorem Law.e0 (h : Law w0 w a b s d) (hx : Ext Nothing w w') : Law w0 w' a b s d := by
  obtain ⟨Ok, mt, hi⟩ := h.is
  exact ⟨⟨Ok, mt, hi.keep0 hx⟩, h.tab.e0 hx, h.ext.tr hx⟩
theorem Law.step {s' : Ag.AgD} {d' : Dk.DiskD} {Ok : Nat → Prop} {mt : Nat} (h : Law w0 w a b s d) (hi : AgIs w' Ok (w0.heap.size + 2) a b mt s' d') (hx : Ext (LawB w0 w) w w') : Law w0 w' a b s' d' :=
  ⟨⟨Ok, mt, hi⟩, h.tab.step hx, AgB.fresh (Nat.le_refl _) h.ext hx⟩
theorem Law.blk (h : Law w0 w a b s d) : ∃ mt, Blk w a 84 (s.cells b mt) := by
  obtain ⟨Ok, mt, hi⟩ := h.is
  exact ⟨mt, hi.blk⟩
/-- another block of the law's is written -/
theorem Law.other {M t : Nat} {cs : Array Value} (h : Law w0 w a b s d) (hM : Blk w M t cs) (h0 : w0.heap.size ≤ M) (h1 : t ≠ 84) (h2 : t ≠ 90) (h3 : t ≠ 103) (h4 : t ≠ 5) (h5 : t ≠ 9) (h6 : t ≠ 38) (hx : Ext (fun q => q = M) w w') : Law w0 w' a b s d := by
  obtain ⟨Ok, mt, hi⟩ := h.is
  obtain ⟨v0, t1, t2, t3⟩ := h.tab
  have hv : ∀ {q : Nat} {u : World}, u.heap.size + 2 ≤ w0.heap.size + 2 → q < u.heap.size → ¬ q = M := fun h8 h9 e => by omega
  exact ⟨⟨Ok, mt, hi.other hM h1 h2 h3 h4 h5 h6 hx⟩, ⟨v0, t1, t2, t3.trans hx (fun q hq e => hv t2 hq e)⟩, h.ext.trans hx (fun q hq e => by have e : q = M := e; omega)⟩
theorem Blk.law {g t : Nat} {cs : Array Value} (hb : Blk w g t cs) (hx : Ext (LawB w0 w) w w') (h1 : t ≠ 84) (h2 : t ≠ 90) (h3 : t ≠ 103) : Blk w' g t cs := hb.ext hx (AgB.ty hb h1 h2 h3)
theorem lwTick {s' : Ag.AgD} {d' : Dk.DiskD} {om : Option Ag.MsgD} {er : Int} (h : Law w0 w a b s d) (hL : Ag.Lim s d N) (hN : N ≤ 33000000) (he : Ag.tick s d = (s', d', om, er)) :
    Calls Tryz.prog 9 #[.pointer (some ⟨a, 0, none⟩)] w fun e w' => ∃ v, e = .returned (.tuple #[v, .int .i64 er]) ∧ MsgOut w' v om ∧ Law w0 w' a b s' d' ∧ Ext (LawB w0 w) w w' := by
  obtain ⟨Ok, mt, hi⟩ := h.is
  have q1 := hL.boot
  have q2 := hL.clock
  have q3 := hL.count
  have q4 := hL.seq
  have q5 := hL.servers
  have q6 := hL.tasks
  have q7 := hL.done
  have hc := agTick w hi h.tab q1.1 q1.2 (by omega) q2.1 (by omega) q3.1 (by omega) q4.1 (by omega) q5.1 q5.2 (by omega)
  rw [he] at hc
  refine hc.mono ?_
  rintro e w' ⟨v, rfl, hm, hi', hx⟩
  exact ⟨v, rfl, hm, h.step hi' hx, hx⟩
theorem lwTake {cs : Array Value} {m : Ag.MsgD} {A : Option Addr} {n c : Nat} {l : List AllocD} {s' : Ag.AgD} {d' : Dk.DiskD} {er : Int} (h : Law w0 w a b s d) (hL : Ag.Lim s d N) (hN : N ≤ 33000000) (hm : MsgIs cs m) (hx64 : In64 m.ctx) (h45 : cs[45]? = some (.slice A n c)) (hl : Sl w 11 A n (l.map AllocD.cells)) (hn : n ≤ 1048577) (hAa : ∀ q, A.map (·.block) = some q → l ≠ [] → q ≠ a) (hId : ∀ x ∈ l, In64 x.id) (he : Ag.take s d m l = (s', d', er)) :
    Calls Tryz.prog 14 #[.pointer (some ⟨a, 0, none⟩), .agg cs] w fun e w' => e = .returned (.int .i64 er) ∧ Law w0 w' a b s' d' ∧ Ext (LawB w0 w) w w' := by
  obtain ⟨Ok, mt, hi⟩ := h.is
  have q1 := hL.boot
  have q2 := hL.clock
  have q7 := hL.done
  have hc := agTake w hi h.tab q1.1 q1.2 (by omega) q2.1 (by omega) hL.taken (fun p hp => by have := hL.beats p hp; omega) cs m hm hx64 A n c l h45 hl (by omega) hAa hId
  rw [he] at hc
  refine hc.mono ?_
  rintro e w' ⟨mt', rfl, hi', hx⟩
  exact ⟨rfl, h.step hi' hx, hx⟩
theorem lwExit {s' : Ag.AgD} {r : Bool} (k : Int) (f : Bool) (h : Law w0 w a b s d) (hk : In64 k) (he : Ag.exit s k f = (s', r)) :
    Calls Tryz.prog 15 #[.pointer (some ⟨a, 0, none⟩), .int .i64 k, .bool f] w fun e w' => e = .returned (.bool r) ∧ Law w0 w' a b s' d ∧ Ext (LawB w0 w) w w' := by
  obtain ⟨Ok, mt, hi⟩ := h.is
  have hc := agExit k f w hi hk
  rw [he] at hc
  refine hc.mono ?_
  rintro e w' ⟨rfl, hi', hx⟩
  exact ⟨rfl, h.step hi' hx, hx⟩
theorem lwEpoch (h : Law w0 w a b s d) : Calls Tryz.prog 10 #[.pointer (some ⟨a, 0, none⟩)] w fun e w' => e = .returned (.int .i64 s.epoch) ∧ w' = w := by
  obtain ⟨Ok, mt, hi⟩ := h.is
  exact agEpoch w hi
theorem lwRunning (h : Law w0 w a b s d) (hT : s.tasks.length ≤ 1048577) :
    Calls Tryz.prog 11 #[.pointer (some ⟨a, 0, none⟩)] w fun e w' => ∃ v, e = .returned v ∧ w'.ownsRow w.heap.size 67 11 v (Ag.running s).length ((Ag.running s).flatMap AllocD.cells) ∧ Ext Nothing w w' := by
  obtain ⟨Ok, mt, hi⟩ := h.is
  exact agRunning w hi (by omega)
end
namespace Ag
theorem boots_new (sv : Int) : boots (fresh sv 0) Dk.new = (fresh sv 1, ⟨bootFile 1, [], -1⟩, 0) := by
  have hl := Lib.itoa_length_le 1 (by omega) (by omega)
  have hw : Dk.new.write 1 bootName (Lib.itoa (0 + 1)) = (⟨[], [putBoot 1], -1⟩, 0) := by
    unfold Dk.DiskD.write
    rw [if_neg (by decide), if_neg (by decide), if_neg]
    · rfl
    · unfold Dk.full Dk.size
      rw [show Dk.new.files = [] from rfl, if_neg (show ¬ ((1 : Nat) = 0) by decide)]
      simp only [Dk.find, List.find?_nil, Option.map_none, Option.isNone_none, Bool.true_and, List.length_nil, Bool.or_eq_true, decide_eq_true_eq]
      rw [show (0 : Int) + 1 = 1 from rfl]
      omega
  unfold boots
  rw [show (fresh sv 0).boot = 0 from rfl, if_neg (show ¬ ((1099511627776 : Int) ≤ 0) by decide), hw, if_neg (by decide), if_neg (by decide)]
  rfl
end Ag
/-- a machine starts on a new disk -/
theorem lwStart (sv : Int) {b : Nat} {w0 w : World} {Ok : Nat → Prop} (h : DiskIs Nothing w Ok b Dk.new) (hb : w0.heap.size + 2 ≤ b) (hx : Ext Nothing w0 w) (htab : HTab w0) (hs0 : 1 ≤ sv) (hs1 : sv ≤ 5) :
    Calls Tryz.prog 6 #[.agg #[.int .i64 2, .int .i64 0, .int .i64 0, .bool false, .bool false, .int .i64 0, .int .i64 0, .int .i64 0], .int .i64 sv, .pointer (some ⟨b, 0, none⟩)] w fun e w' => ∃ a, e = .returned (.tuple #[.pointer (some ⟨a, 0, none⟩), .int .i64 0]) ∧ Law w0 w' a b (Ag.fresh sv 1) ⟨Ag.bootFile 1, [], -1⟩ ∧ w.heap.size ≤ a ∧ Ext (LawB w0 w) w w' := by
  have hz := hx.size
  have ht : HTabB (w0.heap.size + 2) w := ⟨w0, htab, Nat.le_refl _, hx⟩
  have hc := agStart (B := w0.heap.size + 2) (k := 0) (sv := sv) w h Dk.good_new hb (by omega) ht hs0 hs1 (by decide) (.inl ⟨rfl, rfl⟩) (by rw [Ag.boots_new])
  rw [Ag.boots_new] at hc
  refine hc.mono ?_
  rintro e w' ⟨a, mt, rfl, hi, ha, hx'⟩
  exact ⟨a, rfl, ⟨⟨_, mt, hi⟩, ht.step hx', AgB.fresh (Nat.le_refl _) hx hx'⟩, ha, hx'⟩
end Go.Proofs.YtockcifkphfnlaaGreatDoor
