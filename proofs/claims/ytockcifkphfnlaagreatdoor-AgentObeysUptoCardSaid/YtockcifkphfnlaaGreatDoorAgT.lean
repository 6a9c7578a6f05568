/- The machine's Tick and Take, plain; messages. No program is named. -/
import Derived.Test.YtockcifkphfnlaaGreatDoorAgF
namespace Go.Proofs.YtockcifkphfnlaaGreatDoor
set_option linter.unusedVariables false
set_option linter.unusedSimpArgs false
namespace Ag

structure MsgD where
  kind : Int
  frm : Int
  dest : Int
  ctx : Int
  hint : Int
  op : Int
  boot : Int
  epoch : Int
  code : Int
  value : Int
def to3 (s : AgD) : Int := if 1 ≤ s.hint ∧ s.hint ≤ s.servers then s.hint else s.count % s.servers + 1
def send (s : AgD) : AgD × MsgD :=
  if s.epoch = 0 then ({ s with hint := 0, count := s.count + 1 }, ⟨9, 102, to3 s, s.boot, 0, 5, s.boot, 0, 0, 0⟩)
  else ({ s with hint := 0, count := s.count + 1, seq := s.seq + 1, beats := s.beats.set ((s.seq + 1) % 8).toNat (s.seq + 1, s.clock) }, ⟨9, 102, to3 s, s.seq + 1, 0, 6, 0, s.epoch, 0, 0⟩)
def tickA (s : AgD) (d : Dk.DiskD) : AgD × Dk.DiskD × Int := if s.down then boots s d else (s, d, 0)
def lapsed (s : AgD) : Bool := (s.epoch != 0) && decide (s.lease < s.clock)
def tickB (s : AgD) (d : Dk.DiskD) : AgD × Dk.DiskD × Int := if lapsed s then yields s d else (s, d, 0)
def tick (s : AgD) (d : Dk.DiskD) : AgD × Dk.DiskD × Option MsgD × Int :=
  if (tickA { s with clock := s.clock + 1 } d).2.2 ≠ 0 then ((tickA { s with clock := s.clock + 1 } d).1, (tickA { s with clock := s.clock + 1 } d).2.1, none, (tickA { s with clock := s.clock + 1 } d).2.2)
  else if (tickB (tickA { s with clock := s.clock + 1 } d).1 (tickA { s with clock := s.clock + 1 } d).2.1).2.2 ≠ 0 then ((tickB (tickA { s with clock := s.clock + 1 } d).1 (tickA { s with clock := s.clock + 1 } d).2.1).1, (tickB (tickA { s with clock := s.clock + 1 } d).1 (tickA { s with clock := s.clock + 1 } d).2.1).2.1, none, (tickB (tickA { s with clock := s.clock + 1 } d).1 (tickA { s with clock := s.clock + 1 } d).2.1).2.2)
  else if (tickB (tickA { s with clock := s.clock + 1 } d).1 (tickA { s with clock := s.clock + 1 } d).2.1).1.clock % 3 ≠ 0 then ((tickB (tickA { s with clock := s.clock + 1 } d).1 (tickA { s with clock := s.clock + 1 } d).2.1).1, (tickB (tickA { s with clock := s.clock + 1 } d).1 (tickA { s with clock := s.clock + 1 } d).2.1).2.1, none, 0)
  else ((send (tickB (tickA { s with clock := s.clock + 1 } d).1 (tickA { s with clock := s.clock + 1 } d).2.1).1).1, (tickB (tickA { s with clock := s.clock + 1 } d).1 (tickA { s with clock := s.clock + 1 } d).2.1).2.1, some (send (tickB (tickA { s with clock := s.clock + 1 } d).1 (tickA { s with clock := s.clock + 1 } d).2.1).1).2, 0)
theorem tick_a {s s2 : AgD} {d d2 : Dk.DiskD} {e : Int} (h : tickA { s with clock := s.clock + 1 } d = (s2, d2, e)) (he : e ≠ 0) : tick s d = (s2, d2, none, e) := by
  unfold tick
  rw [h, if_pos he]
theorem tick_b {s s2 s3 : AgD} {d d2 d3 : Dk.DiskD} {e : Int} (h : tickA { s with clock := s.clock + 1 } d = (s2, d2, 0)) (h2 : tickB s2 d2 = (s3, d3, e)) (he : e ≠ 0) : tick s d = (s3, d3, none, e) := by
  unfold tick
  rw [h]
  simp only
  rw [h2, if_neg (by simp), if_pos he]
theorem tick_c {s s2 s3 : AgD} {d d2 d3 : Dk.DiskD} (h : tickA { s with clock := s.clock + 1 } d = (s2, d2, 0)) (h2 : tickB s2 d2 = (s3, d3, 0)) (hm : s3.clock % 3 ≠ 0) : tick s d = (s3, d3, none, 0) := by
  unfold tick
  rw [h]
  simp only
  rw [h2, if_neg (by simp), if_neg (by simp), if_pos hm]
theorem tick_d {s s2 s3 : AgD} {d d2 d3 : Dk.DiskD} (h : tickA { s with clock := s.clock + 1 } d = (s2, d2, 0)) (h2 : tickB s2 d2 = (s3, d3, 0)) (hm : s3.clock % 3 = 0) : tick s d = ((send s3).1, d3, some (send s3).2, 0) := by
  unfold tick
  rw [h]
  simp only
  rw [h2, if_neg (by simp), if_neg (by simp), if_neg (by simpa using hm)]
/-- what the boots leave as it was -/
structure Kept (s s' : AgD) : Prop where
  servers : s'.servers = s.servers
  clock : s'.clock = s.clock
  count : s'.count = s.count
  hint : s'.hint = s.hint
  boot : s'.boot = s.boot ∨ s'.boot = s.boot + 1 ∧ s.boot < 1099511627776
theorem boots_kept (s : AgD) (d : Dk.DiskD) : Kept s (boots s d).1 ∧ (boots s d).1.tasks = s.tasks ∧ (boots s d).1.epoch = s.epoch ∧ (boots s d).1.lease = s.lease ∧ (boots s d).1.seq = s.seq ∧ (boots s d).1.taken = s.taken ∧ (boots s d).1.beats = s.beats := by
  unfold boots
  split
  · exact ⟨⟨rfl, rfl, rfl, rfl, .inl rfl⟩, rfl, rfl, rfl, rfl, rfl, rfl⟩
  · split
    · exact ⟨⟨rfl, rfl, rfl, rfl, .inl rfl⟩, rfl, rfl, rfl, rfl, rfl, rfl⟩
    · split
      · exact ⟨⟨rfl, rfl, rfl, rfl, .inl rfl⟩, rfl, rfl, rfl, rfl, rfl, rfl⟩
      · rename_i h _ _
        exact ⟨⟨rfl, rfl, rfl, rfl, .inr ⟨rfl, by omega⟩⟩, rfl, rfl, rfl, rfl, rfl, rfl⟩
theorem sync_len (d : Dk.DiskD) : d.sync.1.done.length ≤ d.done.length := by
  unfold Dk.DiskD.sync
  split
  · exact Nat.le_refl _
  · unfold Dk.DiskD.counted
    split <;> simp
theorem boots_done (s : AgD) (d : Dk.DiskD) : (boots s d).2.1.done.length ≤ d.done.length + 1 := by
  have h1 := Dk.write_len d 1 bootName (Lib.itoa (s.boot + 1))
  have h2 := sync_len (d.write 1 bootName (Lib.itoa (s.boot + 1))).1
  unfold boots
  split
  · exact Nat.le_succ _
  · split
    · exact h1
    · split <;> exact Nat.le_trans h2 h1
theorem tickA_kept (s : AgD) (d : Dk.DiskD) : Kept s (tickA s d).1 ∧ (tickA s d).1.tasks = s.tasks ∧ (tickA s d).1.seq = s.seq ∧ (tickA s d).2.1.done.length ≤ d.done.length + 1 := by
  unfold tickA
  split
  · exact ⟨(boots_kept s d).1, (boots_kept s d).2.1, (boots_kept s d).2.2.2.2.1, boots_done s d⟩
  · exact ⟨⟨rfl, rfl, rfl, rfl, .inl rfl⟩, rfl, rfl, Nat.le_succ _⟩
theorem tickB_kept (s : AgD) (d : Dk.DiskD) : Kept s (tickB s d).1 ∧ ((tickB s d).1.tasks = s.tasks ∨ (tickB s d).1.tasks = []) ∧ ((tickB s d).1.seq = s.seq ∨ (tickB s d).1.seq = 0) := by
  unfold tickB
  split
  · have := boots_kept { s with tasks := [], epoch := 0, lease := 0, seq := 0, taken := 0, beats := noBeats } d
    exact ⟨⟨this.1.servers, this.1.clock, this.1.count, this.1.hint, this.1.boot⟩, .inr this.2.1, .inr this.2.2.2.2.1⟩
  · exact ⟨⟨rfl, rfl, rfl, rfl, .inl rfl⟩, .inl rfl, .inl rfl⟩
/-- an answer is taken: the machine, the disk, the answer's error -/
def take (s : AgD) (d : Dk.DiskD) (m : MsgD) (l : List AllocD) : AgD × Dk.DiskD × Int :=
  if m.kind ≠ 10 ∨ m.dest ≠ 102 ∨ s.down then (s, d, 0)
  else if s.epoch = 0 then
    if m.op = 5 ∧ m.code = 0 ∧ 0 < m.value ∧ m.ctx = s.boot then ({ s with hint := m.hint, epoch := m.value, lease := s.clock + 8 }, d, 0) else ({ s with hint := m.hint }, d, 0)
  else if m.op ≠ 6 ∨ m.epoch ≠ s.epoch then ({ s with hint := m.hint }, d, 0)
  else if m.code = 31 ∨ m.code = 32 then yields { s with hint := m.hint } d
  else if m.code ≠ 0 then ({ s with hint := m.hint }, d, 0)
  else if m.ctx ≤ s.taken ∨ (s.beats[(m.ctx % 8).toNat]?.getD (0, 0)).1 ≠ m.ctx then ({ s with hint := m.hint }, d, 0)
  else
    let s' := { s with hint := m.hint, taken := m.ctx, lease := max s.lease ((s.beats[(m.ctx % 8).toNat]?.getD (0, 0)).2 + 8) }
    if s'.clock ≤ s'.lease then (told s' l, d, 0) else (s', d, 0)
end Ag
end Go.Proofs.YtockcifkphfnlaaGreatDoor
