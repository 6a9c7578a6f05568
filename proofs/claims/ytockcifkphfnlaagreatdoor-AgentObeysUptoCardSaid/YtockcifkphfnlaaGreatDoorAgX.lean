/- AgentLease: what stands at each moment of the law. No function is walked. -/
import Derived.Test.YtockcifkphfnlaaGreatDoorAgW
namespace Go.Proofs.YtockcifkphfnlaaGreatDoor
set_option linter.unusedVariables false
set_option linter.unusedSimpArgs false
open Go.RowKit

def msgCells (cs : Array Value) : List Value := (cs.toList ++ List.replicate 46 (Value.int .i64 0)).take 46
theorem msgCells_len (cs : Array Value) : (msgCells cs).length = 46 := by
  unfold msgCells
  rw [List.length_take, List.length_append, List.length_replicate]
  omega
theorem msgCells_eq {cs : Array Value} (h : cs.size = 46) : msgCells cs = cs.toList := by
  unfold msgCells
  exact List.take_left' (by simpa using h)
theorem SRIntG : SliceT Tryz.prog 34 3 1 := .of (by kernel_rfl)
def Ag.extra (c : Int) : Option Ag.MsgD → List (Int × Int)
  | none => []
  | some m => if m.op = 6 then [(m.ctx, c)] else []
structure LeD (W wB wr : World) (a b LB N : Nat) (s : Ag.AgD) (d : Dk.DiskD) (lease : Int) (L : List SentC) (SA TA : Option Addr) (m c1 c2 : Nat) (mcs : Array Value) (md : Ag.MsgD) (E : List (Int × Int)) : Prop where
  law : Law W wr a b s d
  inv : Ag.LInv s lease (L.map (·.2) ++ E)
  lim : Ag.Lim s d N
  l0 : 0 ≤ lease
  l1 : lease < 2199023255552
  sent : wr.ownsRow wB.heap.size 51 46 (.slice SA m c1) m (L.flatMap fun p => msgCells p.1)
  at_ : wr.ownsRow wB.heap.size 3 1 (.slice TA m c2) m (L.flatMap fun p => [.int .i64 p.2.2])
  len : L.length = m
  few : m ≤ N
  ok : ∀ p ∈ L, SentC.Ok p
  last : Blk wr LB 51 mcs
  lm : MsgIs mcs md
  lc : In64 md.ctx
  lb : LB < wB.heap.size ∧ W.heap.size ≤ LB ∧ wB.heap.size ≤ wr.heap.size
section
variable {W wB wr w' w'' : World} {a b LB N : Nat} {s s' : Ag.AgD} {d d' : Dk.DiskD} {ls : Int} {L : List SentC} {SA TA : Option Addr} {m c1 c2 : Nat} {mcs : Array Value} {md : Ag.MsgD} {E : List (Int × Int)}
/-- an own row of the law's is written -/
theorem Law.row {base e sz n : Nat} {v : Value} {xs : List Value} (h : Law W wr a b s d) (ho : wr.ownsRow base e sz v n xs) (hb : W.heap.size ≤ base) (h1 : e ≠ 84) (h2 : e ≠ 90) (h3 : e ≠ 103) (h4 : e ≠ 5) (h5 : e ≠ 9) (h6 : e ≠ 38) (hx : Ext (fun q => v.ownBlock = some q) wr w') : Law W w' a b s d := by
  cases hv : v.ownBlock with
  | none => exact h.e0 (hx.mono (fun q _ e => by rw [hv] at e; cases e))
  | some g =>
    obtain ⟨cs, hg⟩ := own_blk ho hv
    exact h.other hg (Nat.le_trans hb (ho.lt g hv).1) h1 h2 h3 h4 h5 h6 (hx.mono (fun q _ e => by rw [hv] at e; exact (Option.some.inj e).symm))
theorem rows_apart {base e1 e2 sz1 sz2 n1 n2 : Nat} {v1 v2 : Value} {xs ys : List Value} (h1 : wr.ownsRow base e1 sz1 v1 n1 xs) (h2 : wr.ownsRow base e2 sz2 v2 n2 ys) (ht : e2 ≠ e1) : ∀ g, v2.ownBlock = some g → v1.ownBlock ≠ some g := fun g hg e => by
  obtain ⟨cs, hb⟩ := own_blk h1 e
  exact own_ne h2 hb ht hg
theorem LeD.e0 (h : LeD W wB wr a b LB N s d ls L SA TA m c1 c2 mcs md E) (hx : Ext Nothing wr w') : LeD W wB w' a b LB N s d ls L SA TA m c1 c2 mcs md E :=
  ⟨h.law.e0 hx, h.inv, h.lim, h.l0, h.l1, own_ext h.sent hx (fun _ _ e => e), own_ext h.at_ hx (fun _ _ e => e), h.len, h.few, h.ok, h.last.e0 hx, h.lm, h.lc, ⟨h.lb.1, h.lb.2.1, Nat.le_trans h.lb.2.2 hx.size⟩⟩
theorem LeD.mono {N' : Nat} (h : LeD W wB wr a b LB N s d ls L SA TA m c1 c2 mcs md E) (hN : N ≤ N') : LeD W wB wr a b LB N' s d ls L SA TA m c1 c2 mcs md E :=
  ⟨h.law, h.inv, Ag.Lim.mono h.lim hN, h.l0, h.l1, h.sent, h.at_, h.len, Nat.le_trans h.few hN, h.ok, h.last, h.lm, h.lc, h.lb⟩
/-- the machine did something; the law's own rows stand -/
theorem LeD.stay {N' : Nat} {ls' : Int} {E' : List (Int × Int)} (h : LeD W wB wr a b LB N s d ls L SA TA m c1 c2 mcs md E) (hl : Law W w' a b s' d') (hx : Ext (LawB W wr) wr w') (hi : Ag.LInv s' ls' (L.map (·.2) ++ E')) (hL : Ag.Lim s' d' N') (hN : N ≤ N') (h0 : 0 ≤ ls') (h1 : ls' < 2199023255552) : LeD W wB w' a b LB N' s' d' ls' L SA TA m c1 c2 mcs md E' :=
  ⟨hl, hi, hL, h0, h1, own_law h.sent hx (by decide) (by decide) (by decide), own_law h.at_ hx (by decide) (by decide) (by decide), h.len, Nat.le_trans h.few hN, h.ok, h.last.law hx (by decide) (by decide) (by decide), h.lm, h.lc, ⟨h.lb.1, h.lb.2.1, Nat.le_trans h.lb.2.2 hx.size⟩⟩
/-- the machine did something; the law begins anew -/
theorem LeD.anew {N' : Nat} {E' : List (Int × Int)} (h : LeD W wB wr a b LB N s d ls L SA TA m c1 c2 mcs md E) (hl : Law W w' a b s' d') (hx : Ext (LawB W wr) wr w') (hi : Ag.LInv s' 0 E') (hL : Ag.Lim s' d' N') : LeD W wB w' a b LB N' s' d' 0 [] none none 0 0 0 mcs md E' :=
  ⟨hl, hi, hL, by omega, by omega, World.ownsRow_nil _ _ _ _, World.ownsRow_nil _ _ _ _, rfl, Nat.zero_le _, fun p hp => (by cases hp), h.last.law hx (by decide) (by decide) (by decide), h.lm, h.lc, ⟨h.lb.1, h.lb.2.1, Nat.le_trans h.lb.2.2 hx.size⟩⟩
theorem Ag.sent_same {clock : Int} {om : Option Ag.MsgD} {sent : List (Int × Int)} (he : s'.epoch = s.epoch) : Ag.sent1 s s' sent clock om = sent ++ Ag.extra clock om := by
  unfold Ag.sent1 Ag.extra
  cases om with
  | none => simp only; rw [if_pos he, List.append_nil]
  | some m => simp only; rw [if_pos he]
theorem Ag.sent_diff {clock : Int} {om : Option Ag.MsgD} {sent : List (Int × Int)} (he : s'.epoch ≠ s.epoch) : Ag.sent1 s s' sent clock om = Ag.extra clock om := by
  unfold Ag.sent1 Ag.extra
  cases om with
  | none => simp only; rw [if_neg he]
  | some m => simp only; rw [if_neg he]; rfl
section
variable {om : Option Ag.MsgD} {er : Int}
theorem LeD.tick (h : LeD W wB wr a b LB N s d ls L SA TA m c1 c2 mcs md []) (he : Ag.tick s d = (s', d', om, er)) (hl : Law W w' a b s' d') (hx : Ext (LawB W wr) wr w') : s'.clock = s.clock + 1 ∧ (s'.epoch = s.epoch → LeD W wB w' a b LB (N + 1) s' d' ls L SA TA m c1 c2 mcs md (Ag.extra s'.clock om)) ∧ (s'.epoch ≠ s.epoch → LeD W wB w' a b LB (N + 1) s' d' 0 [] none none 0 0 0 mcs md (Ag.extra s'.clock om)) := by
  have hi := h.inv
  rw [List.append_nil] at hi
  have ht := hi.tick d
  have hL := Ag.Lim.tick h.lim
  rw [he] at ht hL
  obtain ⟨h1, h2⟩ := ht
  refine ⟨h2, fun e => ?_, fun e => ?_⟩
  · rw [Ag.sent1_same e, Ag.sent_same e, ← h2] at h1
    exact h.stay hl hx h1 hL (Nat.le_succ N) h.l0 h.l1
  · rw [Ag.sent_diff e, ← h2, show Ag.lease1 s s' ls = 0 by unfold Ag.lease1; rw [if_neg e]] at h1
    exact h.anew hl hx h1 hL
theorem LeD.take {m2 : Ag.MsgD} {l : List AllocD} (h : LeD W wB wr a b LB N s d ls L SA TA m c1 c2 mcs md []) (hll : l.length ≤ 1048577) (he : Ag.take s d m2 l = (s', d', er)) (hl : Law W w' a b s' d') (hx : Ext (LawB W wr) wr w') : s'.clock = s.clock ∧ (s'.epoch = s.epoch → LeD W wB w' a b LB (N + 1) s' d' (Ag.leased (L.map (·.2)) m2 s.epoch ls) L SA TA m c1 c2 mcs md []) ∧ (s'.epoch ≠ s.epoch → LeD W wB w' a b LB (N + 1) s' d' 0 [] none none 0 0 0 mcs md []) := by
  have hi := h.inv
  rw [List.append_nil] at hi
  have hb : s.beats.length = 8 := by obtain ⟨Ok, mt, h9⟩ := h.law.is; exact h9.beats
  have ht := hi.take hb d m2 l h.lim.clock.1
  have hL := Ag.Lim.take h.lim m2 l hll
  rw [he] at ht hL
  obtain ⟨h1, h2⟩ := ht
  have hlt := leased_lt m2 s.epoch (L.map (·.2)) ls h.l1 (fun p hp => by obtain ⟨q, hq, rfl⟩ := List.mem_map.1 hp; exact (h.ok q hq).t1)
  have hle := Ag.leased_le m2 s.epoch (L.map (·.2)) ls
  have h0 := h.l0
  refine ⟨h2, fun e => ?_, fun e => ?_⟩
  · rw [Ag.sent1_same e, Ag.sent_same e] at h1
    exact h.stay hl hx h1 hL (Nat.le_succ N) (by omega) hlt
  · rw [Ag.sent_diff e, show Ag.lease1 s s' (Ag.leased (L.map (·.2)) m2 s.epoch ls) = 0 by unfold Ag.lease1; rw [if_neg e]] at h1
    exact h.anew hl hx h1 hL
end
theorem LeD.exit {k : Int} {f r : Bool} (h : LeD W wB wr a b LB N s d ls L SA TA m c1 c2 mcs md []) (he : Ag.exit s k f = (s', r)) (hl : Law W w' a b s' d) (hx : Ext (LawB W wr) wr w') : s'.epoch = s.epoch ∧ s'.clock = s.clock ∧ LeD W wB w' a b LB N s' d ls L SA TA m c1 c2 mcs md [] := by
  have hi := h.inv.exit k f
  have hL := Ag.Lim.exit h.lim k f
  rw [he] at hi hL
  exact ⟨hi.2.1, hi.2.2, h.stay hl hx hi.1 hL (Nat.le_refl _) h.l0 h.l1⟩
/-- the last message is kept -/
theorem LeD.keep {cs : Array Value} {m2 : Ag.MsgD} (h : LeD W wB wr a b LB N s d ls L SA TA m c1 c2 mcs md E) (hb : Blk w' LB 51 cs) (hm : MsgIs cs m2) (hc : In64 m2.ctx) (hx : Ext (fun q => q = LB) wr w') : LeD W wB w' a b LB N s d ls L SA TA m c1 c2 cs m2 E :=
  ⟨h.law.other h.last h.lb.2.1 (by decide) (by decide) (by decide) (by decide) (by decide) (by decide) hx, h.inv, h.lim, h.l0, h.l1, own_ext h.sent hx (fun g hg e => by have e : g = LB := e; have h1 := (h.sent.lt g hg).1; have h2 := h.lb.1; omega), own_ext h.at_ hx (fun g hg e => by have e : g = LB := e; have h1 := (h.at_.lt g hg).1; have h2 := h.lb.1; omega), h.len, h.few, h.ok, hb, hm, hc, ⟨h.lb.1, h.lb.2.1, Nat.le_trans h.lb.2.2 hx.size⟩⟩
/-- a beat is noted -/
theorem LeD.app {cs : Array Value} {x tk : Int} {A1 A2 : Option Addr} {k1 k2 : Nat} (h : LeD W wB wr a b LB N s d ls L SA TA m c1 c2 mcs md [(x, tk)]) (hf : m + 1 ≤ N) (hok : SentC.Ok (cs, x, tk)) (ho1 : w'.ownsRow wB.heap.size 51 46 (.slice A1 (m + 1) k1) (m + 1) ((L.flatMap fun p => msgCells p.1) ++ cs.toList)) (hx1 : Ext (fun q => (Value.slice SA m c1).ownBlock = some q) wr w') (ho2 : w''.ownsRow wB.heap.size 3 1 (.slice A2 (m + 1) k2) (m + 1) ((L.flatMap fun p => [.int .i64 p.2.2]) ++ [.int .i64 tk])) (hx2 : Ext (fun q => (Value.slice TA m c2).ownBlock = some q) w' w'') : LeD W wB w'' a b LB N s d ls (L ++ [(cs, x, tk)]) A1 A2 (m + 1) k1 k2 mcs md [] := by
  have hb : W.heap.size ≤ wB.heap.size := Nat.le_trans h.lb.2.1 (Nat.le_of_lt h.lb.1)
  have hA := own_ext h.at_ hx1 (rows_apart h.sent h.at_ (by decide))
  have hl1 := h.law.row h.sent hb (by decide) (by decide) (by decide) (by decide) (by decide) (by decide) hx1
  have hl2 := hl1.row hA hb (by decide) (by decide) (by decide) (by decide) (by decide) (by decide) hx2
  have hlast1 := h.last.ext hx1 (fun e => by have h1 := (h.sent.lt LB e).1; have h2 := h.lb.1; omega)
  have hlast2 := hlast1.ext hx2 (fun e => by have h1 := (h.at_.lt LB e).1; have h2 := h.lb.1; omega)
  have hS := own_ext ho1 hx2 (rows_apart hA ho1 (by decide))
  have hi := h.inv
  refine ⟨hl2, by rw [List.map_append, List.append_nil]; exact hi, h.lim, h.l0, h.l1, by rw [List.flatMap_append]; simpa [msgCells_eq hok.size] using hS, by rw [List.flatMap_append]; simpa using ho2, by rw [List.length_append, h.len]; rfl, hf, fun p hp => ?_, hlast2, h.lm, h.lc, ⟨h.lb.1, h.lb.2.1, Nat.le_trans h.lb.2.2 (Nat.le_trans hx1.size hx2.size)⟩⟩
  rcases List.mem_append.1 hp with hp | hp
  · exact h.ok p hp
  · rw [List.mem_singleton.1 hp]
    exact hok
theorem LeD.fine (h : LeD W wB wr a b LB N s d ls L SA TA m c1 c2 mcs md []) (hr : 0 < (Ag.running s).length) : s.clock ≤ ls := by
  refine h.inv.fine (fun e => ?_)
  unfold Ag.running at hr
  rw [e] at hr
  exact absurd hr (by decide)
theorem LeD.sl (h : LeD W wB wr a b LB N s d ls L SA TA m c1 c2 mcs md E) : Sl wr 46 SA m (L.map fun p => p.1.toList) ∧ Sl wr 1 TA m (L.map fun p => [Value.int .i64 p.2.2]) := by
  refine ⟨?_, Sl.of_own (f := fun p : SentC => [Value.int .i64 p.2.2]) (fun _ => rfl) h.at_ h.len.symm⟩
  have h1 := Sl.of_own (f := fun p : SentC => msgCells p.1) (fun p => msgCells_len _) h.sent h.len.symm
  rw [show L.map (fun p => p.1.toList) = L.map (fun p => msgCells p.1) from List.map_congr_left (fun p hp => (msgCells_eq (h.ok p hp).size).symm)]
  exact h1
end
end Go.Proofs.YtockcifkphfnlaaGreatDoor
