/- AgentFresh is true, whatever the script. (printed by wip/gen/agfresh.py) -/
import Derived.Test.YtockcifkphfnlaaGreatDoorAgX
namespace Go.Proofs.YtockcifkphfnlaaGreatDoor
set_option linter.unusedVariables false
set_option linter.unusedSimpArgs false
open Go.RowKit

section
variable {W w w' : World} {a b : Nat} {s : Ag.AgD} {d : Dk.DiskD}
theorem lwCut (k : Int) (h : Law W w a b s d) : Calls Tryz.prog 18 #[.pointer (some ⟨b, 0, none⟩), .int .i64 k] w fun e w' => e = .returned (.int .i64 (d.cutAt k).2) ∧ Law W w' a b s (d.cutAt k).1 ∧ Ext (LawB W w) w w' := by
  obtain ⟨Ok, mt, hi⟩ := h.is
  refine (dkCut k w hi.disk).mono ?_
  rintro e w' ⟨rfl, hd, hx⟩
  have hx' : Ext (LawB W w) w w' := AgB.ofd hi.ge.2.1 hx
  exact ⟨rfl, h.step (hi.dk hx hd (Dk.good_cut hi.good k)) hx', hx'⟩
theorem lwCrash (k : Int) (h : Law W w a b s d) (hk : In64 k) (hdn : d.done.length < 67108864) : Calls Tryz.prog 19 #[.pointer (some ⟨b, 0, none⟩), .int .i64 k] w fun e w' => e = .returned (.tuple #[]) ∧ Law W w' a b s (d.crash k) ∧ Ext (LawB W w) w w' := by
  obtain ⟨Ok, mt, hi⟩ := h.is
  refine (dkCrash k w hi.disk hi.good hdn hk (fun q e => by have e : q = mt := e; rw [e]; exact hi.tasks.lt)).mono ?_
  rintro e w' ⟨rfl, hd, hx⟩
  have hx' : Ext (LawB W w) w w' := AgB.ofd hi.ge.2.1 hx
  exact ⟨rfl, h.step (hi.dk hx hd (Dk.good_crash hi.good k)) hx', hx'⟩
/-- a machine starts anew on the disk -/
theorem lwRestart {sv k : Int} {s' : Ag.AgD} {d' : Dk.DiskD} (h : Law W w a b s d) (hs0 : 1 ≤ sv) (hs1 : sv ≤ 5) (hdn : d.done.length < 67108863) (hk0 : 1 ≤ k) (hk1 : k < 1099511627776) (hf : Dk.find d.files Ag.bootName = some (Lib.itoa k)) (he : Ag.boots (Ag.fresh sv k) d = (s', d', 0)) :
    Calls Tryz.prog 6 #[.agg #[.int .i64 2, .int .i64 0, .int .i64 0, .bool false, .bool false, .int .i64 0, .int .i64 0, .int .i64 0], .int .i64 sv, .pointer (some ⟨b, 0, none⟩)] w fun e w' => ∃ a', e = .returned (.tuple #[.pointer (some ⟨a', 0, none⟩), .int .i64 0]) ∧ Law W w' a' b s' d' ∧ Ext (LawB W w) w w' := by
  obtain ⟨Ok, mt, hi⟩ := h.is
  have hz := h.ext.size
  have hc := agStart (B := W.heap.size + 2) (k := k) (sv := sv) w hi.disk hi.good hi.ge.2.1 (by omega) h.tab hs0 hs1 hdn (.inr ⟨hk0, hk1, hf⟩) (by rw [he])
  rw [he] at hc
  refine hc.mono ?_
  rintro e w' ⟨a', mt', rfl, hi', ha, hx⟩
  exact ⟨a', rfl, ⟨⟨_, mt', hi'⟩, h.tab.step hx, AgB.fresh (Nat.le_refl _) h.ext hx⟩, hx⟩
end
structure FrD (W wB wr : World) (a b LB N : Nat) (s : Ag.AgD) (d : Dk.DiskD) (life : Int) (R : List (Int × Int)) (BA LA : Option Addr) (m c1 c2 : Nat) (mcs : Array Value) (md : Ag.MsgD) (E : List (Int × Int)) : Prop where
  law : Law W wr a b s d
  inv : Ag.FI s d life (R ++ E) N
  lim : Ag.Lim s d N
  life : 0 ≤ life ∧ life ≤ N
  bs : wr.ownsRow wB.heap.size 3 1 (.slice BA m c1) m (R.flatMap fun p => [.int .i64 p.1])
  lv : wr.ownsRow wB.heap.size 3 1 (.slice LA m c2) m (R.flatMap fun p => [.int .i64 p.2])
  ap : ∀ g, (Value.slice BA m c1).ownBlock = some g → (Value.slice LA m c2).ownBlock ≠ some g
  len : R.length = m
  few : m ≤ N
  last : Blk wr LB 51 mcs
  lm : MsgIs mcs md
  lc : In64 md.ctx
  lb : LB < wB.heap.size ∧ W.heap.size ≤ LB ∧ wB.heap.size ≤ wr.heap.size
section
variable {W wB wr w' w'' : World} {a a' b LB N N' : Nat} {s s' : Ag.AgD} {d d' : Dk.DiskD} {life life' : Int} {R : List (Int × Int)} {BA LA : Option Addr} {m c1 c2 : Nat} {mcs : Array Value} {md : Ag.MsgD} {E E' : List (Int × Int)}
theorem FrD.e0 (h : FrD W wB wr a b LB N s d life R BA LA m c1 c2 mcs md E) (hx : Ext Nothing wr w') : FrD W wB w' a b LB N s d life R BA LA m c1 c2 mcs md E :=
  ⟨h.law.e0 hx, h.inv, h.lim, h.life, own_ext h.bs hx (fun _ _ e => e), own_ext h.lv hx (fun _ _ e => e), h.ap, h.len, h.few, h.last.e0 hx, h.lm, h.lc, ⟨h.lb.1, h.lb.2.1, Nat.le_trans h.lb.2.2 hx.size⟩⟩
/-- the machine, or its disk, did something; the law's own rows stand -/
theorem FrD.stay (h : FrD W wB wr a b LB N s d life R BA LA m c1 c2 mcs md E) (hl : Law W w' a' b s' d') (hx : Ext (LawB W wr) wr w') (hi : Ag.FI s' d' life' (R ++ E') N') (hL : Ag.Lim s' d' N') (hf : 0 ≤ life' ∧ life' ≤ N') (hN : N ≤ N') : FrD W wB w' a' b LB N' s' d' life' R BA LA m c1 c2 mcs md E' :=
  ⟨hl, hi, hL, hf, own_law h.bs hx (by decide) (by decide) (by decide), own_law h.lv hx (by decide) (by decide) (by decide), h.ap, h.len, Nat.le_trans h.few hN, h.last.law hx (by decide) (by decide) (by decide), h.lm, h.lc, ⟨h.lb.1, h.lb.2.1, Nat.le_trans h.lb.2.2 hx.size⟩⟩
def Ag.extraF (life : Int) : Option Ag.MsgD → List (Int × Int)
  | none => []
  | some m => if m.op = 5 then [(m.boot, life)] else []
theorem life1_le {N : Nat} (h : 0 ≤ life ∧ life ≤ N) : 0 ≤ Ag.life1 s s' life ∧ Ag.life1 s s' life ≤ ((N + 1 : Nat) : Int) := by
  unfold Ag.life1
  split <;> omega
theorem FrD.tick {om : Option Ag.MsgD} {er : Int} (h : FrD W wB wr a b LB N s d life R BA LA m c1 c2 mcs md []) (he : Ag.tick s d = (s', d', om, er)) (hl : Law W w' a b s' d') (hx : Ext (LawB W wr) wr w') : FrD W wB w' a b LB (N + 1) s' d' (Ag.life1 s s' life) R BA LA m c1 c2 mcs md (Ag.extraF (Ag.life1 s s' life) om) ∧ Ag.bad R (Ag.life1 s s' life) om = false := by
  have hi := h.inv
  rw [List.append_nil] at hi
  have ht := hi.tick
  have hL := Ag.Lim.tick h.lim
  rw [he] at ht hL
  obtain ⟨h1, h2⟩ := ht
  refine ⟨h.stay hl hx ?_ hL (life1_le h.life) (Nat.le_succ N), h2⟩
  cases om with
  | none => rw [show Ag.extraF (Ag.life1 s s' life) none = [] from rfl, List.append_nil]; exact h1
  | some m => exact h1
theorem FrD.take {m2 : Ag.MsgD} {l : List AllocD} {er : Int} (h : FrD W wB wr a b LB N s d life R BA LA m c1 c2 mcs md []) (hll : l.length ≤ 1048577) (he : Ag.take s d m2 l = (s', d', er)) (hl : Law W w' a b s' d') (hx : Ext (LawB W wr) wr w') : FrD W wB w' a b LB (N + 1) s' d' (Ag.life1 s s' life) R BA LA m c1 c2 mcs md [] := by
  have hi := h.inv
  rw [List.append_nil] at hi
  have ht := hi.take m2 l
  have hL := Ag.Lim.take h.lim m2 l hll
  rw [he] at ht hL
  exact h.stay hl hx (by rw [List.append_nil]; exact ht) hL (life1_le h.life) (Nat.le_succ N)
theorem FrD.exit {k : Int} {f r : Bool} (h : FrD W wB wr a b LB N s d life R BA LA m c1 c2 mcs md []) (he : Ag.exit s k f = (s', r)) (hl : Law W w' a b s' d) (hx : Ext (LawB W wr) wr w') : s'.epoch = s.epoch ∧ FrD W wB w' a b LB N s' d life R BA LA m c1 c2 mcs md [] := by
  have hi := h.inv.exit k f
  have hL := Ag.Lim.exit h.lim k f
  rw [he] at hi hL
  exact ⟨hi.2, h.stay hl hx hi.1 hL h.life (Nat.le_refl _)⟩
theorem cutAt_done (d : Dk.DiskD) (n : Int) : (d.cutAt n).1.done = d.done := by
  unfold Dk.DiskD.cutAt
  split <;> rfl
theorem FrD.cut {k : Int} (h : FrD W wB wr a b LB N s d life R BA LA m c1 c2 mcs md []) (hl : Law W w' a b s (d.cutAt k).1) (hx : Ext (LawB W wr) wr w') : FrD W wB w' a b LB N s (d.cutAt k).1 life R BA LA m c1 c2 mcs md [] :=
  h.stay hl hx (h.inv.cut k) ⟨h.lim.boot, h.lim.clock, h.lim.count, h.lim.seq, h.lim.servers, h.lim.taken, h.lim.tasks, h.lim.beats, by rw [cutAt_done]; exact h.lim.done⟩ h.life (Nat.le_refl _)
theorem FrD.crash (k : Int) (h : FrD W wB wr a b LB N s d life R BA LA m c1 c2 mcs md []) (hN : N ≤ 33000000) : ∃ j s' d', 1 ≤ j ∧ j < 1099511627776 ∧ Dk.find (d.crash k).files Ag.bootName = some (Lib.itoa j) ∧ Ag.boots (Ag.fresh 3 j) (d.crash k) = (s', d', 0) ∧ Ag.FI s' d' (life + 1) R (N + 1) ∧ Ag.Lim s' d' (N + 1) ∧ s'.epoch = 0 := by
  have hi := h.inv
  rw [List.append_nil] at hi
  obtain ⟨j, h1, h2, h3, h4, h5, h6⟩ := hi.fall k (by omega) 3 (life + 1)
  have hL : Ag.LimG (Ag.fresh 3 j) (d.crash k) N N (2 * N) := ⟨⟨by show 0 ≤ j; omega, by show j ≤ _; omega⟩, ⟨Int.le_refl _, by show (0 : Int) ≤ N; omega⟩, ⟨Int.le_refl _, by show (0 : Int) ≤ N; omega⟩, ⟨Int.le_refl _, by show (0 : Int) ≤ N; omega⟩, (by show (1 : Int) ≤ 3 ∧ (3 : Int) ≤ 5; decide), Int.le_refl _, Nat.zero_le _, fun p hp => (by have hp : p ∈ Ag.noBeats := hp; rw [List.eq_of_mem_replicate hp]; exact ⟨Int.le_refl _, by show (0 : Int) ≤ N; omega⟩), Nat.zero_le _⟩
  have hL2 := hL.boots
  generalize hr : Ag.boots (Ag.fresh 3 j) (d.crash k) = r at h4 h5 h6 hL2
  obtain ⟨s', d', e⟩ := r
  dsimp only at h4 h5 h6 hL2
  subst h4
  exact ⟨j, s', d', h1, h2, h3, hr, h5, hL2.mono (by omega) (by omega) (by omega), h6⟩
/-- the last message is kept -/
theorem FrD.keep {cs : Array Value} {m2 : Ag.MsgD} (h : FrD W wB wr a b LB N s d life R BA LA m c1 c2 mcs md E) (hb : Blk w' LB 51 cs) (hm : MsgIs cs m2) (hc : In64 m2.ctx) (hx : Ext (fun q => q = LB) wr w') : FrD W wB w' a b LB N s d life R BA LA m c1 c2 cs m2 E :=
  ⟨h.law.other h.last h.lb.2.1 (by decide) (by decide) (by decide) (by decide) (by decide) (by decide) hx, h.inv, h.lim, h.life, own_ext h.bs hx (fun g hg e => by have e : g = LB := e; have h1 := (h.bs.lt g hg).1; have h2 := h.lb.1; omega), own_ext h.lv hx (fun g hg e => by have e : g = LB := e; have h1 := (h.lv.lt g hg).1; have h2 := h.lb.1; omega), h.ap, h.len, h.few, hb, hm, hc, ⟨h.lb.1, h.lb.2.1, Nat.le_trans h.lb.2.2 hx.size⟩⟩
/-- a number is noted -/
theorem FrD.app {bt : Int} {A1 A2 : Option Addr} {k1 k2 : Nat} (h : FrD W wB wr a b LB N s d life R BA LA m c1 c2 mcs md [(bt, life)]) (hf : m + 1 ≤ N) (ho1 : w'.ownsRow wB.heap.size 3 1 (.slice A1 (m + 1) k1) (m + 1) ((R.flatMap fun p => [.int .i64 p.1]) ++ [.int .i64 bt])) (hx1 : Ext (fun q => (Value.slice BA m c1).ownBlock = some q) wr w') (hat1 : ∀ g, (Value.slice A1 (m + 1) k1).ownBlock = some g → (Value.slice BA m c1).ownBlock = some g ∨ wr.heap.size ≤ g)
    (ho2 : w''.ownsRow wB.heap.size 3 1 (.slice A2 (m + 1) k2) (m + 1) ((R.flatMap fun p => [.int .i64 p.2]) ++ [.int .i64 life])) (hx2 : Ext (fun q => (Value.slice LA m c2).ownBlock = some q) w' w'') (hat2 : ∀ g, (Value.slice A2 (m + 1) k2).ownBlock = some g → (Value.slice LA m c2).ownBlock = some g ∨ w'.heap.size ≤ g) : FrD W wB w'' a b LB N s d life (R ++ [(bt, life)]) A1 A2 (m + 1) k1 k2 mcs md [] := by
  have hb : W.heap.size ≤ wB.heap.size := Nat.le_trans h.lb.2.1 (Nat.le_of_lt h.lb.1)
  have hV := own_ext h.lv hx1 (fun g hg e => h.ap g e hg)
  have hl1 := h.law.row h.bs hb (by decide) (by decide) (by decide) (by decide) (by decide) (by decide) hx1
  have hl2 := hl1.row hV hb (by decide) (by decide) (by decide) (by decide) (by decide) (by decide) hx2
  have hlast1 := h.last.ext hx1 (fun e => by have h1 := (h.bs.lt LB e).1; have h2 := h.lb.1; omega)
  have hlast2 := hlast1.ext hx2 (fun e => by have h1 := (h.lv.lt LB e).1; have h2 := h.lb.1; omega)
  have hap1 : ∀ g, (Value.slice A1 (m + 1) k1).ownBlock = some g → (Value.slice LA m c2).ownBlock ≠ some g := fun g hg e => by
    rcases hat1 g hg with h9 | h9
    · exact h.ap g h9 e
    · have h8 := (h.lv.lt g e).2
      omega
  have hS := own_ext ho1 hx2 (fun g hg e => hap1 g hg e)
  refine ⟨hl2, by rw [List.append_nil]; exact h.inv, h.lim, h.life, by rw [List.flatMap_append]; simpa using hS, by rw [List.flatMap_append]; simpa using ho2, fun g hg e => ?_, by rw [List.length_append, h.len]; rfl, hf, hlast2, h.lm, h.lc, ⟨h.lb.1, h.lb.2.1, Nat.le_trans h.lb.2.2 (Nat.le_trans hx1.size hx2.size)⟩⟩
  rcases hat2 g e with h9 | h9
  · exact hap1 g hg h9
  · have h8 := (ho1.lt g hg).2
    omega
theorem FrD.sl (h : FrD W wB wr a b LB N s d life R BA LA m c1 c2 mcs md E) : Sl wr 1 BA m (R.map fun p => [Value.int .i64 p.1]) ∧ Sl wr 1 LA m (R.map fun p => [Value.int .i64 p.2]) :=
  ⟨Sl.of_own (f := fun p : Int × Int => [Value.int .i64 p.1]) (fun _ => rfl) h.bs h.len.symm, Sl.of_own (f := fun p : Int × Int => [Value.int .i64 p.2]) (fun _ => rfl) h.lv h.len.symm⟩
end

theorem ZTDeed17 : ZeroT Tryz.prog 53 52 := .of (by kernel_rfl)
theorem Ag.Lim.msg {s : Ag.AgD} {d : Dk.DiskD} {N : Nat} {s' : Ag.AgD} {d' : Dk.DiskD} {m : Ag.MsgD} {er : Int} (h : Ag.Lim s d N) (hN : N ≤ 33000000) (he : Ag.tick s d = (s', d', some m, er)) : In64 m.ctx := by
  have hs : ∀ (s : Ag.AgD) (d : Dk.DiskD) (C Q D : Nat), Ag.LimG s d C Q D → Q ≤ 33000000 → In64 (Ag.send s).2.ctx := by
    intro s d C Q D h hQ
    have h1 := h.boot
    have h2 := h.seq
    unfold Ag.send In64
    split
    · show -9223372036854775808 ≤ s.boot ∧ s.boot ≤ 9223372036854775807
      omega
    · show -9223372036854775808 ≤ s.seq + 1 ∧ s.seq + 1 ≤ 9223372036854775807
      omega
  have h0 : Ag.LimG { s with clock := s.clock + 1 } d (N + 1) N (2 * N) := ⟨h.boot, by have := h.clock; show 0 ≤ s.clock + 1 ∧ s.clock + 1 ≤ ((N + 1 : Nat) : Int); omega, h.count, h.seq, h.servers, h.taken, h.tasks, fun p hp => by have := h.beats p hp; omega, h.done⟩
  have hA : Ag.LimG (Ag.tickA { s with clock := s.clock + 1 } d).1 (Ag.tickA { s with clock := s.clock + 1 } d).2.1 (N + 1) N (2 * N + 1) := by
    unfold Ag.tickA
    split
    · exact h0.boots
    · exact h0.mono (Nat.le_refl _) (Nat.le_refl _) (by omega)
  unfold Ag.tick at he
  generalize Ag.tickA { s with clock := s.clock + 1 } d = r at hA he
  have hB : Ag.LimG (Ag.tickB r.1 r.2.1).1 (Ag.tickB r.1 r.2.1).2.1 (N + 1) N (2 * N + 2) := by
    unfold Ag.tickB
    split
    · exact hA.yields
    · exact hA.mono (Nat.le_refl _) (Nat.le_refl _) (by omega)
  split at he
  · simp at he
  · generalize Ag.tickB r.1 r.2.1 = u at hB he
    split at he
    · simp at he
    · split at he
      · simp at he
      · simp only [Prod.mk.injEq, Option.some.injEq] at he
        rw [← he.2.2.1]
        exact hs _ _ _ _ _ hB hN
set_option maxRecDepth 20000 in
set_option maxHeartbeats 16000000 in
theorem fresh_law (A : Option Addr) (n c : Nat) (l : List LDeed) (W : World) (htab : HTab W) (hl : Sl W 52 A n (l.map LDeed.cells)) (hn : n ≤ 1048576) (hok : ∀ x ∈ l, x.Read W) :
    Calls Tryz.prog 5 #[.slice A n c] W fun e W' => e = .returned (.bool true) ∧ Ext Nothing W W' := by
  go_enter Tryz.func5, Tryz.ntmps5
  go_upto_region 5 with (first | go_skip | go_guarded | ((with_reducible refine isBd 30 rfl ?_); refine wpList_build rfl _ _ rfl #[.int .i64 2, .int .i64 0, .int .i64 0, .bool false, .bool false, .int .i64 0, .int .i64 0, .int .i64 0] (by kernel_rfl) ?_) | (go_at_call 7; (with_reducible refine (dkNew (M := Nothing) W (fun _ => False) (fun _ e => e.elim)).mono ?_); rintro e w1 ⟨b, rfl, hd, hb, hx0⟩) | (go_at_call 6; (with_reducible refine (lwStart 3 hd hb hx0 htab (by decide) (by decide)).mono ?_); rintro e w2 ⟨a, rfl, hL0, ha, hxS⟩; have hL0 : Law W w2 a b ⟨3, 1, false, 0, 0, 0, 0, 0, Ag.noBeats, [], 0, 0⟩ ⟨Ag.bootFile 1, [], -1⟩ := hL0))
  go_upto_region 11 with (first | go_skip | go_guarded | ((with_reducible refine isBd 51 rfl ?_); refine wpList_build rfl _ _ rfl #[.int .i64 0, .int .i64 0, .int .i64 0, .int .i64 0, .int .i64 0, .int .i64 0, .int .i64 0, .bool false, .int .i64 0, .int .i64 0, .int .i64 0, .int .i64 0, .slice none 0 0, .slice none 0 0, .slice none 0 0, .slice none 0 0, .int .i64 0, .int .i64 0, .int .i64 0, .int .i64 0, .int .i64 0, .int .i64 0, .int .i64 0, .slice none 0 0, .int .i64 0, .bool false, .int .i64 0, .int .i64 0, .int .i64 0, .bool false, .bool false, .int .i64 0, .int .i64 0, .int .i64 0, .slice none 0 0, .int .i64 0, .int .i64 0, .int .i64 0, .slice none 0 0, .slice none 0 0, .bool false, .slice none 0 0, .slice none 0 0, .int .i64 0, .int .i64 0, .slice none 0 0] (by kernel_rfl) ?_) | ((with_reducible refine isAl 51 rfl ?_); refine wpList_alloc_any rfl _ rfl ZTMsg ?_; intro z hz9) | ((with_reducible refine isSt 51 rfl ?_); refine wpList_store_new rfl _ _ _ rfl STMsg z hz9 rfl rfl #[.int .i64 0, .int .i64 0, .int .i64 0, .int .i64 0, .int .i64 0, .int .i64 0, .int .i64 0, .bool false, .int .i64 0, .int .i64 0, .int .i64 0, .int .i64 0, .slice none 0 0, .slice none 0 0, .slice none 0 0, .slice none 0 0, .int .i64 0, .int .i64 0, .int .i64 0, .int .i64 0, .int .i64 0, .int .i64 0, .int .i64 0, .slice none 0 0, .int .i64 0, .bool false, .int .i64 0, .int .i64 0, .int .i64 0, .bool false, .bool false, .int .i64 0, .int .i64 0, .int .i64 0, .slice none 0 0, .int .i64 0, .int .i64 0, .int .i64 0, .slice none 0 0, .slice none 0 0, .bool false, .slice none 0 0, .slice none 0 0, .int .i64 0, .int .i64 0, .slice none 0 0] rfl rfl rfl ?_; clear hz9))
  have hxm : Ext Nothing w2 (w2.alloc (.cells #[.int .i64 0, .int .i64 0, .int .i64 0, .int .i64 0, .int .i64 0, .int .i64 0, .int .i64 0, .bool false, .int .i64 0, .int .i64 0, .int .i64 0, .int .i64 0, .slice none 0 0, .slice none 0 0, .slice none 0 0, .slice none 0 0, .int .i64 0, .int .i64 0, .int .i64 0, .int .i64 0, .int .i64 0, .int .i64 0, .int .i64 0, .slice none 0 0, .int .i64 0, .bool false, .int .i64 0, .int .i64 0, .int .i64 0, .bool false, .bool false, .int .i64 0, .int .i64 0, .int .i64 0, .slice none 0 0, .int .i64 0, .int .i64 0, .int .i64 0, .slice none 0 0, .slice none 0 0, .bool false, .slice none 0 0, .slice none 0 0, .int .i64 0, .int .i64 0, .slice none 0 0] 51)) := Ext.auto
  have hB0 := Blk.new w2 51 #[.int .i64 0, .int .i64 0, .int .i64 0, .int .i64 0, .int .i64 0, .int .i64 0, .int .i64 0, .bool false, .int .i64 0, .int .i64 0, .int .i64 0, .int .i64 0, .slice none 0 0, .slice none 0 0, .slice none 0 0, .slice none 0 0, .int .i64 0, .int .i64 0, .int .i64 0, .int .i64 0, .int .i64 0, .int .i64 0, .int .i64 0, .slice none 0 0, .int .i64 0, .bool false, .int .i64 0, .int .i64 0, .int .i64 0, .bool false, .bool false, .int .i64 0, .int .i64 0, .int .i64 0, .slice none 0 0, .int .i64 0, .int .i64 0, .int .i64 0, .slice none 0 0, .slice none 0 0, .bool false, .slice none 0 0, .slice none 0 0, .int .i64 0, .int .i64 0, .slice none 0 0]
  have hzW := hL0.ext.size
  have hLB := hB0.lt
  have hLm := hL0.e0 hxm
  generalize hLq : w2.heap.size = LB at hB0 hzW hLB ⊢
  clear hLq hL0 hxS hx0 hd ha
  generalize (w2.alloc (.cells #[.int .i64 0, .int .i64 0, .int .i64 0, .int .i64 0, .int .i64 0, .int .i64 0, .int .i64 0, .bool false, .int .i64 0, .int .i64 0, .int .i64 0, .int .i64 0, .slice none 0 0, .slice none 0 0, .slice none 0 0, .slice none 0 0, .int .i64 0, .int .i64 0, .int .i64 0, .int .i64 0, .int .i64 0, .int .i64 0, .int .i64 0, .slice none 0 0, .int .i64 0, .bool false, .int .i64 0, .int .i64 0, .int .i64 0, .bool false, .bool false, .int .i64 0, .int .i64 0, .int .i64 0, .slice none 0 0, .int .i64 0, .int .i64 0, .int .i64 0, .slice none 0 0, .slice none 0 0, .bool false, .slice none 0 0, .slice none 0 0, .int .i64 0, .int .i64 0, .slice none 0 0] 51)) = wB at hB0 hLB hLm ⊢
  have h0 : FrD W wB wB a b LB 0 ⟨3, 1, false, 0, 0, 0, 0, 0, Ag.noBeats, [], 0, 0⟩ ⟨Ag.bootFile 1, [], -1⟩ 0 [] none none 0 0 0 #[.int .i64 0, .int .i64 0, .int .i64 0, .int .i64 0, .int .i64 0, .int .i64 0, .int .i64 0, .bool false, .int .i64 0, .int .i64 0, .int .i64 0, .int .i64 0, .slice none 0 0, .slice none 0 0, .slice none 0 0, .slice none 0 0, .int .i64 0, .int .i64 0, .int .i64 0, .int .i64 0, .int .i64 0, .int .i64 0, .int .i64 0, .slice none 0 0, .int .i64 0, .bool false, .int .i64 0, .int .i64 0, .int .i64 0, .bool false, .bool false, .int .i64 0, .int .i64 0, .int .i64 0, .slice none 0 0, .int .i64 0, .int .i64 0, .int .i64 0, .slice none 0 0, .slice none 0 0, .bool false, .slice none 0 0, .slice none 0 0, .int .i64 0, .int .i64 0, .slice none 0 0] ⟨0, 0, 0, 0, 0, 0, 0, 0, 0, 0⟩ [] :=
    ⟨hLm, ⟨⟨rfl, fun x hx => (by cases hx), by show (-1 : Int) ≤ -1; decide⟩, by show (1 : Int) ≤ 1; decide, by show (1 : Int) ≤ _; decide, fun p hp => (by cases hp), fun _ => rfl, Nat.le_refl _⟩, limOf (by decide) (by decide) (by decide) (by decide) (by decide) (by decide) (by decide) (by decide) (by decide), ⟨by omega, by omega⟩, World.ownsRow_nil _ _ _ _, World.ownsRow_nil _ _ _ _, fun g hg => (by cases hg), rfl, Nat.le_refl _, hB0, ⟨rfl, rfl, rfl, rfl, rfl, rfl, rfl, rfl, rfl, rfl, rfl, rfl⟩, (by show In64 0; unfold In64; omega), ⟨hLB, hzW, Nat.le_refl _⟩⟩
  clear hLm hB0
  go_loopw [4, 5, 6, 7, 8, 9, 11] (fun av ev lf ep bv lvv ki wr => ∃ t : Nat, t ≤ n ∧ ki = .int .i64 t ∧ ∃ a N' s' d' life R BA LA m' k1' k2' mcs' md', N' ≤ 13 * t ∧ av = .pointer (some ⟨a, 0, none⟩) ∧ ev = .int .i64 0 ∧ lf = .int .i64 life ∧ ep = .int .i64 s'.epoch ∧ bv = .slice BA m' k1' ∧ lvv = .slice LA m' k2' ∧ FrD W wB wr a b LB N' s' d' life R BA LA m' k1' k2' mcs' md' []) (fun _ _ _ _ _ _ ki _ => n - (intOf ki).toNat)
  case atStart => exact ⟨0, Nat.zero_le _, rfl, a, 0, _, _, 0, [], none, none, 0, 0, 0, _, _, by omega, rfl, rfl, rfl, rfl, rfl, rfl, h0⟩
  case round =>
    clear h0
    obtain ⟨t, ht, rfl, a, N, s, d, life, R, BA, LA, m, c1, c2, mcs, md, hN, rfl, rfl, rfl, rfl, rfl, rfl, hD⟩ := hrel
    by_cases hlt : t < n
    · obtain ⟨hj, q, off, hAe, hce⟩ := hl.get (f := LDeed.cells) hD.law.ext hlt
      have hrd := hok _ (List.getElem_mem hj)
      generalize l[t] = x at hce hrd
      have HRD := Lib.hid hrd
      have HX64 := Lib.hid hrd.n
      have HT := Lib.hid (show t + 1 ≤ n ∧ n ≤ 1048576 from ⟨hlt, hn⟩)
      have HN2 := Lib.hid hN
      have HN3 := Lib.hid (show N ≤ 33000000 by omega)
      have hcD : ∀ j u, x.cells.toArray.toList[j]? = some u → wr.cell? ⟨q, off + t * 52 + j, none⟩ = some u := fun j u hu => hce j u (by simpa using hu)
      have hone := LDeed.one hrd
      have hsz := LDeed.size hrd.len
      have hk0 : (0 : Int) ≤ (t : Int) := by omega
      have hk1 : (t : Int) < n := by omega
      subst hAe
      clear hce hrd hN hlt hj
      go_upto_region 14 with (first | go_skip | go_guarded | ((with_reducible refine isLd 53 rfl ?_); refine wpList_load_at rfl 53 _ rfl STDeed17 q (off + t * 52) rfl x.cells.toArray hcD hsz ?_) | ((with_reducible refine isAl 53 rfl ?_); refine wpList_alloc_any rfl _ rfl ZTDeed17 ?_; intro z hz9) | ((with_reducible refine isSt 53 rfl ?_); refine wpList_store_new rfl _ _ _ rfl STDeed17 z hz9 rfl rfl x.cells.toArray rfl hsz hone ?_; clear hz9))
      have hxX : Ext Nothing wr (wr.alloc (.cells x.cells.toArray 53)) := Ext.auto
      have hX2 := Blk.new wr 53 x.cells.toArray
      have hD2 := hD.e0 hxX
      have hXL := hD.last.lt
      generalize hXq : wr.heap.size = X at hX2 hXL ⊢
      have HXL := Lib.hid (show X ≠ LB by omega)
      clear hXq hXL hD hcD hxX hk0 hk1
      generalize (wr.alloc (.cells x.cells.toArray 53)) = w2x at hX2 hD2 ⊢
      have x0 : w2x.cell? ⟨X, 0, none⟩ = some (.int .i64 x.kind) := hX2.cell 0
      go_upto_region 15 with (first | go_skip | go_guarded | (go_at_call 8; (with_reducible refine (lawPick x.kind 6 w2x HRD.out.k (by omega) (by omega)).mono ?_); rintro e wP ⟨rfl, hwp⟩; rw [hwp]; clear hwp))
      have hp := pickZ_lt x.kind (n := 6) (by omega)
      generalize hkd : pickZ x.kind 6 = kd at hp ⊢
      have HKD := Lib.hid hkd
      have hkc : kd = 0 ∨ kd = 1 ∨ kd = 2 ∨ kd = 3 ∨ kd = 4 ∨ kd = 5 := by omega
      clear hp hkd
      have hD3 := hD2
      have hX3 := hX2
      clear hD2 hX2 x0
      obtain ⟨w3, rfl⟩ : ∃ z : World, z = w2x := ⟨_, rfl⟩
      rcases hkc with rfl | rfl | rfl | rfl | rfl | rfl
      · have hpk := pickZ_lt x.n (n := 12) (by omega)
        generalize hpq : pickZ x.n 12 = pk at hpk
        have HPK := Lib.hid hpq
        clear hpq
        go_upto_region 17 with (first | go_skip | go_guarded)
        go_loopw [6, 7, 8, 9, 13] (fun lf ep bv lvv kv wr => ∃ j : Nat, (j : Int) ≤ pk + 1 ∧ kv = .int .i64 j ∧ ∃ N' s' d' life R BA LA m' k1' k2' mcs' md', N' ≤ 13 * t + j ∧ lf = .int .i64 life ∧ ep = .int .i64 s'.epoch ∧ bv = .slice BA m' k1' ∧ lvv = .slice LA m' k2' ∧ FrD W wB wr a b LB N' s' d' life R BA LA m' k1' k2' mcs' md' [] ∧ Blk wr X 53 x.cells.toArray) (fun _ _ _ _ kv _ => 14 - (intOf kv).toNat)
        case atStart => exact ⟨0, by omega, rfl, N, s, d, life, R, BA, LA, m, c1, c2, mcs, md, by have := HN2.out; omega, rfl, rfl, rfl, rfl, hD3, hX3⟩
        case round =>
          clear hD3 hX3
          obtain ⟨j, hj, rfl, N, s, d, life, R, BA, LA, m, c1, c2, mcs, md, hN, rfl, rfl, rfl, rfl, hD, hX⟩ := hrel
          have x1 : wr.cell? ⟨X, 1, none⟩ = some (.int .i64 x.n) := hX.cell 1
          by_cases hle : (j : Int) ≤ pk
          · have HLE := Lib.hid (show (j : Int) ≤ pk ∧ pk < 12 from ⟨hle, hpk.2⟩)
            have HN := Lib.hid hN
            have HN3 := Lib.hid (show N ≤ 33000000 by have := HT.out; omega)
            have HMN := Lib.hid hD.few
            have HLIM := Lib.hid hD.lim
            have hlf := hD.life
            obtain ⟨hlf0, hlf1⟩ := hlf
            have hlf2 : life < 1099511627776 := by have := HN3.out; omega
            generalize he : Ag.tick s d = r
            obtain ⟨s', d', om, er⟩ := r
            have hcall := lwTick hD.law hD.lim HN3.out he
            clear hN hlf1
            go_upto_region 20 with (first | go_skip | go_guarded | (go_at_call 8; (with_reducible refine (lawPick x.n 12 wr HX64.out (by omega) (by omega)).mono ?_); rintro e wP ⟨rfl, hwp⟩; rw [hwp]; clear hwp; rw [HPK.out]) | (go_at_call 9; (with_reducible refine hcall.mono ?_); rintro e w4 ⟨v, rfl, hm, hl4, hx4⟩))
            obtain ⟨h4, hbad⟩ := hD.tick he hl4 hx4
            have hX4 := hX.law hx4 (by decide) (by decide) (by decide)
            clear hcall hle x1 hX hD
            go_cut [64] from 58 to 64 (fun e wx => e = .bool (s.epoch != 0 && s'.epoch == 0) ∧ Ext Nothing w4 wx)
            case first =>
              cases z1 : (s.epoch != 0) with
              | false =>
                go_wp2_with (first | go_skip | go_guarded)
                go_meet
                exact ⟨by rw [z1]; rfl, Ext.refl _ _⟩
              | true =>
                cases z2 : (s'.epoch == 0) with
                | false =>
                  go_wp2_with (first | go_skip | go_guarded | (go_at_call 10; (with_reducible refine (lwEpoch hl4).mono ?_); rintro e wE ⟨rfl, hwe⟩; rw [hwe]; clear hwe))
                  go_meet
                  exact ⟨by rw [z1, z2]; rfl, Ext.refl _ _⟩
                | true =>
                  go_wp2_with (first | go_skip | go_guarded | (go_at_call 10; (with_reducible refine (lwEpoch hl4).mono ?_); rintro e wE ⟨rfl, hwe⟩; rw [hwe]; clear hwe))
                  go_meet
                  exact ⟨by rw [z1, z2]; rfl, Ext.refl _ _⟩
            case rest =>
              obtain ⟨rfl, hxc⟩ := hcut
              have hl5 := (h4.e0 hxc).law
              obtain ⟨w5, rfl⟩ : ∃ z : World, z = wc := ⟨_, rfl⟩
              go_upto_if 64 with (first | go_skip | go_guarded)
              go_cut [6] from 64 to 66 (fun e wx => e = .int .i64 (Ag.life1 s s' life) ∧ Ext Nothing w5 wx)
              case first =>
                cases zz : (s.epoch != 0 && s'.epoch == 0) with
                | false =>
                  have HLF := Lib.hid (show Ag.life1 s s' life = life by unfold Ag.life1; rw [if_neg (fun e => by rw [Bool.and_eq_false_iff] at zz; rcases zz with z | z; simp at z; exact e.1 z; simp at z; exact z e.2)])
                  go_wp2_with (first | go_skip | go_guarded)
                  go_meet
                  exact ⟨by rw [HLF.out], Ext.refl _ _⟩
                | true =>
                  have HLF := Lib.hid (show Ag.life1 s s' life = life + 1 by unfold Ag.life1; rw [Bool.and_eq_true] at zz; rw [if_pos ⟨by simpa using zz.1, by simpa using zz.2⟩])
                  go_wp2_with (first | go_skip | go_guarded)
                  go_meet
                  exact ⟨by rw [HLF.out], Ext.refl _ _⟩
              case rest =>
                obtain ⟨rfl, hxc2⟩ := hcut
                have h6 := (h4.e0 hxc).e0 hxc2
                have hX6 := (hX4.e0 hxc).e0 hxc2
                have hl6 := h6.law
                generalize hlq : Ag.life1 s s' life = lf2 at h6 hbad ⊢
                clear hlq
                obtain ⟨w6, rfl⟩ : ∃ z : World, z = wc := ⟨_, rfl⟩
                cases om with
                | none =>
                  have hm : v = .slice none 0 0 := hm
                  subst hm
                  have h6' : FrD W wB w6 a b LB (N + 1) s' d' lf2 R BA LA m c1 c2 mcs md [] := h6
                  go_wp2_with (first | go_skip | go_guarded | (go_at_call 10; (with_reducible refine (lwEpoch hl6).mono ?_); rintro e wE ⟨rfl, hwe⟩; rw [hwe]; clear hwe))
                  go_roundw
                  case rel => exact ⟨j + 1, by have := HLE.out; omega, by go_num, (N + 1), s', d', lf2, R, BA, LA, m, c1, c2, mcs, md, by have := HN.out; omega, rfl, rfl, rfl, rfl, h6', hX6⟩
                  case measure => have := HLE.out; simp [intOf]; omega
                | some mm =>
                  obtain ⟨g, cs, rfl, hG4, hGI⟩ := hm
                  have hG := (hG4.e0 hxc).e0 hxc2
                  have hmc := Ag.Lim.msg HLIM.out HN3.out he
                  cases hop : (mm.op == 5) with
                  | false =>
                    have h6' := h6
                    rw [show Ag.extraF lf2 (some mm) = [] from if_neg (by simpa using hop)] at h6'
                    go_upto_region 25 with (first | go_skip | go_guarded | (go_at_call 10; (with_reducible refine (lwEpoch hl6).mono ?_); rintro e wE ⟨rfl, hwe⟩; rw [hwe]; clear hwe) | ((with_reducible refine isLd 51 rfl ?_); refine wpList_load_blk rfl 51 _ rfl STMsg g rfl cs hG hGI.size ?_) | ((with_reducible refine isSt 51 rfl ?_); refine wpList_store_blk rfl 51 _ _ rfl STMsg LB rfl cs rfl h6'.last h6'.lm.size hGI.size hGI.one ?_; intro w7 hb7 hx7))
                    have h7 := h6'.keep hb7 hGI hmc hx7
                    have hX7 := hX6.ext hx7 (fun e => HXL.out e)
                    have g16 : w7.cell? ⟨g, 16, none⟩ = some (.int .i64 mm.op) := by
                      rcases Decidable.em (g = LB) with e | e
                      · subst e; exact (hb7.cell 16).trans hGI.op
                      · exact hx7.cell ((hG.cell 16).trans hGI.op) (fun e9 => e e9)
                    go_wp2_with (first | go_skip | go_guarded)
                    go_roundw
                    case rel => exact ⟨j + 1, by have := HLE.out; omega, by go_num, (N + 1), s', d', lf2, R, BA, LA, m, c1, c2, cs, mm, by have := HN.out; omega, rfl, rfl, rfl, rfl, h7, hX7⟩
                    case measure => have := HLE.out; simp [intOf]; omega
                  | true =>
                    have h6' := h6
                    rw [show Ag.extraF lf2 (some mm) = [(mm.boot, lf2)] from if_pos (by simpa using hop)] at h6'
                    have HBAD := Lib.hid (show ∀ p ∈ R, p.1 = mm.boot → p.2 = lf2 from fun p hp e => by
                      have h9 : (decide (mm.op = 5) && R.any (fun p => decide (p.1 = mm.boot) && decide (p.2 ≠ lf2))) = false := hbad
                      rw [show decide (mm.op = 5) = true from decide_eq_true (by simpa using hop), Bool.true_and, List.any_eq_false] at h9
                      have h8 := h9 p hp
                      rcases Decidable.em (p.2 = lf2) with z | z
                      · exact z
                      · exact absurd (by simp [e, z]) h8)
                    go_upto_region 25 with (first | go_skip | go_guarded | (go_at_call 10; (with_reducible refine (lwEpoch hl6).mono ?_); rintro e wE ⟨rfl, hwe⟩; rw [hwe]; clear hwe) | ((with_reducible refine isLd 51 rfl ?_); refine wpList_load_blk rfl 51 _ rfl STMsg g rfl cs hG hGI.size ?_) | ((with_reducible refine isSt 51 rfl ?_); refine wpList_store_blk rfl 51 _ _ rfl STMsg LB rfl cs rfl h6'.last h6'.lm.size hGI.size hGI.one ?_; intro w7 hb7 hx7))
                    have h7 := h6'.keep hb7 hGI hmc hx7
                    have hX7 := hX6.ext hx7 (fun e => HXL.out e)
                    have hG7 : Blk w7 g 51 cs := by
                      rcases Decidable.em (g = LB) with e | e
                      · subst e; exact hb7
                      · exact hG.ext hx7 (fun e9 => e e9)
                    have g16 : w7.cell? ⟨g, 16, none⟩ = some (.int .i64 mm.op) := (hG7.cell 16).trans hGI.op
                    have hsl := h7.sl
                    have hRm : R.length = m := h7.len
                    go_upto_region 27 with (first | go_skip | go_guarded)
                    clear hG g16 hG4
                    have hmb : m ≤ 67108863 := by have h9 := HMN.out; have h8 := HN3.out; omega
                    go_loopw [16] (fun jv wr => ∃ i : Nat, i ≤ m ∧ jv = .int .i64 i ∧ Ext Nothing w7 wr) (fun jv _ => m - (intOf jv).toNat)
                    case atStart => exact ⟨0, Nat.zero_le _, rfl, Ext.refl _ _⟩
                    case round =>
                      obtain ⟨i, hi, rfl, hxr2⟩ := hrel
                      have g31 : wr.cell? ⟨g, 31, none⟩ = some (.int .i64 mm.boot) := ((hG7.e0 hxr2).cell 31).trans hGI.boot
                      by_cases hil : i < m
                      · obtain ⟨hj1, q1, o1, hA1, hc1⟩ := hsl.1.get (f := fun p : Int × Int => [Value.int .i64 p.1]) hxr2 hil
                        obtain ⟨hj2, q2, o2, hA2, hc2⟩ := hsl.2.get (f := fun p : Int × Int => [Value.int .i64 p.2]) hxr2 hil
                        have hpr := HBAD.out _ (List.getElem_mem hj1)
                        generalize R[i] = p at hc1 hc2 hpr
                        obtain ⟨pb, pl⟩ := p
                        dsimp only at hpr
                        have s1 : wr.cell? ⟨q1, o1 + i, none⟩ = some (.int .i64 pb) := by have h9 := hc1 0 _ rfl; simpa using h9
                        have s2 : wr.cell? ⟨q2, o2 + i, none⟩ = some (.int .i64 pl) := by have h9 := hc2 0 _ rfl; simpa using h9
                        have HIL := Lib.hid hil
                        have hk0 : (0 : Int) ≤ (i : Int) := by omega
                        have hk1 : (i : Int) < m := by omega
                        have HHP := Lib.hid hpr
                        have HA := Lib.hid (And.intro hA1 hA2)
                        rw [hA1, hA2]
                        clear hc1 hc2 hil hpr hA1 hA2 h7 hsl h6' h6 hX7
                        go_upto_region 29 with (first | go_skip | go_guarded)
                        cases e1 : (pb == mm.boot) with
                        | false =>
                          go_quiet (fail)
                          have hdq := (Ext.refl Nothing wr).drewN nq
                          generalize wr.drewN nq = w8 at hdq ⊢
                          go_wp2_with (first | go_skip | go_guarded)
                          go_roundw
                          case rel => exact ⟨i + 1, HIL.out, by go_num, hxr2.tr hdq⟩
                          case measure => have := HIL.out; simp [intOf]; omega
                        | true =>
                          have e2 : (pl != lf2) = false := by have h9 := HHP.out (by simpa using e1); simp [h9]
                          go_quiet (fail)
                          have hdq := (Ext.refl Nothing wr).drewN nq
                          generalize wr.drewN nq = w8 at hdq ⊢
                          go_wp2_with (first | go_skip | go_guarded)
                          go_roundw
                          case rel => exact ⟨i + 1, HIL.out, by go_num, hxr2.tr hdq⟩
                          case measure => have := HIL.out; simp [intOf]; omega
                      · have hnl2 : ¬ ((i : Int) < m) := by omega
                        have h8 := h7.e0 hxr2
                        have hX8 := hX7.e0 hxr2
                        obtain ⟨w8, rfl⟩ : ∃ z : World, z = wr := ⟨_, rfl⟩
                        have hm9 : m < 67108864 := by have h9 := HMN.out; have h8 := HN3.out; omega
                        have hbw := h8.lb.2.2
                        have hxa : Ext Nothing w8 (w8.alloc (.cells #[.int .i64 mm.boot] 3)) := Ext.auto
                        clear h7 hX7 hxr2 hb7 hx7 hsl
                        go_wp2_with (first | go_skip | go_guarded | ((with_reducible refine isBs 34 rfl ?_); refine wpList_slice1 rfl 34 _ rfl SRIntG #[.int .i64 mm.boot] rfl rfl ?_) | (at_builtin; refine wpList_app1a rfl _ _ 34 rfl wB.heap.size SRIntG (.slice BA m c1) m _ rfl (own_ext h8.bs hxa (fun g hg e => e)) w8.heap.size 1 #[.int .i64 mm.boot] rfl (Blk.new _ _ _) rfl rfl hm9 (Nat.le_trans hbw hxa.size) ?_; intro A9 k9 w9 ho9 hgr9 hat9; have hx9 : Ext (fun q => (Value.slice BA m c1).ownBlock = some q) w8 w9 := (hxa.mono (fun _ _ e => e.elim) : Ext (fun q => (Value.slice BA m c1).ownBlock = some q) w8 _).grown hgr9 (fun g hg => .inr hg); have hV9 := own_ext h8.lv hx9 (fun g hg e => h8.ap g e hg); have hxb : Ext Nothing w9 (w9.alloc (.cells #[.int .i64 lf2] 3)) := Ext.auto) | ((with_reducible refine isBs 34 rfl ?_); refine wpList_slice1 rfl 34 _ rfl SRIntG #[.int .i64 lf2] rfl rfl ?_) | (at_builtin; refine wpList_app1a rfl _ _ 34 rfl wB.heap.size SRIntG (.slice LA m c2) m _ rfl (own_ext hV9 hxb (fun g hg e => e)) w9.heap.size 1 #[.int .i64 lf2] rfl (Blk.new _ _ _) rfl rfl hm9 (Nat.le_trans hbw (Nat.le_trans hx9.size hxb.size)) ?_; intro A10 k10 w10 ho10 hgr10 hat10))
                        have hx10 : Ext (fun q => (Value.slice LA m c2).ownBlock = some q) w9 w10 := (hxb.mono (fun _ _ e => e.elim) : Ext (fun q => (Value.slice LA m c2).ownBlock = some q) w9 _).grown hgr10 (fun g hg => .inr hg)
                        have h10 := h8.app (by have h9 := HMN.out; omega) ho9 hx9 (fun g hg => by rcases hat9 with e | e; rw [e] at hg; exact .inl hg; rw [e] at hg; have h9 := Option.some.inj hg; have h8 := hxa.size; exact .inr (by omega)) ho10 hx10 (fun g hg => by rcases hat10 with e | e; rw [e] at hg; exact .inl hg; rw [e] at hg; have h9 := Option.some.inj hg; have h8 := hxb.size; exact .inr (by omega))
                        have hX10 := (hX8.ext hx9 (fun e => own_ne h8.bs hX8 (by decide) e)).ext hx10 (fun e => own_ne hV9 (hX8.ext hx9 (fun e => own_ne h8.bs hX8 (by decide) e)) (by decide) e)
                        go_roundw
                        case rel => exact ⟨j + 1, by have := HLE.out; omega, by go_num, (N + 1), s', d', lf2, (R ++ [(mm.boot, lf2)]), A9, A10, (m + 1), k9, k10, cs, mm, by have := HN.out; omega, rfl, rfl, rfl, rfl, h10, hX10⟩
                        case measure => have := HLE.out; simp [intOf]; omega
          · have hnl : ¬ ((j : Int) ≤ pk) := hle
            have HN := Lib.hid hN
            go_wp2_with (first | go_skip | go_guarded | (go_at_call 8; (with_reducible refine (lawPick x.n 12 wr HX64.out (by omega) (by omega)).mono ?_); rintro e wP ⟨rfl, hwp⟩; rw [hwp]; clear hwp; rw [HPK.out]))
            go_roundw
            case rel => exact ⟨t + 1, HT.out.1, by go_num, a, N, s, d, life, R, BA, LA, m, c1, c2, mcs, md, by have := HN.out; omega, rfl, rfl, rfl, rfl, rfl, rfl, hD⟩
            case measure => have := HT.out; simp [intOf]; omega
      · have hans := lawAnswer mcs x.cells.toArray md x.n x.code x.val x.A x.m x.c w3 hD3.lm (LDeed.ans HRD.out.len)
        generalize he : Ag.take s d ⟨10, md.dest, md.frm, md.ctx, x.n, md.op, md.boot, md.epoch, x.code, x.val⟩ x.l = r
        obtain ⟨s', d', er⟩ := r
        have hll : x.l.length ≤ 1048577 := by have h9 := HRD.out.al.len; have h8 := HRD.out.am; omega
        have HHE := Lib.hid (show ∀ cs8 w8, Ext Nothing w3 w8 → MsgIs cs8 ⟨10, md.dest, md.frm, md.ctx, x.n, md.op, md.boot, md.epoch, x.code, x.val⟩ → cs8[45]? = some (.slice x.A x.m x.c) → Calls Tryz.prog 14 #[.pointer (some ⟨a, 0, none⟩), .agg cs8] w8 fun e w' => e = .returned (.int .i64 er) ∧ Law W w' a b s' d' ∧ Ext (LawB W w8) w8 w' from fun cs8 w8 hx hI h45 =>
          lwTake (hD3.law.e0 hx) hD3.lim HN3.out hI hD3.lc h45 (HRD.out.al.ext0 (hD3.law.e0 hx).ext) HRD.out.am ((hD3.law.e0 hx).off HRD.out.al (by decide)) HRD.out.aid he)
        have hlf := hD3.life
        obtain ⟨hlf0, hlf1⟩ := hlf
        have hlf2 : life < 1099511627776 := by have h8 := HN3.out; omega
        clear hlf1
        go_upto_region 35 with (first | go_skip | go_guarded | ((with_reducible refine isLd 51 rfl ?_); refine wpList_load_blk rfl 51 _ rfl STMsg LB rfl mcs hD3.last hD3.lm.size ?_) | ((with_reducible refine isLd 53 rfl ?_); refine wpList_load_blk rfl 53 _ rfl STDeed17 X rfl x.cells.toArray hX3 hsz ?_) | (go_at_call 12; (with_reducible refine hans.mono ?_); rintro e w5 ⟨cs8, rfl, hI8, h458, hx5⟩) | (go_at_call 14; (refine (HHE.out cs8 w5 hx5 hI8 h458).mono ?_); rintro e w6 ⟨rfl, hl6, hx6⟩))
        have h6 := (hD3.e0 hx5).take hll he hl6 hx6
        clear hans hll hI8 h458 hx5
        go_cut [132] from 126 to 132 (fun e wx => e = .bool (s.epoch != 0 && s'.epoch == 0) ∧ Ext Nothing w6 wx)
        case first =>
          cases z1 : (s.epoch != 0) with
          | false =>
            go_wp2_with (first | go_skip | go_guarded)
            go_meet
            exact ⟨by rw [z1]; rfl, Ext.refl _ _⟩
          | true =>
            cases z2 : (s'.epoch == 0) with
            | false =>
              go_wp2_with (first | go_skip | go_guarded | (go_at_call 10; (with_reducible refine (lwEpoch hl6).mono ?_); rintro e wE ⟨rfl, hwe⟩; rw [hwe]; clear hwe))
              go_meet
              exact ⟨by rw [z1, z2]; rfl, Ext.refl _ _⟩
            | true =>
              go_wp2_with (first | go_skip | go_guarded | (go_at_call 10; (with_reducible refine (lwEpoch hl6).mono ?_); rintro e wE ⟨rfl, hwe⟩; rw [hwe]; clear hwe))
              go_meet
              exact ⟨by rw [z1, z2]; rfl, Ext.refl _ _⟩
        case rest =>
          obtain ⟨rfl, hxc⟩ := hcut
          have hl7 := (h6.e0 hxc).law
          obtain ⟨w7, rfl⟩ : ∃ z : World, z = wc := ⟨_, rfl⟩
          go_upto_if 132 with (first | go_skip | go_guarded)
          go_cut [6] from 132 to 134 (fun e wx => e = .int .i64 (Ag.life1 s s' life) ∧ Ext Nothing w7 wx)
          case first =>
            cases zz : (s.epoch != 0 && s'.epoch == 0) with
            | false =>
              have HLF := Lib.hid (show Ag.life1 s s' life = life by unfold Ag.life1; rw [if_neg (fun e => by rw [Bool.and_eq_false_iff] at zz; rcases zz with z | z; simp at z; exact e.1 z; simp at z; exact z e.2)])
              go_wp2_with (first | go_skip | go_guarded)
              go_meet
              exact ⟨by rw [HLF.out], Ext.refl _ _⟩
            | true =>
              have HLF := Lib.hid (show Ag.life1 s s' life = life + 1 by unfold Ag.life1; rw [Bool.and_eq_true] at zz; rw [if_pos ⟨by simpa using zz.1, by simpa using zz.2⟩])
              go_wp2_with (first | go_skip | go_guarded)
              go_meet
              exact ⟨by rw [HLF.out], Ext.refl _ _⟩
          case rest =>
            obtain ⟨rfl, hxc2⟩ := hcut
            have h8 := (h6.e0 hxc).e0 hxc2
            have hl8 := h8.law
            obtain ⟨w8, rfl⟩ : ∃ z : World, z = wc := ⟨_, rfl⟩
            go_wp2_with (first | go_skip | go_guarded | (go_at_call 10; (with_reducible refine (lwEpoch hl8).mono ?_); rintro e wE ⟨rfl, hwe⟩; rw [hwe]; clear hwe))
            go_roundw
            case rel => exact ⟨t + 1, HT.out.1, by go_num, a, (N + 1), s', d', (Ag.life1 s s' life), R, BA, LA, m, c1, c2, mcs, md, by have := HN2.out; omega, rfl, rfl, rfl, rfl, rfl, rfl, h8⟩
            case measure => have := HT.out; simp [intOf]; omega
      · go_wp2_with (first | go_skip | go_guarded)
        go_roundw
        case rel => exact ⟨t + 1, HT.out.1, by go_num, a, N, s, d, life, R, BA, LA, m, c1, c2, mcs, md, by have := HN2.out; omega, rfl, rfl, rfl, rfl, rfl, rfl, hD3⟩
        case measure => have := HT.out; simp [intOf]; omega
      · have x1 : w3.cell? ⟨X, 1, none⟩ = some (.int .i64 x.n) := hX3.cell 1
        have x2 : w3.cell? ⟨X, 2, none⟩ = some (.bool x.failed) := hX3.cell 2
        generalize he : Ag.exit s x.n x.failed = r
        obtain ⟨s', er⟩ := r
        have hcall := lwExit x.n x.failed hD3.law HX64.out he
        go_wp2_with (first | go_skip | go_guarded | (go_at_call 15; (with_reducible refine hcall.mono ?_); rintro e w7 ⟨rfl, hl7, hx7⟩))
        obtain ⟨hep, h7⟩ := hD3.exit he hl7 hx7
        go_roundw
        case rel => exact ⟨t + 1, HT.out.1, by go_num, a, N, s', d, life, R, BA, LA, m, c1, c2, mcs, md, by have := HN2.out; omega, rfl, rfl, rfl, by rw [hep], rfl, rfl, h7⟩
        case measure => have := HT.out; simp [intOf]; omega
      · have x1 : w3.cell? ⟨X, 1, none⟩ = some (.int .i64 x.n) := hX3.cell 1
        have hcall := lwCut (pickZ x.n 5) hD3.law
        go_wp2_with (first | go_skip | go_guarded | (go_at_call 8; (with_reducible refine (lawPick x.n 5 w3 HX64.out (by omega) (by omega)).mono ?_); rintro e wP ⟨rfl, hwp⟩; rw [hwp]; clear hwp) | (go_at_call 18; (with_reducible refine hcall.mono ?_); rintro e w7 ⟨rfl, hl7, hx7⟩))
        have h7 := hD3.cut hl7 hx7
        go_roundw
        case rel => exact ⟨t + 1, HT.out.1, by go_num, a, N, s, _, life, R, BA, LA, m, c1, c2, mcs, md, by have := HN2.out; omega, rfl, rfl, rfl, rfl, rfl, rfl, h7⟩
        case measure => have := HT.out; simp [intOf]; omega
      · have x1 : w3.cell? ⟨X, 1, none⟩ = some (.int .i64 x.n) := hX3.cell 1
        have hcall := lwCrash x.n hD3.law HX64.out (by have h9 := hD3.lim.done; have h8 := HN3.out; omega)
        obtain ⟨j, s', d', j1, j2, j3, j4, j5, j6, j7⟩ := hD3.crash x.n HN3.out
        have HJ7 := Lib.hid j7
        have hlf := hD3.life
        have hlf2 : life < 1099511627776 := by have h8 := HN3.out; omega
        obtain ⟨hlf0, hlf1⟩ := hlf
        have HLF1 := Lib.hid hlf1
        clear j7 hlf1
        go_upto_region 44 with (first | go_skip | go_guarded | (go_at_call 19; (with_reducible refine hcall.mono ?_); rintro e w7 ⟨rfl, hl7, hx7⟩))
        have hcall2 := lwRestart hl7 (by decide) (by decide) (show 0 < 67108863 by decide) j1 j2 j3 j4
        go_wp2_with (first | go_skip | go_guarded | ((with_reducible refine isBd 30 rfl ?_); refine wpList_build rfl _ _ rfl #[.int .i64 2, .int .i64 0, .int .i64 0, .bool false, .bool false, .int .i64 0, .int .i64 0, .int .i64 0] (by kernel_rfl) ?_) | (go_at_call 6; (with_reducible refine hcall2.mono ?_); rintro e w8 ⟨a2, rfl, hl8, hx8⟩))
        have h8 := hD3.stay hl8 (AgB.trans hx7 hx8) (by rw [List.append_nil]; exact j5) j6 (by have h9 := HLF1.out; omega) (Nat.le_succ N)
        go_roundw
        case rel => exact ⟨t + 1, HT.out.1, by go_num, a2, (N + 1), s', d', (life + 1), R, BA, LA, m, c1, c2, mcs, md, by have := HN2.out; omega, rfl, rfl, rfl, by rw [HJ7.out], rfl, rfl, h8⟩
        case measure => have := HT.out; simp [intOf]; omega
    · have hnl : ¬ ((t : Int) < n) := by omega
      have hli := lawLives wr (htab.ext hD.law.ext)
      go_wp2_with (first | go_skip | go_guarded | (go_at_call 16; (with_reducible refine hli.mono ?_); rintro e w9 ⟨rfl, hx9⟩))
      go_ret
      exact ⟨rfl, hD.law.ext.tr hx9⟩
end Go.Proofs.YtockcifkphfnlaaGreatDoor
