/- AgentLease is true, whatever the script. (printed by wip/gen/aglease.py) -/
import Derived.Test.YtockcifkphfnlaaGreatDoorAgX
namespace Go.Proofs.YtockcifkphfnlaaGreatDoor
set_option linter.unusedVariables false
set_option linter.unusedSimpArgs false
open Go.RowKit

theorem ZTDeed17 : ZeroT Tryz.prog 53 52 := .of (by kernel_rfl)
theorem Ag.Lim.msg {s : Ag.AgD} {d : Dk.DiskD} {N : Nat} {s' : Ag.AgD} {d' : Dk.DiskD} {m : Ag.MsgD} {er : Int} (h : Ag.Lim s d N) (hN : N ≤ 33000000) (he : Ag.tick s d = (s', d', some m, er)) : In64 m.ctx := by
  have hs : ∀ (s : Ag.AgD) (d : Dk.DiskD) (C Q D : Nat), Ag.LimG s d C Q D → Q ≤ 33000000 → In64 (Ag.send s).2.ctx := by
    intro s d C Q D h hQ
    have h1 := h.boot
    have h2 := h.seq
    unfold Ag.send In64
    split
    · show -9223372036854775808 ≤ s.boot ∧ s.boot ≤ 9223372036854775807
      omega
    · show -9223372036854775808 ≤ s.seq + 1 ∧ s.seq + 1 ≤ 9223372036854775807
      omega
  have h0 : Ag.LimG { s with clock := s.clock + 1 } d (N + 1) N (2 * N) := ⟨h.boot, by have := h.clock; show 0 ≤ s.clock + 1 ∧ s.clock + 1 ≤ ((N + 1 : Nat) : Int); omega, h.count, h.seq, h.servers, h.taken, h.tasks, fun p hp => by have := h.beats p hp; omega, h.done⟩
  have hA : Ag.LimG (Ag.tickA { s with clock := s.clock + 1 } d).1 (Ag.tickA { s with clock := s.clock + 1 } d).2.1 (N + 1) N (2 * N + 1) := by
    unfold Ag.tickA
    split
    · exact h0.boots
    · exact h0.mono (Nat.le_refl _) (Nat.le_refl _) (by omega)
  unfold Ag.tick at he
  generalize Ag.tickA { s with clock := s.clock + 1 } d = r at hA he
  have hB : Ag.LimG (Ag.tickB r.1 r.2.1).1 (Ag.tickB r.1 r.2.1).2.1 (N + 1) N (2 * N + 2) := by
    unfold Ag.tickB
    split
    · exact hA.yields
    · exact hA.mono (Nat.le_refl _) (Nat.le_refl _) (by omega)
  split at he
  · simp at he
  · generalize Ag.tickB r.1 r.2.1 = u at hB he
    split at he
    · simp at he
    · split at he
      · simp at he
      · simp only [Prod.mk.injEq, Option.some.injEq] at he
        rw [← he.2.2.1]
        exact hs _ _ _ _ _ hB hN
/-- a block of the law's is written -/
theorem LeD.otherG {W wB wr w' : World} {a b LB N G : Nat} {s : Ag.AgD} {d : Dk.DiskD} {ls : Int} {L : List SentC} {SA TA : Option Addr} {m c1 c2 : Nat} {mcs gs : Array Value} {md : Ag.MsgD} {E : List (Int × Int)} (h : LeD W wB wr a b LB N s d ls L SA TA m c1 c2 mcs md E) (hG : Blk wr G 51 gs) (hn : ∀ g, (Value.slice SA m c1).ownBlock = some g → g ≠ G) (hg : wB.heap.size ≤ G) (hx : Ext (fun q => q = G) wr w') : LeD W wB w' a b LB N s d ls L SA TA m c1 c2 mcs md E :=
  ⟨h.law.other hG (by have := h.lb; omega) (by decide) (by decide) (by decide) (by decide) (by decide) (by decide) hx, h.inv, h.lim, h.l0, h.l1, own_ext h.sent hx (fun g hg e => hn g hg e), own_ext h.at_ hx (fun g hg1 e => by have e : g = G := e; rw [e] at hg1; exact own_ne h.at_ hG (by decide) hg1), h.len, h.few, h.ok, h.last.ext hx (fun e => by have e : LB = G := e; have := h.lb; omega), h.lm, h.lc, ⟨h.lb.1, h.lb.2.1, Nat.le_trans h.lb.2.2 hx.size⟩⟩
set_option maxRecDepth 20000 in
set_option maxHeartbeats 16000000 in
theorem lease_law (A : Option Addr) (n c : Nat) (l : List LDeed) (W : World) (htab : HTab W) (hl : Sl W 52 A n (l.map LDeed.cells)) (hn : n ≤ 1048576) (hok : ∀ x ∈ l, x.Read W) :
    Calls Tryz.prog 3 #[.slice A n c] W fun e W' => e = .returned (.bool true) ∧ Ext Nothing W W' := by
  go_enter Tryz.func3, Tryz.ntmps3
  go_upto_region 4 with (first | go_skip | go_guarded | ((with_reducible refine isBd 30 rfl ?_); refine wpList_build rfl _ _ rfl #[.int .i64 2, .int .i64 0, .int .i64 0, .bool false, .bool false, .int .i64 0, .int .i64 0, .int .i64 0] (by kernel_rfl) ?_) | (go_at_call 7; (with_reducible refine (dkNew (M := Nothing) W (fun _ => False) (fun _ e => e.elim)).mono ?_); rintro e w1 ⟨b, rfl, hd, hb, hx0⟩) | (go_at_call 6; (with_reducible refine (lwStart 3 hd hb hx0 htab (by decide) (by decide)).mono ?_); rintro e w2 ⟨a, rfl, hL0, ha, hxS⟩; have hL0 : Law W w2 a b ⟨3, 1, false, 0, 0, 0, 0, 0, Ag.noBeats, [], 0, 0⟩ ⟨Ag.bootFile 1, [], -1⟩ := hL0))
  go_upto_region 11 with (first | go_skip | go_guarded | ((with_reducible refine isBd 51 rfl ?_); refine wpList_build rfl _ _ rfl #[.int .i64 0, .int .i64 0, .int .i64 0, .int .i64 0, .int .i64 0, .int .i64 0, .int .i64 0, .bool false, .int .i64 0, .int .i64 0, .int .i64 0, .int .i64 0, .slice none 0 0, .slice none 0 0, .slice none 0 0, .slice none 0 0, .int .i64 0, .int .i64 0, .int .i64 0, .int .i64 0, .int .i64 0, .int .i64 0, .int .i64 0, .slice none 0 0, .int .i64 0, .bool false, .int .i64 0, .int .i64 0, .int .i64 0, .bool false, .bool false, .int .i64 0, .int .i64 0, .int .i64 0, .slice none 0 0, .int .i64 0, .int .i64 0, .int .i64 0, .slice none 0 0, .slice none 0 0, .bool false, .slice none 0 0, .slice none 0 0, .int .i64 0, .int .i64 0, .slice none 0 0] (by kernel_rfl) ?_) | ((with_reducible refine isAl 51 rfl ?_); refine wpList_alloc_any rfl _ rfl ZTMsg ?_; intro z hz9) | ((with_reducible refine isSt 51 rfl ?_); refine wpList_store_new rfl _ _ _ rfl STMsg z hz9 rfl rfl #[.int .i64 0, .int .i64 0, .int .i64 0, .int .i64 0, .int .i64 0, .int .i64 0, .int .i64 0, .bool false, .int .i64 0, .int .i64 0, .int .i64 0, .int .i64 0, .slice none 0 0, .slice none 0 0, .slice none 0 0, .slice none 0 0, .int .i64 0, .int .i64 0, .int .i64 0, .int .i64 0, .int .i64 0, .int .i64 0, .int .i64 0, .slice none 0 0, .int .i64 0, .bool false, .int .i64 0, .int .i64 0, .int .i64 0, .bool false, .bool false, .int .i64 0, .int .i64 0, .int .i64 0, .slice none 0 0, .int .i64 0, .int .i64 0, .int .i64 0, .slice none 0 0, .slice none 0 0, .bool false, .slice none 0 0, .slice none 0 0, .int .i64 0, .int .i64 0, .slice none 0 0] rfl rfl rfl ?_; clear hz9))
  have hxm : Ext Nothing w2 (w2.alloc (.cells #[.int .i64 0, .int .i64 0, .int .i64 0, .int .i64 0, .int .i64 0, .int .i64 0, .int .i64 0, .bool false, .int .i64 0, .int .i64 0, .int .i64 0, .int .i64 0, .slice none 0 0, .slice none 0 0, .slice none 0 0, .slice none 0 0, .int .i64 0, .int .i64 0, .int .i64 0, .int .i64 0, .int .i64 0, .int .i64 0, .int .i64 0, .slice none 0 0, .int .i64 0, .bool false, .int .i64 0, .int .i64 0, .int .i64 0, .bool false, .bool false, .int .i64 0, .int .i64 0, .int .i64 0, .slice none 0 0, .int .i64 0, .int .i64 0, .int .i64 0, .slice none 0 0, .slice none 0 0, .bool false, .slice none 0 0, .slice none 0 0, .int .i64 0, .int .i64 0, .slice none 0 0] 51)) := Ext.auto
  have hB0 := Blk.new w2 51 #[.int .i64 0, .int .i64 0, .int .i64 0, .int .i64 0, .int .i64 0, .int .i64 0, .int .i64 0, .bool false, .int .i64 0, .int .i64 0, .int .i64 0, .int .i64 0, .slice none 0 0, .slice none 0 0, .slice none 0 0, .slice none 0 0, .int .i64 0, .int .i64 0, .int .i64 0, .int .i64 0, .int .i64 0, .int .i64 0, .int .i64 0, .slice none 0 0, .int .i64 0, .bool false, .int .i64 0, .int .i64 0, .int .i64 0, .bool false, .bool false, .int .i64 0, .int .i64 0, .int .i64 0, .slice none 0 0, .int .i64 0, .int .i64 0, .int .i64 0, .slice none 0 0, .slice none 0 0, .bool false, .slice none 0 0, .slice none 0 0, .int .i64 0, .int .i64 0, .slice none 0 0]
  have hzW := hL0.ext.size
  have hLB := hB0.lt
  have hLm := hL0.e0 hxm
  generalize hLq : w2.heap.size = LB at hB0 hzW hLB ⊢
  clear hLq hL0 hxS hx0 hd ha
  generalize (w2.alloc (.cells #[.int .i64 0, .int .i64 0, .int .i64 0, .int .i64 0, .int .i64 0, .int .i64 0, .int .i64 0, .bool false, .int .i64 0, .int .i64 0, .int .i64 0, .int .i64 0, .slice none 0 0, .slice none 0 0, .slice none 0 0, .slice none 0 0, .int .i64 0, .int .i64 0, .int .i64 0, .int .i64 0, .int .i64 0, .int .i64 0, .int .i64 0, .slice none 0 0, .int .i64 0, .bool false, .int .i64 0, .int .i64 0, .int .i64 0, .bool false, .bool false, .int .i64 0, .int .i64 0, .int .i64 0, .slice none 0 0, .int .i64 0, .int .i64 0, .int .i64 0, .slice none 0 0, .slice none 0 0, .bool false, .slice none 0 0, .slice none 0 0, .int .i64 0, .int .i64 0, .slice none 0 0] 51)) = wB at hB0 hLB hLm ⊢
  have h0 : LeD W wB wB a b LB 0 ⟨3, 1, false, 0, 0, 0, 0, 0, Ag.noBeats, [], 0, 0⟩ ⟨Ag.bootFile 1, [], -1⟩ 0 [] none none 0 0 0 #[.int .i64 0, .int .i64 0, .int .i64 0, .int .i64 0, .int .i64 0, .int .i64 0, .int .i64 0, .bool false, .int .i64 0, .int .i64 0, .int .i64 0, .int .i64 0, .slice none 0 0, .slice none 0 0, .slice none 0 0, .slice none 0 0, .int .i64 0, .int .i64 0, .int .i64 0, .int .i64 0, .int .i64 0, .int .i64 0, .int .i64 0, .slice none 0 0, .int .i64 0, .bool false, .int .i64 0, .int .i64 0, .int .i64 0, .bool false, .bool false, .int .i64 0, .int .i64 0, .int .i64 0, .slice none 0 0, .int .i64 0, .int .i64 0, .int .i64 0, .slice none 0 0, .slice none 0 0, .bool false, .slice none 0 0, .slice none 0 0, .int .i64 0, .int .i64 0, .slice none 0 0] ⟨0, 0, 0, 0, 0, 0, 0, 0, 0, 0⟩ [] :=
    ⟨hLm, Ag.LInv.nil0 rfl rfl rfl rfl rfl _ _, limOf (by decide) (by decide) (by decide) (by decide) (by decide) (by decide) (by decide) (by decide) (by decide), by omega, by omega, World.ownsRow_nil _ _ _ _, World.ownsRow_nil _ _ _ _, rfl, Nat.le_refl _, fun p hp => (by cases hp), hB0, ⟨rfl, rfl, rfl, rfl, rfl, rfl, rfl, rfl, rfl, rfl, rfl, rfl⟩, (by show In64 0; unfold In64; omega), ⟨hLB, hzW, Nat.le_refl _⟩⟩
  clear hLm hB0
  go_loopw [5, 6, 7, 8, 9, 11] (fun clk lsv ep sv av ki wr => ∃ t : Nat, t ≤ n ∧ ki = .int .i64 t ∧ ∃ N' s' d' ls' L' SA' TA' m' k1' k2' mcs' md', N' ≤ 13 * t ∧ clk = .int .i64 s'.clock ∧ lsv = .int .i64 ls' ∧ ep = .int .i64 s'.epoch ∧ sv = .slice SA' m' k1' ∧ av = .slice TA' m' k2' ∧ LeD W wB wr a b LB N' s' d' ls' L' SA' TA' m' k1' k2' mcs' md' []) (fun _ _ _ _ _ ki _ => n - (intOf ki).toNat)
  case atStart => exact ⟨0, Nat.zero_le _, rfl, 0, _, _, 0, [], none, none, 0, 0, 0, _, _, by omega, rfl, rfl, rfl, rfl, rfl, h0⟩
  case round =>
    clear h0
    obtain ⟨t, ht, rfl, N, s, d, ls, L, SA, TA, m, c1, c2, mcs, md, hN, rfl, rfl, rfl, rfl, rfl, hD⟩ := hrel
    by_cases hlt : t < n
    · obtain ⟨hj, q, off, hAe, hce⟩ := hl.get (f := LDeed.cells) hD.law.ext hlt
      have hrd := hok _ (List.getElem_mem hj)
      generalize l[t] = x at hce hrd
      have HRD := Lib.hid hrd
      have HX64 := Lib.hid hrd.n
      have HT := Lib.hid (show t + 1 ≤ n ∧ n ≤ 1048576 from ⟨hlt, hn⟩)
      have HN2 := Lib.hid hN
      have HN3 := Lib.hid (show N ≤ 33000000 by omega)
      have hcD : ∀ j u, x.cells.toArray.toList[j]? = some u → wr.cell? ⟨q, off + t * 52 + j, none⟩ = some u := fun j u hu => hce j u (by simpa using hu)
      have hone := LDeed.one hrd
      have hsz := LDeed.size hrd.len
      have hk0 : (0 : Int) ≤ (t : Int) := by omega
      have hk1 : (t : Int) < n := by omega
      subst hAe
      clear hce hrd hN hlt hj
      go_upto_region 14 with (first | go_skip | go_guarded | ((with_reducible refine isLd 53 rfl ?_); refine wpList_load_at rfl 53 _ rfl STDeed17 q (off + t * 52) rfl x.cells.toArray hcD hsz ?_) | ((with_reducible refine isAl 53 rfl ?_); refine wpList_alloc_any rfl _ rfl ZTDeed17 ?_; intro z hz9) | ((with_reducible refine isSt 53 rfl ?_); refine wpList_store_new rfl _ _ _ rfl STDeed17 z hz9 rfl rfl x.cells.toArray rfl hsz hone ?_; clear hz9))
      have hxX : Ext Nothing wr (wr.alloc (.cells x.cells.toArray 53)) := Ext.auto
      have hX2 := Blk.new wr 53 x.cells.toArray
      have hD2 := hD.e0 hxX
      have hXL := hD.last.lt
      generalize hXq : wr.heap.size = X at hX2 hXL ⊢
      have HXL := Lib.hid (show X ≠ LB by omega)
      clear hXq hXL hD hcD hxX hk0 hk1
      generalize (wr.alloc (.cells x.cells.toArray 53)) = w2x at hX2 hD2 ⊢
      have x0 : w2x.cell? ⟨X, 0, none⟩ = some (.int .i64 x.kind) := hX2.cell 0
      go_upto_region 15 with (first | go_skip | go_guarded | (go_at_call 8; (with_reducible refine (lawPick x.kind 6 w2x HRD.out.k (by omega) (by omega)).mono ?_); rintro e wP ⟨rfl, hwp⟩; rw [hwp]; clear hwp))
      have hp := pickZ_lt x.kind (n := 6) (by omega)
      generalize hkd : pickZ x.kind 6 = kd at hp ⊢
      have HKD := Lib.hid hkd
      have hkc : kd = 0 ∨ kd = 1 ∨ kd = 2 ∨ kd = 3 ∨ kd = 4 ∨ kd = 5 := by omega
      clear hp hkd
      have hD3 := hD2
      have hX3 := hX2
      clear hD2 hX2 x0
      obtain ⟨w3, rfl⟩ : ∃ z : World, z = w2x := ⟨_, rfl⟩
      rcases hkc with rfl | rfl | rfl | rfl | rfl | rfl
      · have hpk := pickZ_lt x.n (n := 12) (by omega)
        generalize hpq : pickZ x.n 12 = pk at hpk
        have HPK := Lib.hid hpq
        clear hpq
        go_upto_region 19 with (first | go_skip | go_guarded)
        go_loopw [5, 6, 7, 8, 9, 13] (fun clk lsv ep sv av kv wr => ∃ j : Nat, (j : Int) ≤ pk + 1 ∧ kv = .int .i64 j ∧ ∃ N' s' d' ls' L' SA' TA' m' k1' k2' mcs' md', N' ≤ 13 * t + j ∧ clk = .int .i64 s'.clock ∧ lsv = .int .i64 ls' ∧ ep = .int .i64 s'.epoch ∧ sv = .slice SA' m' k1' ∧ av = .slice TA' m' k2' ∧ LeD W wB wr a b LB N' s' d' ls' L' SA' TA' m' k1' k2' mcs' md' [] ∧ Blk wr X 53 x.cells.toArray) (fun _ _ _ _ _ kv _ => 14 - (intOf kv).toNat)
        case atStart => exact ⟨0, by omega, rfl, N, s, d, ls, L, SA, TA, m, c1, c2, mcs, md, by have := HN2.out; omega, rfl, rfl, rfl, rfl, rfl, hD3, hX3⟩
        case round =>
          clear hD3 hX3
          obtain ⟨j, hj, rfl, N, s, d, ls, L, SA, TA, m, c1, c2, mcs, md, hN, rfl, rfl, rfl, rfl, rfl, hD, hX⟩ := hrel
          have x1 : wr.cell? ⟨X, 1, none⟩ = some (.int .i64 x.n) := hX.cell 1
          by_cases hle : (j : Int) ≤ pk
          · have HLE := Lib.hid (show (j : Int) ≤ pk ∧ pk < 12 from ⟨hle, hpk.2⟩)
            have HN := Lib.hid hN
            have HN3 := Lib.hid (show N ≤ 33000000 by have := HT.out; omega)
            have HMN := Lib.hid hD.few
            have hck := hD.lim.clock
            obtain ⟨hc0, hc1⟩ := hck
            have hc2 : s.clock < 1099511627776 := by have := HN3.out; omega
            generalize he : Ag.tick s d = r
            obtain ⟨s', d', om, er⟩ := r
            have hcall := lwTick hD.law hD.lim HN3.out he
            clear hN hc1
            go_upto_region 23 with (first | go_skip | go_guarded | (go_at_call 8; (with_reducible refine (lawPick x.n 12 wr HX64.out (by omega) (by omega)).mono ?_); rintro e wP ⟨rfl, hwp⟩; rw [hwp]; clear hwp; rw [HPK.out]) | (go_at_call 9; (with_reducible refine hcall.mono ?_); rintro e w4 ⟨v, rfl, hm, hl4, hx4⟩))
            obtain ⟨hck, hsame, hdiff⟩ := hD.tick he hl4 hx4
            have HCK := Lib.hid (show s'.clock = s.clock + 1 from hck)
            have hX4 := hX.law hx4 (by decide) (by decide) (by decide)
            clear hcall hck hle hc0 hc2 x1 hX
            cases hE : (s'.epoch != s.epoch) with
            | false =>
              have heq : s'.epoch = s.epoch := by simpa using hE
              have h4 := hsame heq
              clear hsame hdiff
              go_upto_region 28 with (first | go_skip | go_guarded | (go_at_call 10; (with_reducible refine (lwEpoch hl4).mono ?_); rintro e wE ⟨rfl, hwe⟩; rw [hwe]; clear hwe))
              cases om with
              | none =>
                have hm : v = .slice none 0 0 := hm
                subst hm
                have h5 := h4
                go_upto_region 33 with (first | go_skip | go_guarded)
                obtain ⟨rl, hrl⟩ : ∃ z, (Ag.running s').length = z := ⟨_, rfl⟩
                have hfine : 0 < rl → s'.clock ≤ ls := fun e => h5.fine (by rw [hrl]; exact e)
                have hrun := lwRun rl h5.law h5.lim.tasks rfl hrl
                rcases Nat.eq_zero_or_pos rl with hz | hp
                · subst hz
                  go_wp2_with (first | go_skip | go_guarded | (go_at_call 11; (with_reducible refine hrun.mono ?_); rintro e w8 ⟨A8, k8, rfl, hs8, hx8⟩))
                  go_roundw
                  case rel => exact ⟨j + 1, by have := HLE.out; omega, by go_num, (N + 1), s', d', ls, L, SA, TA, m, c1, c2, mcs, md, by have := HN.out; omega, by rw [HCK.out], rfl, by rw [heq], rfl, rfl, h5.e0 hx8, hX4.e0 hx8⟩
                  case measure => have := HLE.out; simp [intOf]; omega
                · have hcl : ¬ (ls < (s.clock + 1)) := by have h9 := hfine hp; have h8 := HCK.out; omega
                  have hrp : (0 : Int) < (rl : Int) := by omega
                  go_wp2_with (first | go_skip | go_guarded | (go_at_call 11; (with_reducible refine hrun.mono ?_); rintro e w8 ⟨A8, k8, rfl, hs8, hx8⟩))
                  go_roundw
                  case rel => exact ⟨j + 1, by have := HLE.out; omega, by go_num, (N + 1), s', d', ls, L, SA, TA, m, c1, c2, mcs, md, by have := HN.out; omega, by rw [HCK.out], rfl, by rw [heq], rfl, rfl, h5.e0 hx8, hX4.e0 hx8⟩
                  case measure => have := HLE.out; simp [intOf]; omega
              | some mm =>
                obtain ⟨g, cs, rfl, hG, hGI⟩ := hm
                have hmc := Ag.Lim.msg hD.lim HN3.out he
                have g16 : w4.cell? ⟨g, 16, none⟩ = some (.int .i64 mm.op) := (hG.cell 16).trans hGI.op
                have hgl : g ≠ LB → True := fun _ => trivial
                cases hop : (mm.op == 6) with
                | false =>
                  have h4' := h4
                  rw [show Ag.extra s'.clock (some mm) = [] from if_neg (by simpa using hop)] at h4'
                  go_upto_region 30 with (first | go_skip | go_guarded | ((with_reducible refine isLd 51 rfl ?_); refine wpList_load_blk rfl 51 _ rfl STMsg g rfl cs hG hGI.size ?_) | ((with_reducible refine isSt 51 rfl ?_); refine wpList_store_blk rfl 51 _ _ rfl STMsg LB rfl cs rfl h4.last h4.lm.size hGI.size hGI.one ?_; intro w5 hb5 hx5))
                  have h5 := h4'.keep hb5 hGI hmc hx5
                  have hX5 := hX4.ext hx5 (fun e => HXL.out e)
                  have g16 : w5.cell? ⟨g, 16, none⟩ = some (.int .i64 mm.op) := by
                    rcases Decidable.em (g = LB) with e | e
                    · subst e; exact (hb5.cell 16).trans hGI.op
                    · exact hx5.cell g16 (fun e9 => e e9)
                  go_upto_region 33 with (first | go_skip | go_guarded)
                  obtain ⟨rl, hrl⟩ : ∃ z, (Ag.running s').length = z := ⟨_, rfl⟩
                  have hfine : 0 < rl → s'.clock ≤ ls := fun e => h5.fine (by rw [hrl]; exact e)
                  have hrun := lwRun rl h5.law h5.lim.tasks rfl hrl
                  rcases Nat.eq_zero_or_pos rl with hz | hp
                  · subst hz
                    go_wp2_with (first | go_skip | go_guarded | (go_at_call 11; (with_reducible refine hrun.mono ?_); rintro e w8 ⟨A8, k8, rfl, hs8, hx8⟩))
                    go_roundw
                    case rel => exact ⟨j + 1, by have := HLE.out; omega, by go_num, (N + 1), s', d', ls, L, SA, TA, m, c1, c2, cs, mm, by have := HN.out; omega, by rw [HCK.out], rfl, by rw [heq], rfl, rfl, h5.e0 hx8, hX5.e0 hx8⟩
                    case measure => have := HLE.out; simp [intOf]; omega
                  · have hcl : ¬ (ls < (s.clock + 1)) := by have h9 := hfine hp; have h8 := HCK.out; omega
                    have hrp : (0 : Int) < (rl : Int) := by omega
                    go_wp2_with (first | go_skip | go_guarded | (go_at_call 11; (with_reducible refine hrun.mono ?_); rintro e w8 ⟨A8, k8, rfl, hs8, hx8⟩))
                    go_roundw
                    case rel => exact ⟨j + 1, by have := HLE.out; omega, by go_num, (N + 1), s', d', ls, L, SA, TA, m, c1, c2, cs, mm, by have := HN.out; omega, by rw [HCK.out], rfl, by rw [heq], rfl, rfl, h5.e0 hx8, hX5.e0 hx8⟩
                    case measure => have := HLE.out; simp [intOf]; omega
                | true =>
                  have h4' := h4
                  rw [show Ag.extra s'.clock (some mm) = [(mm.ctx, s'.clock)] from if_pos (by simpa using hop)] at h4'
                  go_upto_region 30 with (first | go_skip | go_guarded | ((with_reducible refine isLd 51 rfl ?_); refine wpList_load_blk rfl 51 _ rfl STMsg g rfl cs hG hGI.size ?_) | ((with_reducible refine isSt 51 rfl ?_); refine wpList_store_blk rfl 51 _ _ rfl STMsg LB rfl cs rfl h4.last h4.lm.size hGI.size hGI.one ?_; intro w5 hb5 hx5))
                  have h5 := h4'.keep hb5 hGI hmc hx5
                  have hX5 := hX4.ext hx5 (fun e => HXL.out e)
                  have hG5 : Blk w5 g 51 cs := by
                    rcases Decidable.em (g = LB) with e | e
                    · subst e; exact hb5
                    · exact hG.ext hx5 (fun e9 => e e9)
                  have g16 : w5.cell? ⟨g, 16, none⟩ = some (.int .i64 mm.op) := (hG5.cell 16).trans hGI.op
                  have hc9 := h5.lim.clock
                  have hok9 : SentC.Ok (cs, mm.ctx, s'.clock) := ⟨hGI.size, hGI.ctx, hc9.1, by have := HN3.out; show s'.clock < 1099511627777; omega⟩
                  have hm9 : m < 67108864 := by have h9 := HMN.out; have h8 := HN3.out; omega
                  have hbw := h5.lb.2.2
                  have hxa : Ext Nothing w5 (w5.alloc (.cells cs 51)) := Ext.auto
                  rw [HCK.out] at h5 hok9
                  go_upto_region 33 with (first | go_skip | go_guarded | ((with_reducible refine isLd 51 rfl ?_); refine wpList_load_blk rfl 51 _ rfl STMsg g rfl cs hG5 hGI.size ?_) | ((with_reducible refine isBs 33 rfl ?_); refine wpList_slice1 rfl 33 _ rfl SRMsg cs rfl hGI.size ?_) | ((with_reducible refine isBs 34 rfl ?_); refine wpList_slice1 rfl 34 _ rfl SRIntG #[.int .i64 (s.clock + 1)] rfl rfl ?_) | (at_builtin; refine wpList_app1a rfl _ _ 33 rfl wB.heap.size SRMsg (.slice SA m c1) m _ rfl (own_ext h5.sent hxa (fun g hg e => e)) w5.heap.size 1 cs rfl (Blk.new _ _ _) hGI.size hGI.one hm9 (Nat.le_trans hbw hxa.size) ?_; intro A6 k6 w6 ho6 hgr6 _; have hx6 : Ext (fun q => (Value.slice SA m c1).ownBlock = some q) w5 w6 := (hxa.mono (fun _ _ e => e.elim) : Ext (fun q => (Value.slice SA m c1).ownBlock = some q) w5 _).grown hgr6 (fun g hg => .inr hg); have hA6 := own_ext h5.at_ hx6 (rows_apart h5.sent h5.at_ (by decide)); have hxb : Ext Nothing w6 (w6.alloc (.cells #[.int .i64 (s.clock + 1)] 3)) := Ext.auto) | (at_builtin; refine wpList_app1a rfl _ _ 34 rfl wB.heap.size SRIntG (.slice TA m c2) m _ rfl (own_ext hA6 hxb (fun g hg e => e)) w6.heap.size 1 #[.int .i64 (s.clock + 1)] rfl (Blk.new _ _ _) rfl rfl hm9 (Nat.le_trans hbw (Nat.le_trans hx6.size hxb.size)) ?_; intro A7 k7 w7 ho7 hgr7 _))
                  have hx7 : Ext (fun q => (Value.slice TA m c2).ownBlock = some q) w6 w7 := (hxb.mono (fun _ _ e => e.elim) : Ext (fun q => (Value.slice TA m c2).ownBlock = some q) w6 _).grown hgr7 (fun g hg => .inr hg)
                  have h7 := h5.app (by have h9 := HMN.out; omega) hok9 ho6 hx6 ho7 hx7
                  have hX7 := (hX5.ext hx6 (fun e => own_ne h5.sent hX5 (by decide) e)).ext hx7 (fun e => own_ne hA6 (hX5.ext hx6 (fun e => own_ne h5.sent hX5 (by decide) e)) (by decide) e)
                  obtain ⟨rl, hrl⟩ : ∃ z, (Ag.running s').length = z := ⟨_, rfl⟩
                  have hfine : 0 < rl → s'.clock ≤ ls := fun e => h7.fine (by rw [hrl]; exact e)
                  have hrun := lwRun rl h7.law h7.lim.tasks rfl hrl
                  rcases Nat.eq_zero_or_pos rl with hz | hp
                  · subst hz
                    go_wp2_with (first | go_skip | go_guarded | (go_at_call 11; (with_reducible refine hrun.mono ?_); rintro e w8 ⟨A8, k8, rfl, hs8, hx8⟩))
                    go_roundw
                    case rel => exact ⟨j + 1, by have := HLE.out; omega, by go_num, (N + 1), s', d', ls, (L ++ [(cs, mm.ctx, s.clock + 1)]), A6, A7, (m + 1), k6, k7, cs, mm, by have := HN.out; omega, by rw [HCK.out], rfl, by rw [heq], rfl, rfl, h7.e0 hx8, hX7.e0 hx8⟩
                    case measure => have := HLE.out; simp [intOf]; omega
                  · have hcl : ¬ (ls < (s.clock + 1)) := by have h9 := hfine hp; have h8 := HCK.out; omega
                    have hrp : (0 : Int) < (rl : Int) := by omega
                    go_wp2_with (first | go_skip | go_guarded | (go_at_call 11; (with_reducible refine hrun.mono ?_); rintro e w8 ⟨A8, k8, rfl, hs8, hx8⟩))
                    go_roundw
                    case rel => exact ⟨j + 1, by have := HLE.out; omega, by go_num, (N + 1), s', d', ls, (L ++ [(cs, mm.ctx, s.clock + 1)]), A6, A7, (m + 1), k6, k7, cs, mm, by have := HN.out; omega, by rw [HCK.out], rfl, by rw [heq], rfl, rfl, h7.e0 hx8, hX7.e0 hx8⟩
                    case measure => have := HLE.out; simp [intOf]; omega
            | true =>
              have hne : s'.epoch ≠ s.epoch := by simpa using hE
              have h4 := hdiff hne
              have HMN := Lib.hid (Nat.zero_le N)
              clear hsame hdiff
              go_upto_region 28 with (first | go_skip | go_guarded | (go_at_call 10; (with_reducible refine (lwEpoch hl4).mono ?_); rintro e wE ⟨rfl, hwe⟩; rw [hwe]; clear hwe))
              cases om with
              | none =>
                have hm : v = .slice none 0 0 := hm
                subst hm
                have h5 := h4
                go_upto_region 33 with (first | go_skip | go_guarded)
                obtain ⟨rl, hrl⟩ : ∃ z, (Ag.running s').length = z := ⟨_, rfl⟩
                have hfine : 0 < rl → s'.clock ≤ 0 := fun e => h5.fine (by rw [hrl]; exact e)
                have hrun := lwRun rl h5.law h5.lim.tasks rfl hrl
                rcases Nat.eq_zero_or_pos rl with hz | hp
                · subst hz
                  go_wp2_with (first | go_skip | go_guarded | (go_at_call 11; (with_reducible refine hrun.mono ?_); rintro e w8 ⟨A8, k8, rfl, hs8, hx8⟩))
                  go_roundw
                  case rel => exact ⟨j + 1, by have := HLE.out; omega, by go_num, (N + 1), s', d', 0, [], none, none, 0, 0, 0, mcs, md, by have := HN.out; omega, by rw [HCK.out], rfl, rfl, rfl, rfl, h5.e0 hx8, hX4.e0 hx8⟩
                  case measure => have := HLE.out; simp [intOf]; omega
                · have hcl : ¬ (0 < (s.clock + 1)) := by have h9 := hfine hp; have h8 := HCK.out; omega
                  have hrp : (0 : Int) < (rl : Int) := by omega
                  go_wp2_with (first | go_skip | go_guarded | (go_at_call 11; (with_reducible refine hrun.mono ?_); rintro e w8 ⟨A8, k8, rfl, hs8, hx8⟩))
                  go_roundw
                  case rel => exact ⟨j + 1, by have := HLE.out; omega, by go_num, (N + 1), s', d', 0, [], none, none, 0, 0, 0, mcs, md, by have := HN.out; omega, by rw [HCK.out], rfl, rfl, rfl, rfl, h5.e0 hx8, hX4.e0 hx8⟩
                  case measure => have := HLE.out; simp [intOf]; omega
              | some mm =>
                obtain ⟨g, cs, rfl, hG, hGI⟩ := hm
                have hmc := Ag.Lim.msg hD.lim HN3.out he
                have g16 : w4.cell? ⟨g, 16, none⟩ = some (.int .i64 mm.op) := (hG.cell 16).trans hGI.op
                have hgl : g ≠ LB → True := fun _ => trivial
                cases hop : (mm.op == 6) with
                | false =>
                  have h4' := h4
                  rw [show Ag.extra s'.clock (some mm) = [] from if_neg (by simpa using hop)] at h4'
                  go_upto_region 30 with (first | go_skip | go_guarded | ((with_reducible refine isLd 51 rfl ?_); refine wpList_load_blk rfl 51 _ rfl STMsg g rfl cs hG hGI.size ?_) | ((with_reducible refine isSt 51 rfl ?_); refine wpList_store_blk rfl 51 _ _ rfl STMsg LB rfl cs rfl h4.last h4.lm.size hGI.size hGI.one ?_; intro w5 hb5 hx5))
                  have h5 := h4'.keep hb5 hGI hmc hx5
                  have hX5 := hX4.ext hx5 (fun e => HXL.out e)
                  have g16 : w5.cell? ⟨g, 16, none⟩ = some (.int .i64 mm.op) := by
                    rcases Decidable.em (g = LB) with e | e
                    · subst e; exact (hb5.cell 16).trans hGI.op
                    · exact hx5.cell g16 (fun e9 => e e9)
                  go_upto_region 33 with (first | go_skip | go_guarded)
                  obtain ⟨rl, hrl⟩ : ∃ z, (Ag.running s').length = z := ⟨_, rfl⟩
                  have hfine : 0 < rl → s'.clock ≤ 0 := fun e => h5.fine (by rw [hrl]; exact e)
                  have hrun := lwRun rl h5.law h5.lim.tasks rfl hrl
                  rcases Nat.eq_zero_or_pos rl with hz | hp
                  · subst hz
                    go_wp2_with (first | go_skip | go_guarded | (go_at_call 11; (with_reducible refine hrun.mono ?_); rintro e w8 ⟨A8, k8, rfl, hs8, hx8⟩))
                    go_roundw
                    case rel => exact ⟨j + 1, by have := HLE.out; omega, by go_num, (N + 1), s', d', 0, [], none, none, 0, 0, 0, cs, mm, by have := HN.out; omega, by rw [HCK.out], rfl, rfl, rfl, rfl, h5.e0 hx8, hX5.e0 hx8⟩
                    case measure => have := HLE.out; simp [intOf]; omega
                  · have hcl : ¬ (0 < (s.clock + 1)) := by have h9 := hfine hp; have h8 := HCK.out; omega
                    have hrp : (0 : Int) < (rl : Int) := by omega
                    go_wp2_with (first | go_skip | go_guarded | (go_at_call 11; (with_reducible refine hrun.mono ?_); rintro e w8 ⟨A8, k8, rfl, hs8, hx8⟩))
                    go_roundw
                    case rel => exact ⟨j + 1, by have := HLE.out; omega, by go_num, (N + 1), s', d', 0, [], none, none, 0, 0, 0, cs, mm, by have := HN.out; omega, by rw [HCK.out], rfl, rfl, rfl, rfl, h5.e0 hx8, hX5.e0 hx8⟩
                    case measure => have := HLE.out; simp [intOf]; omega
                | true =>
                  have h4' := h4
                  rw [show Ag.extra s'.clock (some mm) = [(mm.ctx, s'.clock)] from if_pos (by simpa using hop)] at h4'
                  go_upto_region 30 with (first | go_skip | go_guarded | ((with_reducible refine isLd 51 rfl ?_); refine wpList_load_blk rfl 51 _ rfl STMsg g rfl cs hG hGI.size ?_) | ((with_reducible refine isSt 51 rfl ?_); refine wpList_store_blk rfl 51 _ _ rfl STMsg LB rfl cs rfl h4.last h4.lm.size hGI.size hGI.one ?_; intro w5 hb5 hx5))
                  have h5 := h4'.keep hb5 hGI hmc hx5
                  have hX5 := hX4.ext hx5 (fun e => HXL.out e)
                  have hG5 : Blk w5 g 51 cs := by
                    rcases Decidable.em (g = LB) with e | e
                    · subst e; exact hb5
                    · exact hG.ext hx5 (fun e9 => e e9)
                  have g16 : w5.cell? ⟨g, 16, none⟩ = some (.int .i64 mm.op) := (hG5.cell 16).trans hGI.op
                  have hc9 := h5.lim.clock
                  have hok9 : SentC.Ok (cs, mm.ctx, s'.clock) := ⟨hGI.size, hGI.ctx, hc9.1, by have := HN3.out; show s'.clock < 1099511627777; omega⟩
                  have hm9 : 0 < 67108864 := by have h9 := HMN.out; have h8 := HN3.out; omega
                  have hbw := h5.lb.2.2
                  have hxa : Ext Nothing w5 (w5.alloc (.cells cs 51)) := Ext.auto
                  rw [HCK.out] at h5 hok9
                  go_upto_region 33 with (first | go_skip | go_guarded | ((with_reducible refine isLd 51 rfl ?_); refine wpList_load_blk rfl 51 _ rfl STMsg g rfl cs hG5 hGI.size ?_) | ((with_reducible refine isBs 33 rfl ?_); refine wpList_slice1 rfl 33 _ rfl SRMsg cs rfl hGI.size ?_) | ((with_reducible refine isBs 34 rfl ?_); refine wpList_slice1 rfl 34 _ rfl SRIntG #[.int .i64 (s.clock + 1)] rfl rfl ?_) | (at_builtin; refine wpList_app1a rfl _ _ 33 rfl wB.heap.size SRMsg (.slice none 0 0) 0 _ rfl (own_ext h5.sent hxa (fun g hg e => e)) w5.heap.size 1 cs rfl (Blk.new _ _ _) hGI.size hGI.one hm9 (Nat.le_trans hbw hxa.size) ?_; intro A6 k6 w6 ho6 hgr6 _; have hx6 : Ext (fun q => (Value.slice none 0 0).ownBlock = some q) w5 w6 := (hxa.mono (fun _ _ e => e.elim) : Ext (fun q => (Value.slice none 0 0).ownBlock = some q) w5 _).grown hgr6 (fun g hg => .inr hg); have hA6 := own_ext h5.at_ hx6 (rows_apart h5.sent h5.at_ (by decide)); have hxb : Ext Nothing w6 (w6.alloc (.cells #[.int .i64 (s.clock + 1)] 3)) := Ext.auto) | (at_builtin; refine wpList_app1a rfl _ _ 34 rfl wB.heap.size SRIntG (.slice none 0 0) 0 _ rfl (own_ext hA6 hxb (fun g hg e => e)) w6.heap.size 1 #[.int .i64 (s.clock + 1)] rfl (Blk.new _ _ _) rfl rfl hm9 (Nat.le_trans hbw (Nat.le_trans hx6.size hxb.size)) ?_; intro A7 k7 w7 ho7 hgr7 _))
                  have hx7 : Ext (fun q => (Value.slice none 0 0).ownBlock = some q) w6 w7 := (hxb.mono (fun _ _ e => e.elim) : Ext (fun q => (Value.slice none 0 0).ownBlock = some q) w6 _).grown hgr7 (fun g hg => .inr hg)
                  have h7 := h5.app (by have h9 := HMN.out; omega) hok9 ho6 hx6 ho7 hx7
                  have hX7 := (hX5.ext hx6 (fun e => own_ne h5.sent hX5 (by decide) e)).ext hx7 (fun e => own_ne hA6 (hX5.ext hx6 (fun e => own_ne h5.sent hX5 (by decide) e)) (by decide) e)
                  obtain ⟨rl, hrl⟩ : ∃ z, (Ag.running s').length = z := ⟨_, rfl⟩
                  have hfine : 0 < rl → s'.clock ≤ 0 := fun e => h7.fine (by rw [hrl]; exact e)
                  have hrun := lwRun rl h7.law h7.lim.tasks rfl hrl
                  rcases Nat.eq_zero_or_pos rl with hz | hp
                  · subst hz
                    go_wp2_with (first | go_skip | go_guarded | (go_at_call 11; (with_reducible refine hrun.mono ?_); rintro e w8 ⟨A8, k8, rfl, hs8, hx8⟩))
                    go_roundw
                    case rel => exact ⟨j + 1, by have := HLE.out; omega, by go_num, (N + 1), s', d', 0, ([] ++ [(cs, mm.ctx, s.clock + 1)]), A6, A7, (0 + 1), k6, k7, cs, mm, by have := HN.out; omega, by rw [HCK.out], rfl, rfl, rfl, rfl, h7.e0 hx8, hX7.e0 hx8⟩
                    case measure => have := HLE.out; simp [intOf]; omega
                  · have hcl : ¬ (0 < (s.clock + 1)) := by have h9 := hfine hp; have h8 := HCK.out; omega
                    have hrp : (0 : Int) < (rl : Int) := by omega
                    go_wp2_with (first | go_skip | go_guarded | (go_at_call 11; (with_reducible refine hrun.mono ?_); rintro e w8 ⟨A8, k8, rfl, hs8, hx8⟩))
                    go_roundw
                    case rel => exact ⟨j + 1, by have := HLE.out; omega, by go_num, (N + 1), s', d', 0, ([] ++ [(cs, mm.ctx, s.clock + 1)]), A6, A7, (0 + 1), k6, k7, cs, mm, by have := HN.out; omega, by rw [HCK.out], rfl, rfl, rfl, rfl, h7.e0 hx8, hX7.e0 hx8⟩
                    case measure => have := HLE.out; simp [intOf]; omega
          · have hnl : ¬ ((j : Int) ≤ pk) := hle
            have HN := Lib.hid hN
            go_wp2_with (first | go_skip | go_guarded | (go_at_call 8; (with_reducible refine (lawPick x.n 12 wr HX64.out (by omega) (by omega)).mono ?_); rintro e wP ⟨rfl, hwp⟩; rw [hwp]; clear hwp; rw [HPK.out]))
            go_roundw
            case rel => exact ⟨t + 1, HT.out.1, by go_num, N, s, d, ls, L, SA, TA, m, c1, c2, mcs, md, by have := HN.out; omega, rfl, rfl, rfl, rfl, rfl, hD⟩
            case measure => have := HT.out; simp [intOf]; omega
      · have hmz : x.msg.toArray.size = 46 := by rw [List.size_toArray]; exact HRD.out.len
        have hcM : ∀ j u, x.msg.toArray.toList[j]? = some u → w3.cell? ⟨X, 6 + j, none⟩ = some u := fun j u hu => (hX3.cell (6 + j)).trans (LDeed.at_ x hu)
        go_upto_region 38 with (first | go_skip | go_guarded | ((with_reducible refine isLd 51 rfl ?_); refine wpList_load_at rfl 51 _ rfl STMsg X 6 rfl x.msg.toArray hcM hmz ?_) | ((with_reducible refine isAl 51 rfl ?_); refine wpList_alloc_any rfl _ rfl ZTMsg ?_; intro z hz9) | ((with_reducible refine isSt 51 rfl ?_); refine wpList_store_new rfl _ _ _ rfl STMsg z hz9 rfl rfl x.msg.toArray rfl hmz HRD.out.mi.one ?_; clear hz9))
        have hxG : Ext Nothing w3 (w3.alloc (.cells x.msg.toArray 51)) := Ext.auto
        have hG := Blk.new w3 51 x.msg.toArray
        have hD5 := hD3.e0 hxG
        have hX5 := hX3.e0 hxG
        generalize hGq : w3.heap.size = G at hG ⊢
        have HG := Lib.hid (show G = w3.heap.size from hGq.symm)
        clear hGq hcM
        generalize (w3.alloc (.cells x.msg.toArray 51)) = w5 at hxG hG hD5 hX5 ⊢
        have x0 : w5.cell? ⟨X, 0, none⟩ = some (.int .i64 x.kind) := hX5.cell 0
        have hans := lawAnswer mcs x.cells.toArray md x.n x.code x.val x.A x.m x.c w5 hD5.lm (LDeed.ans HRD.out.len)
        go_upto_region 40 with (first | go_skip | go_guarded | (go_at_call 8; (with_reducible refine (lawPick x.kind 6 w5 HRD.out.k (by omega) (by omega)).mono ?_); rintro e wP ⟨rfl, hwp⟩; rw [hwp]; clear hwp; rw [HKD.out]) | ((with_reducible refine isLd 51 rfl ?_); refine wpList_load_blk rfl 51 _ rfl STMsg LB rfl mcs hD5.last hD5.lm.size ?_) | ((with_reducible refine isLd 53 rfl ?_); refine wpList_load_blk rfl 53 _ rfl STDeed17 X rfl x.cells.toArray hX5 hsz ?_) | (go_at_call 12; (with_reducible refine hans.mono ?_); rintro e w8' ⟨cs8, rfl, hI8, h458, hx8'⟩; have hG8 := hG.e0 hx8') | ((with_reducible refine isSt 51 rfl ?_); refine wpList_store_blk rfl 51 _ _ rfl STMsg G rfl cs8 rfl hG8 hmz hI8.size hI8.one ?_; intro w9 hG9 hx9))
        have hD9 : LeD W wB w9 a b LB N s d ls L SA TA m c1 c2 mcs md [] := (hD5.e0 hx8').otherG hG8 (fun g hg e => by have h9 := HG.out; have h8 := (hD3.sent.lt g hg).2; omega) (by have h9 := HG.out; have h8 := hD3.lb.2.2; omega) hx9
        have hsl := hD9.sl
        have hle := lawLeased SA TA m c1 c2 L cs8 ⟨10, md.dest, md.frm, md.ctx, x.n, md.op, md.boot, md.epoch, x.code, x.val⟩ s.epoch ls w9 hsl.1 hsl.2 hD9.ok hI8 (by have h9 := hD9.few; have h8 := HN3.out; omega) hD9.l0 hD9.l1
        generalize he : Ag.take s d ⟨10, md.dest, md.frm, md.ctx, x.n, md.op, md.boot, md.epoch, x.code, x.val⟩ x.l = r
        obtain ⟨s', d', er⟩ := r
        go_upto_region 41 with (first | go_skip | go_guarded | ((with_reducible refine isLd 51 rfl ?_); refine wpList_load_blk rfl 51 _ rfl STMsg G rfl cs8 hG9 hI8.size ?_) | (go_at_call 13; (with_reducible refine hle.mono ?_); rintro e w6 ⟨rfl, hx6⟩))
        have hD6 := hD9.e0 hx6
        have hll : x.l.length ≤ 1048577 := by have h9 := HRD.out.al.len; have h8 := HRD.out.am; omega
        have hcall := lwTake hD6.law hD6.lim HN3.out hI8 hD9.lc h458 (HRD.out.al.ext0 hD6.law.ext) HRD.out.am (hD6.law.off HRD.out.al (by decide)) HRD.out.aid he
        go_upto_region 42 with (first | go_skip | go_guarded | ((with_reducible refine isLd 51 rfl ?_); refine wpList_load_blk rfl 51 _ rfl STMsg G rfl cs8 (hG9.e0 hx6) hI8.size ?_) | (go_at_call 14; (refine hcall.mono ?_); rintro e w7 ⟨rfl, hl7, hx7⟩))
        obtain ⟨hck, hsame, hdiff⟩ := hD6.take hll he hl7 hx7
        have HCK := Lib.hid (show s'.clock = s.clock from hck)
        clear hcall hck hle hsl
        cases hE : (s'.epoch != s.epoch) with
        | false =>
          have heq : s'.epoch = s.epoch := by simpa using hE
          have h7 := hsame heq
          clear hsame hdiff
          go_upto_region 47 with (first | go_skip | go_guarded | (go_at_call 10; (with_reducible refine (lwEpoch hl7).mono ?_); rintro e wE ⟨rfl, hwe⟩; rw [hwe]; clear hwe))
          generalize Ag.leased (L.map (·.2)) ⟨10, md.dest, md.frm, md.ctx, x.n, md.op, md.boot, md.epoch, x.code, x.val⟩ s.epoch ls = ls2 at h7 ⊢
          obtain ⟨rl, hrl⟩ : ∃ z, (Ag.running s').length = z := ⟨_, rfl⟩
          have hfine : 0 < rl → s'.clock ≤ ls2 := fun e => h7.fine (by rw [hrl]; exact e)
          have hrun := lwRun rl h7.law h7.lim.tasks rfl hrl
          rcases Nat.eq_zero_or_pos rl with hz | hp
          · subst hz
            go_wp2_with (first | go_skip | go_guarded | (go_at_call 11; (with_reducible refine hrun.mono ?_); rintro e w8 ⟨A8, k8, rfl, hs8, hx8⟩))
            go_roundw
            case rel => exact ⟨t + 1, HT.out.1, by go_num, (N + 1), s', d', ls2, L, SA, TA, m, c1, c2, mcs, md, by have := HN2.out; omega, by rw [HCK.out], rfl, by rw [heq], rfl, rfl, h7.e0 hx8⟩
            case measure => have := HT.out; simp [intOf]; omega
          · have hcl : ¬ (ls2 < s.clock) := by have h9 := hfine hp; have h8 := HCK.out; omega
            have hrp : (0 : Int) < (rl : Int) := by omega
            go_wp2_with (first | go_skip | go_guarded | (go_at_call 11; (with_reducible refine hrun.mono ?_); rintro e w8 ⟨A8, k8, rfl, hs8, hx8⟩))
            go_roundw
            case rel => exact ⟨t + 1, HT.out.1, by go_num, (N + 1), s', d', ls2, L, SA, TA, m, c1, c2, mcs, md, by have := HN2.out; omega, by rw [HCK.out], rfl, by rw [heq], rfl, rfl, h7.e0 hx8⟩
            case measure => have := HT.out; simp [intOf]; omega
        | true =>
          have hne : s'.epoch ≠ s.epoch := by simpa using hE
          have h7 := hdiff hne
          clear hsame hdiff
          go_upto_region 47 with (first | go_skip | go_guarded | (go_at_call 10; (with_reducible refine (lwEpoch hl7).mono ?_); rintro e wE ⟨rfl, hwe⟩; rw [hwe]; clear hwe))
          obtain ⟨rl, hrl⟩ : ∃ z, (Ag.running s').length = z := ⟨_, rfl⟩
          have hfine : 0 < rl → s'.clock ≤ 0 := fun e => h7.fine (by rw [hrl]; exact e)
          have hrun := lwRun rl h7.law h7.lim.tasks rfl hrl
          rcases Nat.eq_zero_or_pos rl with hz | hp
          · subst hz
            go_wp2_with (first | go_skip | go_guarded | (go_at_call 11; (with_reducible refine hrun.mono ?_); rintro e w8 ⟨A8, k8, rfl, hs8, hx8⟩))
            go_roundw
            case rel => exact ⟨t + 1, HT.out.1, by go_num, (N + 1), s', d', 0, [], none, none, 0, 0, 0, mcs, md, by have := HN2.out; omega, by rw [HCK.out], rfl, rfl, rfl, rfl, h7.e0 hx8⟩
            case measure => have := HT.out; simp [intOf]; omega
          · have hcl : ¬ (0 < s.clock) := by have h9 := hfine hp; have h8 := HCK.out; omega
            have hrp : (0 : Int) < (rl : Int) := by omega
            go_wp2_with (first | go_skip | go_guarded | (go_at_call 11; (with_reducible refine hrun.mono ?_); rintro e w8 ⟨A8, k8, rfl, hs8, hx8⟩))
            go_roundw
            case rel => exact ⟨t + 1, HT.out.1, by go_num, (N + 1), s', d', 0, [], none, none, 0, 0, 0, mcs, md, by have := HN2.out; omega, by rw [HCK.out], rfl, rfl, rfl, rfl, h7.e0 hx8⟩
            case measure => have := HT.out; simp [intOf]; omega
      · have hmz : x.msg.toArray.size = 46 := by rw [List.size_toArray]; exact HRD.out.len
        have hcM : ∀ j u, x.msg.toArray.toList[j]? = some u → w3.cell? ⟨X, 6 + j, none⟩ = some u := fun j u hu => (hX3.cell (6 + j)).trans (LDeed.at_ x hu)
        go_upto_region 38 with (first | go_skip | go_guarded | ((with_reducible refine isLd 51 rfl ?_); refine wpList_load_at rfl 51 _ rfl STMsg X 6 rfl x.msg.toArray hcM hmz ?_) | ((with_reducible refine isAl 51 rfl ?_); refine wpList_alloc_any rfl _ rfl ZTMsg ?_; intro z hz9) | ((with_reducible refine isSt 51 rfl ?_); refine wpList_store_new rfl _ _ _ rfl STMsg z hz9 rfl rfl x.msg.toArray rfl hmz HRD.out.mi.one ?_; clear hz9))
        have hxG : Ext Nothing w3 (w3.alloc (.cells x.msg.toArray 51)) := Ext.auto
        have hG := Blk.new w3 51 x.msg.toArray
        have hD5 := hD3.e0 hxG
        have hX5 := hX3.e0 hxG
        generalize hGq : w3.heap.size = G at hG ⊢
        have HG := Lib.hid (show G = w3.heap.size from hGq.symm)
        clear hGq hcM
        generalize (w3.alloc (.cells x.msg.toArray 51)) = w5 at hxG hG hD5 hX5 ⊢
        have x0 : w5.cell? ⟨X, 0, none⟩ = some (.int .i64 x.kind) := hX5.cell 0
        go_upto_region 40 with (first | go_skip | go_guarded | (go_at_call 8; (with_reducible refine (lawPick x.kind 6 w5 HRD.out.k (by omega) (by omega)).mono ?_); rintro e wP ⟨rfl, hwp⟩; rw [hwp]; clear hwp; rw [HKD.out]))
        have hsl := hD5.sl
        have hle := lawLeased SA TA m c1 c2 L x.msg.toArray x.md s.epoch ls w5 hsl.1 hsl.2 hD5.ok HRD.out.mi (by have h9 := hD5.few; have h8 := HN3.out; omega) hD5.l0 hD5.l1
        generalize he : Ag.take s d x.md x.ml = r
        obtain ⟨s', d', er⟩ := r
        go_upto_region 41 with (first | go_skip | go_guarded | ((with_reducible refine isLd 51 rfl ?_); refine wpList_load_blk rfl 51 _ rfl STMsg G rfl x.msg.toArray hG hmz ?_) | (go_at_call 13; (with_reducible refine hle.mono ?_); rintro e w6 ⟨rfl, hx6⟩))
        have hD6 := hD5.e0 hx6
        have hll : x.ml.length ≤ 1048577 := by have h9 := HRD.out.ml.len; have h8 := HRD.out.mm; omega
        have hcall := lwTake hD6.law hD6.lim HN3.out HRD.out.mi HRD.out.ctx (show x.msg.toArray[45]? = _ by rw [List.getElem?_toArray]; exact HRD.out.m45) (HRD.out.ml.ext0 hD6.law.ext) HRD.out.mm (hD6.law.off HRD.out.ml (by decide)) HRD.out.mid he
        go_upto_region 42 with (first | go_skip | go_guarded | ((with_reducible refine isLd 51 rfl ?_); refine wpList_load_blk rfl 51 _ rfl STMsg G rfl x.msg.toArray (hG.e0 hx6) hmz ?_) | (go_at_call 14; (refine hcall.mono ?_); rintro e w7 ⟨rfl, hl7, hx7⟩))
        obtain ⟨hck, hsame, hdiff⟩ := hD6.take hll he hl7 hx7
        have HCK := Lib.hid (show s'.clock = s.clock from hck)
        clear hcall hck hle hsl
        cases hE : (s'.epoch != s.epoch) with
        | false =>
          have heq : s'.epoch = s.epoch := by simpa using hE
          have h7 := hsame heq
          clear hsame hdiff
          go_upto_region 47 with (first | go_skip | go_guarded | (go_at_call 10; (with_reducible refine (lwEpoch hl7).mono ?_); rintro e wE ⟨rfl, hwe⟩; rw [hwe]; clear hwe))
          generalize Ag.leased (L.map (·.2)) x.md s.epoch ls = ls2 at h7 ⊢
          obtain ⟨rl, hrl⟩ : ∃ z, (Ag.running s').length = z := ⟨_, rfl⟩
          have hfine : 0 < rl → s'.clock ≤ ls2 := fun e => h7.fine (by rw [hrl]; exact e)
          have hrun := lwRun rl h7.law h7.lim.tasks rfl hrl
          rcases Nat.eq_zero_or_pos rl with hz | hp
          · subst hz
            go_wp2_with (first | go_skip | go_guarded | (go_at_call 11; (with_reducible refine hrun.mono ?_); rintro e w8 ⟨A8, k8, rfl, hs8, hx8⟩))
            go_roundw
            case rel => exact ⟨t + 1, HT.out.1, by go_num, (N + 1), s', d', ls2, L, SA, TA, m, c1, c2, mcs, md, by have := HN2.out; omega, by rw [HCK.out], rfl, by rw [heq], rfl, rfl, h7.e0 hx8⟩
            case measure => have := HT.out; simp [intOf]; omega
          · have hcl : ¬ (ls2 < s.clock) := by have h9 := hfine hp; have h8 := HCK.out; omega
            have hrp : (0 : Int) < (rl : Int) := by omega
            go_wp2_with (first | go_skip | go_guarded | (go_at_call 11; (with_reducible refine hrun.mono ?_); rintro e w8 ⟨A8, k8, rfl, hs8, hx8⟩))
            go_roundw
            case rel => exact ⟨t + 1, HT.out.1, by go_num, (N + 1), s', d', ls2, L, SA, TA, m, c1, c2, mcs, md, by have := HN2.out; omega, by rw [HCK.out], rfl, by rw [heq], rfl, rfl, h7.e0 hx8⟩
            case measure => have := HT.out; simp [intOf]; omega
        | true =>
          have hne : s'.epoch ≠ s.epoch := by simpa using hE
          have h7 := hdiff hne
          clear hsame hdiff
          go_upto_region 47 with (first | go_skip | go_guarded | (go_at_call 10; (with_reducible refine (lwEpoch hl7).mono ?_); rintro e wE ⟨rfl, hwe⟩; rw [hwe]; clear hwe))
          obtain ⟨rl, hrl⟩ : ∃ z, (Ag.running s').length = z := ⟨_, rfl⟩
          have hfine : 0 < rl → s'.clock ≤ 0 := fun e => h7.fine (by rw [hrl]; exact e)
          have hrun := lwRun rl h7.law h7.lim.tasks rfl hrl
          rcases Nat.eq_zero_or_pos rl with hz | hp
          · subst hz
            go_wp2_with (first | go_skip | go_guarded | (go_at_call 11; (with_reducible refine hrun.mono ?_); rintro e w8 ⟨A8, k8, rfl, hs8, hx8⟩))
            go_roundw
            case rel => exact ⟨t + 1, HT.out.1, by go_num, (N + 1), s', d', 0, [], none, none, 0, 0, 0, mcs, md, by have := HN2.out; omega, by rw [HCK.out], rfl, rfl, rfl, rfl, h7.e0 hx8⟩
            case measure => have := HT.out; simp [intOf]; omega
          · have hcl : ¬ (0 < s.clock) := by have h9 := hfine hp; have h8 := HCK.out; omega
            have hrp : (0 : Int) < (rl : Int) := by omega
            go_wp2_with (first | go_skip | go_guarded | (go_at_call 11; (with_reducible refine hrun.mono ?_); rintro e w8 ⟨A8, k8, rfl, hs8, hx8⟩))
            go_roundw
            case rel => exact ⟨t + 1, HT.out.1, by go_num, (N + 1), s', d', 0, [], none, none, 0, 0, 0, mcs, md, by have := HN2.out; omega, by rw [HCK.out], rfl, rfl, rfl, rfl, h7.e0 hx8⟩
            case measure => have := HT.out; simp [intOf]; omega
      · have x1 : w3.cell? ⟨X, 1, none⟩ = some (.int .i64 x.n) := hX3.cell 1
        have x2 : w3.cell? ⟨X, 2, none⟩ = some (.bool x.failed) := hX3.cell 2
        generalize he : Ag.exit s x.n x.failed = r
        obtain ⟨s', er⟩ := r
        have hcall := lwExit x.n x.failed hD3.law HX64.out he
        go_wp2_with (first | go_skip | go_guarded | (go_at_call 15; (with_reducible refine hcall.mono ?_); rintro e w7 ⟨rfl, hl7, hx7⟩))
        obtain ⟨hep, hck, h7⟩ := hD3.exit he hl7 hx7
        go_roundw
        case rel => exact ⟨t + 1, HT.out.1, by go_num, N, s', d, ls, L, SA, TA, m, c1, c2, mcs, md, by have := HN2.out; omega, by rw [hck], rfl, by rw [hep], rfl, rfl, h7⟩
        case measure => have := HT.out; simp [intOf]; omega
      · have hpk := pickZ_lt x.n (n := 12) (by omega)
        generalize hpq : pickZ x.n 12 = pk at hpk
        have HPK := Lib.hid hpq
        clear hpq
        go_upto_region 19 with (first | go_skip | go_guarded)
        go_loopw [5, 6, 7, 8, 9, 13] (fun clk lsv ep sv av kv wr => ∃ j : Nat, (j : Int) ≤ pk + 1 ∧ kv = .int .i64 j ∧ ∃ N' s' d' ls' L' SA' TA' m' k1' k2' mcs' md', N' ≤ 13 * t + j ∧ clk = .int .i64 s'.clock ∧ lsv = .int .i64 ls' ∧ ep = .int .i64 s'.epoch ∧ sv = .slice SA' m' k1' ∧ av = .slice TA' m' k2' ∧ LeD W wB wr a b LB N' s' d' ls' L' SA' TA' m' k1' k2' mcs' md' [] ∧ Blk wr X 53 x.cells.toArray) (fun _ _ _ _ _ kv _ => 14 - (intOf kv).toNat)
        case atStart => exact ⟨0, by omega, rfl, N, s, d, ls, L, SA, TA, m, c1, c2, mcs, md, by have := HN2.out; omega, rfl, rfl, rfl, rfl, rfl, hD3, hX3⟩
        case round =>
          clear hD3 hX3
          obtain ⟨j, hj, rfl, N, s, d, ls, L, SA, TA, m, c1, c2, mcs, md, hN, rfl, rfl, rfl, rfl, rfl, hD, hX⟩ := hrel
          have x1 : wr.cell? ⟨X, 1, none⟩ = some (.int .i64 x.n) := hX.cell 1
          by_cases hle : (j : Int) ≤ pk
          · have HLE := Lib.hid (show (j : Int) ≤ pk ∧ pk < 12 from ⟨hle, hpk.2⟩)
            have HN := Lib.hid hN
            have HN3 := Lib.hid (show N ≤ 33000000 by have := HT.out; omega)
            have HMN := Lib.hid hD.few
            have hck := hD.lim.clock
            obtain ⟨hc0, hc1⟩ := hck
            have hc2 : s.clock < 1099511627776 := by have := HN3.out; omega
            generalize he : Ag.tick s d = r
            obtain ⟨s', d', om, er⟩ := r
            have hcall := lwTick hD.law hD.lim HN3.out he
            clear hN hc1
            go_upto_region 23 with (first | go_skip | go_guarded | (go_at_call 8; (with_reducible refine (lawPick x.n 12 wr HX64.out (by omega) (by omega)).mono ?_); rintro e wP ⟨rfl, hwp⟩; rw [hwp]; clear hwp; rw [HPK.out]) | (go_at_call 9; (with_reducible refine hcall.mono ?_); rintro e w4 ⟨v, rfl, hm, hl4, hx4⟩))
            obtain ⟨hck, hsame, hdiff⟩ := hD.tick he hl4 hx4
            have HCK := Lib.hid (show s'.clock = s.clock + 1 from hck)
            have hX4 := hX.law hx4 (by decide) (by decide) (by decide)
            clear hcall hck hle hc0 hc2 x1 hX
            cases hE : (s'.epoch != s.epoch) with
            | false =>
              have heq : s'.epoch = s.epoch := by simpa using hE
              have h4 := hsame heq
              clear hsame hdiff
              go_upto_region 28 with (first | go_skip | go_guarded | (go_at_call 10; (with_reducible refine (lwEpoch hl4).mono ?_); rintro e wE ⟨rfl, hwe⟩; rw [hwe]; clear hwe))
              cases om with
              | none =>
                have hm : v = .slice none 0 0 := hm
                subst hm
                have h5 := h4
                go_upto_region 33 with (first | go_skip | go_guarded)
                obtain ⟨rl, hrl⟩ : ∃ z, (Ag.running s').length = z := ⟨_, rfl⟩
                have hfine : 0 < rl → s'.clock ≤ ls := fun e => h5.fine (by rw [hrl]; exact e)
                have hrun := lwRun rl h5.law h5.lim.tasks rfl hrl
                rcases Nat.eq_zero_or_pos rl with hz | hp
                · subst hz
                  go_wp2_with (first | go_skip | go_guarded | (go_at_call 11; (with_reducible refine hrun.mono ?_); rintro e w8 ⟨A8, k8, rfl, hs8, hx8⟩))
                  go_roundw
                  case rel => exact ⟨j + 1, by have := HLE.out; omega, by go_num, (N + 1), s', d', ls, L, SA, TA, m, c1, c2, mcs, md, by have := HN.out; omega, by rw [HCK.out], rfl, by rw [heq], rfl, rfl, h5.e0 hx8, hX4.e0 hx8⟩
                  case measure => have := HLE.out; simp [intOf]; omega
                · have hcl : ¬ (ls < (s.clock + 1)) := by have h9 := hfine hp; have h8 := HCK.out; omega
                  have hrp : (0 : Int) < (rl : Int) := by omega
                  go_wp2_with (first | go_skip | go_guarded | (go_at_call 11; (with_reducible refine hrun.mono ?_); rintro e w8 ⟨A8, k8, rfl, hs8, hx8⟩))
                  go_roundw
                  case rel => exact ⟨j + 1, by have := HLE.out; omega, by go_num, (N + 1), s', d', ls, L, SA, TA, m, c1, c2, mcs, md, by have := HN.out; omega, by rw [HCK.out], rfl, by rw [heq], rfl, rfl, h5.e0 hx8, hX4.e0 hx8⟩
                  case measure => have := HLE.out; simp [intOf]; omega
              | some mm =>
                obtain ⟨g, cs, rfl, hG, hGI⟩ := hm
                have hmc := Ag.Lim.msg hD.lim HN3.out he
                have g16 : w4.cell? ⟨g, 16, none⟩ = some (.int .i64 mm.op) := (hG.cell 16).trans hGI.op
                have hgl : g ≠ LB → True := fun _ => trivial
                cases hop : (mm.op == 6) with
                | false =>
                  have h4' := h4
                  rw [show Ag.extra s'.clock (some mm) = [] from if_neg (by simpa using hop)] at h4'
                  go_upto_region 30 with (first | go_skip | go_guarded | ((with_reducible refine isLd 51 rfl ?_); refine wpList_load_blk rfl 51 _ rfl STMsg g rfl cs hG hGI.size ?_) | ((with_reducible refine isSt 51 rfl ?_); refine wpList_store_blk rfl 51 _ _ rfl STMsg LB rfl cs rfl h4.last h4.lm.size hGI.size hGI.one ?_; intro w5 hb5 hx5))
                  have h5 := h4'.keep hb5 hGI hmc hx5
                  have hX5 := hX4.ext hx5 (fun e => HXL.out e)
                  have g16 : w5.cell? ⟨g, 16, none⟩ = some (.int .i64 mm.op) := by
                    rcases Decidable.em (g = LB) with e | e
                    · subst e; exact (hb5.cell 16).trans hGI.op
                    · exact hx5.cell g16 (fun e9 => e e9)
                  go_upto_region 33 with (first | go_skip | go_guarded)
                  obtain ⟨rl, hrl⟩ : ∃ z, (Ag.running s').length = z := ⟨_, rfl⟩
                  have hfine : 0 < rl → s'.clock ≤ ls := fun e => h5.fine (by rw [hrl]; exact e)
                  have hrun := lwRun rl h5.law h5.lim.tasks rfl hrl
                  rcases Nat.eq_zero_or_pos rl with hz | hp
                  · subst hz
                    go_wp2_with (first | go_skip | go_guarded | (go_at_call 11; (with_reducible refine hrun.mono ?_); rintro e w8 ⟨A8, k8, rfl, hs8, hx8⟩))
                    go_roundw
                    case rel => exact ⟨j + 1, by have := HLE.out; omega, by go_num, (N + 1), s', d', ls, L, SA, TA, m, c1, c2, cs, mm, by have := HN.out; omega, by rw [HCK.out], rfl, by rw [heq], rfl, rfl, h5.e0 hx8, hX5.e0 hx8⟩
                    case measure => have := HLE.out; simp [intOf]; omega
                  · have hcl : ¬ (ls < (s.clock + 1)) := by have h9 := hfine hp; have h8 := HCK.out; omega
                    have hrp : (0 : Int) < (rl : Int) := by omega
                    go_wp2_with (first | go_skip | go_guarded | (go_at_call 11; (with_reducible refine hrun.mono ?_); rintro e w8 ⟨A8, k8, rfl, hs8, hx8⟩))
                    go_roundw
                    case rel => exact ⟨j + 1, by have := HLE.out; omega, by go_num, (N + 1), s', d', ls, L, SA, TA, m, c1, c2, cs, mm, by have := HN.out; omega, by rw [HCK.out], rfl, by rw [heq], rfl, rfl, h5.e0 hx8, hX5.e0 hx8⟩
                    case measure => have := HLE.out; simp [intOf]; omega
                | true =>
                  have h4' := h4
                  rw [show Ag.extra s'.clock (some mm) = [(mm.ctx, s'.clock)] from if_pos (by simpa using hop)] at h4'
                  go_upto_region 30 with (first | go_skip | go_guarded | ((with_reducible refine isLd 51 rfl ?_); refine wpList_load_blk rfl 51 _ rfl STMsg g rfl cs hG hGI.size ?_) | ((with_reducible refine isSt 51 rfl ?_); refine wpList_store_blk rfl 51 _ _ rfl STMsg LB rfl cs rfl h4.last h4.lm.size hGI.size hGI.one ?_; intro w5 hb5 hx5))
                  have h5 := h4'.keep hb5 hGI hmc hx5
                  have hX5 := hX4.ext hx5 (fun e => HXL.out e)
                  have hG5 : Blk w5 g 51 cs := by
                    rcases Decidable.em (g = LB) with e | e
                    · subst e; exact hb5
                    · exact hG.ext hx5 (fun e9 => e e9)
                  have g16 : w5.cell? ⟨g, 16, none⟩ = some (.int .i64 mm.op) := (hG5.cell 16).trans hGI.op
                  have hc9 := h5.lim.clock
                  have hok9 : SentC.Ok (cs, mm.ctx, s'.clock) := ⟨hGI.size, hGI.ctx, hc9.1, by have := HN3.out; show s'.clock < 1099511627777; omega⟩
                  have hm9 : m < 67108864 := by have h9 := HMN.out; have h8 := HN3.out; omega
                  have hbw := h5.lb.2.2
                  have hxa : Ext Nothing w5 (w5.alloc (.cells cs 51)) := Ext.auto
                  rw [HCK.out] at h5 hok9
                  go_upto_region 33 with (first | go_skip | go_guarded | ((with_reducible refine isLd 51 rfl ?_); refine wpList_load_blk rfl 51 _ rfl STMsg g rfl cs hG5 hGI.size ?_) | ((with_reducible refine isBs 33 rfl ?_); refine wpList_slice1 rfl 33 _ rfl SRMsg cs rfl hGI.size ?_) | ((with_reducible refine isBs 34 rfl ?_); refine wpList_slice1 rfl 34 _ rfl SRIntG #[.int .i64 (s.clock + 1)] rfl rfl ?_) | (at_builtin; refine wpList_app1a rfl _ _ 33 rfl wB.heap.size SRMsg (.slice SA m c1) m _ rfl (own_ext h5.sent hxa (fun g hg e => e)) w5.heap.size 1 cs rfl (Blk.new _ _ _) hGI.size hGI.one hm9 (Nat.le_trans hbw hxa.size) ?_; intro A6 k6 w6 ho6 hgr6 _; have hx6 : Ext (fun q => (Value.slice SA m c1).ownBlock = some q) w5 w6 := (hxa.mono (fun _ _ e => e.elim) : Ext (fun q => (Value.slice SA m c1).ownBlock = some q) w5 _).grown hgr6 (fun g hg => .inr hg); have hA6 := own_ext h5.at_ hx6 (rows_apart h5.sent h5.at_ (by decide)); have hxb : Ext Nothing w6 (w6.alloc (.cells #[.int .i64 (s.clock + 1)] 3)) := Ext.auto) | (at_builtin; refine wpList_app1a rfl _ _ 34 rfl wB.heap.size SRIntG (.slice TA m c2) m _ rfl (own_ext hA6 hxb (fun g hg e => e)) w6.heap.size 1 #[.int .i64 (s.clock + 1)] rfl (Blk.new _ _ _) rfl rfl hm9 (Nat.le_trans hbw (Nat.le_trans hx6.size hxb.size)) ?_; intro A7 k7 w7 ho7 hgr7 _))
                  have hx7 : Ext (fun q => (Value.slice TA m c2).ownBlock = some q) w6 w7 := (hxb.mono (fun _ _ e => e.elim) : Ext (fun q => (Value.slice TA m c2).ownBlock = some q) w6 _).grown hgr7 (fun g hg => .inr hg)
                  have h7 := h5.app (by have h9 := HMN.out; omega) hok9 ho6 hx6 ho7 hx7
                  have hX7 := (hX5.ext hx6 (fun e => own_ne h5.sent hX5 (by decide) e)).ext hx7 (fun e => own_ne hA6 (hX5.ext hx6 (fun e => own_ne h5.sent hX5 (by decide) e)) (by decide) e)
                  obtain ⟨rl, hrl⟩ : ∃ z, (Ag.running s').length = z := ⟨_, rfl⟩
                  have hfine : 0 < rl → s'.clock ≤ ls := fun e => h7.fine (by rw [hrl]; exact e)
                  have hrun := lwRun rl h7.law h7.lim.tasks rfl hrl
                  rcases Nat.eq_zero_or_pos rl with hz | hp
                  · subst hz
                    go_wp2_with (first | go_skip | go_guarded | (go_at_call 11; (with_reducible refine hrun.mono ?_); rintro e w8 ⟨A8, k8, rfl, hs8, hx8⟩))
                    go_roundw
                    case rel => exact ⟨j + 1, by have := HLE.out; omega, by go_num, (N + 1), s', d', ls, (L ++ [(cs, mm.ctx, s.clock + 1)]), A6, A7, (m + 1), k6, k7, cs, mm, by have := HN.out; omega, by rw [HCK.out], rfl, by rw [heq], rfl, rfl, h7.e0 hx8, hX7.e0 hx8⟩
                    case measure => have := HLE.out; simp [intOf]; omega
                  · have hcl : ¬ (ls < (s.clock + 1)) := by have h9 := hfine hp; have h8 := HCK.out; omega
                    have hrp : (0 : Int) < (rl : Int) := by omega
                    go_wp2_with (first | go_skip | go_guarded | (go_at_call 11; (with_reducible refine hrun.mono ?_); rintro e w8 ⟨A8, k8, rfl, hs8, hx8⟩))
                    go_roundw
                    case rel => exact ⟨j + 1, by have := HLE.out; omega, by go_num, (N + 1), s', d', ls, (L ++ [(cs, mm.ctx, s.clock + 1)]), A6, A7, (m + 1), k6, k7, cs, mm, by have := HN.out; omega, by rw [HCK.out], rfl, by rw [heq], rfl, rfl, h7.e0 hx8, hX7.e0 hx8⟩
                    case measure => have := HLE.out; simp [intOf]; omega
            | true =>
              have hne : s'.epoch ≠ s.epoch := by simpa using hE
              have h4 := hdiff hne
              have HMN := Lib.hid (Nat.zero_le N)
              clear hsame hdiff
              go_upto_region 28 with (first | go_skip | go_guarded | (go_at_call 10; (with_reducible refine (lwEpoch hl4).mono ?_); rintro e wE ⟨rfl, hwe⟩; rw [hwe]; clear hwe))
              cases om with
              | none =>
                have hm : v = .slice none 0 0 := hm
                subst hm
                have h5 := h4
                go_upto_region 33 with (first | go_skip | go_guarded)
                obtain ⟨rl, hrl⟩ : ∃ z, (Ag.running s').length = z := ⟨_, rfl⟩
                have hfine : 0 < rl → s'.clock ≤ 0 := fun e => h5.fine (by rw [hrl]; exact e)
                have hrun := lwRun rl h5.law h5.lim.tasks rfl hrl
                rcases Nat.eq_zero_or_pos rl with hz | hp
                · subst hz
                  go_wp2_with (first | go_skip | go_guarded | (go_at_call 11; (with_reducible refine hrun.mono ?_); rintro e w8 ⟨A8, k8, rfl, hs8, hx8⟩))
                  go_roundw
                  case rel => exact ⟨j + 1, by have := HLE.out; omega, by go_num, (N + 1), s', d', 0, [], none, none, 0, 0, 0, mcs, md, by have := HN.out; omega, by rw [HCK.out], rfl, rfl, rfl, rfl, h5.e0 hx8, hX4.e0 hx8⟩
                  case measure => have := HLE.out; simp [intOf]; omega
                · have hcl : ¬ (0 < (s.clock + 1)) := by have h9 := hfine hp; have h8 := HCK.out; omega
                  have hrp : (0 : Int) < (rl : Int) := by omega
                  go_wp2_with (first | go_skip | go_guarded | (go_at_call 11; (with_reducible refine hrun.mono ?_); rintro e w8 ⟨A8, k8, rfl, hs8, hx8⟩))
                  go_roundw
                  case rel => exact ⟨j + 1, by have := HLE.out; omega, by go_num, (N + 1), s', d', 0, [], none, none, 0, 0, 0, mcs, md, by have := HN.out; omega, by rw [HCK.out], rfl, rfl, rfl, rfl, h5.e0 hx8, hX4.e0 hx8⟩
                  case measure => have := HLE.out; simp [intOf]; omega
              | some mm =>
                obtain ⟨g, cs, rfl, hG, hGI⟩ := hm
                have hmc := Ag.Lim.msg hD.lim HN3.out he
                have g16 : w4.cell? ⟨g, 16, none⟩ = some (.int .i64 mm.op) := (hG.cell 16).trans hGI.op
                have hgl : g ≠ LB → True := fun _ => trivial
                cases hop : (mm.op == 6) with
                | false =>
                  have h4' := h4
                  rw [show Ag.extra s'.clock (some mm) = [] from if_neg (by simpa using hop)] at h4'
                  go_upto_region 30 with (first | go_skip | go_guarded | ((with_reducible refine isLd 51 rfl ?_); refine wpList_load_blk rfl 51 _ rfl STMsg g rfl cs hG hGI.size ?_) | ((with_reducible refine isSt 51 rfl ?_); refine wpList_store_blk rfl 51 _ _ rfl STMsg LB rfl cs rfl h4.last h4.lm.size hGI.size hGI.one ?_; intro w5 hb5 hx5))
                  have h5 := h4'.keep hb5 hGI hmc hx5
                  have hX5 := hX4.ext hx5 (fun e => HXL.out e)
                  have g16 : w5.cell? ⟨g, 16, none⟩ = some (.int .i64 mm.op) := by
                    rcases Decidable.em (g = LB) with e | e
                    · subst e; exact (hb5.cell 16).trans hGI.op
                    · exact hx5.cell g16 (fun e9 => e e9)
                  go_upto_region 33 with (first | go_skip | go_guarded)
                  obtain ⟨rl, hrl⟩ : ∃ z, (Ag.running s').length = z := ⟨_, rfl⟩
                  have hfine : 0 < rl → s'.clock ≤ 0 := fun e => h5.fine (by rw [hrl]; exact e)
                  have hrun := lwRun rl h5.law h5.lim.tasks rfl hrl
                  rcases Nat.eq_zero_or_pos rl with hz | hp
                  · subst hz
                    go_wp2_with (first | go_skip | go_guarded | (go_at_call 11; (with_reducible refine hrun.mono ?_); rintro e w8 ⟨A8, k8, rfl, hs8, hx8⟩))
                    go_roundw
                    case rel => exact ⟨j + 1, by have := HLE.out; omega, by go_num, (N + 1), s', d', 0, [], none, none, 0, 0, 0, cs, mm, by have := HN.out; omega, by rw [HCK.out], rfl, rfl, rfl, rfl, h5.e0 hx8, hX5.e0 hx8⟩
                    case measure => have := HLE.out; simp [intOf]; omega
                  · have hcl : ¬ (0 < (s.clock + 1)) := by have h9 := hfine hp; have h8 := HCK.out; omega
                    have hrp : (0 : Int) < (rl : Int) := by omega
                    go_wp2_with (first | go_skip | go_guarded | (go_at_call 11; (with_reducible refine hrun.mono ?_); rintro e w8 ⟨A8, k8, rfl, hs8, hx8⟩))
                    go_roundw
                    case rel => exact ⟨j + 1, by have := HLE.out; omega, by go_num, (N + 1), s', d', 0, [], none, none, 0, 0, 0, cs, mm, by have := HN.out; omega, by rw [HCK.out], rfl, rfl, rfl, rfl, h5.e0 hx8, hX5.e0 hx8⟩
                    case measure => have := HLE.out; simp [intOf]; omega
                | true =>
                  have h4' := h4
                  rw [show Ag.extra s'.clock (some mm) = [(mm.ctx, s'.clock)] from if_pos (by simpa using hop)] at h4'
                  go_upto_region 30 with (first | go_skip | go_guarded | ((with_reducible refine isLd 51 rfl ?_); refine wpList_load_blk rfl 51 _ rfl STMsg g rfl cs hG hGI.size ?_) | ((with_reducible refine isSt 51 rfl ?_); refine wpList_store_blk rfl 51 _ _ rfl STMsg LB rfl cs rfl h4.last h4.lm.size hGI.size hGI.one ?_; intro w5 hb5 hx5))
                  have h5 := h4'.keep hb5 hGI hmc hx5
                  have hX5 := hX4.ext hx5 (fun e => HXL.out e)
                  have hG5 : Blk w5 g 51 cs := by
                    rcases Decidable.em (g = LB) with e | e
                    · subst e; exact hb5
                    · exact hG.ext hx5 (fun e9 => e e9)
                  have g16 : w5.cell? ⟨g, 16, none⟩ = some (.int .i64 mm.op) := (hG5.cell 16).trans hGI.op
                  have hc9 := h5.lim.clock
                  have hok9 : SentC.Ok (cs, mm.ctx, s'.clock) := ⟨hGI.size, hGI.ctx, hc9.1, by have := HN3.out; show s'.clock < 1099511627777; omega⟩
                  have hm9 : 0 < 67108864 := by have h9 := HMN.out; have h8 := HN3.out; omega
                  have hbw := h5.lb.2.2
                  have hxa : Ext Nothing w5 (w5.alloc (.cells cs 51)) := Ext.auto
                  rw [HCK.out] at h5 hok9
                  go_upto_region 33 with (first | go_skip | go_guarded | ((with_reducible refine isLd 51 rfl ?_); refine wpList_load_blk rfl 51 _ rfl STMsg g rfl cs hG5 hGI.size ?_) | ((with_reducible refine isBs 33 rfl ?_); refine wpList_slice1 rfl 33 _ rfl SRMsg cs rfl hGI.size ?_) | ((with_reducible refine isBs 34 rfl ?_); refine wpList_slice1 rfl 34 _ rfl SRIntG #[.int .i64 (s.clock + 1)] rfl rfl ?_) | (at_builtin; refine wpList_app1a rfl _ _ 33 rfl wB.heap.size SRMsg (.slice none 0 0) 0 _ rfl (own_ext h5.sent hxa (fun g hg e => e)) w5.heap.size 1 cs rfl (Blk.new _ _ _) hGI.size hGI.one hm9 (Nat.le_trans hbw hxa.size) ?_; intro A6 k6 w6 ho6 hgr6 _; have hx6 : Ext (fun q => (Value.slice none 0 0).ownBlock = some q) w5 w6 := (hxa.mono (fun _ _ e => e.elim) : Ext (fun q => (Value.slice none 0 0).ownBlock = some q) w5 _).grown hgr6 (fun g hg => .inr hg); have hA6 := own_ext h5.at_ hx6 (rows_apart h5.sent h5.at_ (by decide)); have hxb : Ext Nothing w6 (w6.alloc (.cells #[.int .i64 (s.clock + 1)] 3)) := Ext.auto) | (at_builtin; refine wpList_app1a rfl _ _ 34 rfl wB.heap.size SRIntG (.slice none 0 0) 0 _ rfl (own_ext hA6 hxb (fun g hg e => e)) w6.heap.size 1 #[.int .i64 (s.clock + 1)] rfl (Blk.new _ _ _) rfl rfl hm9 (Nat.le_trans hbw (Nat.le_trans hx6.size hxb.size)) ?_; intro A7 k7 w7 ho7 hgr7 _))
                  have hx7 : Ext (fun q => (Value.slice none 0 0).ownBlock = some q) w6 w7 := (hxb.mono (fun _ _ e => e.elim) : Ext (fun q => (Value.slice none 0 0).ownBlock = some q) w6 _).grown hgr7 (fun g hg => .inr hg)
                  have h7 := h5.app (by have h9 := HMN.out; omega) hok9 ho6 hx6 ho7 hx7
                  have hX7 := (hX5.ext hx6 (fun e => own_ne h5.sent hX5 (by decide) e)).ext hx7 (fun e => own_ne hA6 (hX5.ext hx6 (fun e => own_ne h5.sent hX5 (by decide) e)) (by decide) e)
                  obtain ⟨rl, hrl⟩ : ∃ z, (Ag.running s').length = z := ⟨_, rfl⟩
                  have hfine : 0 < rl → s'.clock ≤ 0 := fun e => h7.fine (by rw [hrl]; exact e)
                  have hrun := lwRun rl h7.law h7.lim.tasks rfl hrl
                  rcases Nat.eq_zero_or_pos rl with hz | hp
                  · subst hz
                    go_wp2_with (first | go_skip | go_guarded | (go_at_call 11; (with_reducible refine hrun.mono ?_); rintro e w8 ⟨A8, k8, rfl, hs8, hx8⟩))
                    go_roundw
                    case rel => exact ⟨j + 1, by have := HLE.out; omega, by go_num, (N + 1), s', d', 0, ([] ++ [(cs, mm.ctx, s.clock + 1)]), A6, A7, (0 + 1), k6, k7, cs, mm, by have := HN.out; omega, by rw [HCK.out], rfl, rfl, rfl, rfl, h7.e0 hx8, hX7.e0 hx8⟩
                    case measure => have := HLE.out; simp [intOf]; omega
                  · have hcl : ¬ (0 < (s.clock + 1)) := by have h9 := hfine hp; have h8 := HCK.out; omega
                    have hrp : (0 : Int) < (rl : Int) := by omega
                    go_wp2_with (first | go_skip | go_guarded | (go_at_call 11; (with_reducible refine hrun.mono ?_); rintro e w8 ⟨A8, k8, rfl, hs8, hx8⟩))
                    go_roundw
                    case rel => exact ⟨j + 1, by have := HLE.out; omega, by go_num, (N + 1), s', d', 0, ([] ++ [(cs, mm.ctx, s.clock + 1)]), A6, A7, (0 + 1), k6, k7, cs, mm, by have := HN.out; omega, by rw [HCK.out], rfl, rfl, rfl, rfl, h7.e0 hx8, hX7.e0 hx8⟩
                    case measure => have := HLE.out; simp [intOf]; omega
          · have hnl : ¬ ((j : Int) ≤ pk) := hle
            have HN := Lib.hid hN
            go_wp2_with (first | go_skip | go_guarded | (go_at_call 8; (with_reducible refine (lawPick x.n 12 wr HX64.out (by omega) (by omega)).mono ?_); rintro e wP ⟨rfl, hwp⟩; rw [hwp]; clear hwp; rw [HPK.out]))
            go_roundw
            case rel => exact ⟨t + 1, HT.out.1, by go_num, N, s, d, ls, L, SA, TA, m, c1, c2, mcs, md, by have := HN.out; omega, rfl, rfl, rfl, rfl, rfl, hD⟩
            case measure => have := HT.out; simp [intOf]; omega
      · have hpk := pickZ_lt x.n (n := 12) (by omega)
        generalize hpq : pickZ x.n 12 = pk at hpk
        have HPK := Lib.hid hpq
        clear hpq
        go_upto_region 19 with (first | go_skip | go_guarded)
        go_loopw [5, 6, 7, 8, 9, 13] (fun clk lsv ep sv av kv wr => ∃ j : Nat, (j : Int) ≤ pk + 1 ∧ kv = .int .i64 j ∧ ∃ N' s' d' ls' L' SA' TA' m' k1' k2' mcs' md', N' ≤ 13 * t + j ∧ clk = .int .i64 s'.clock ∧ lsv = .int .i64 ls' ∧ ep = .int .i64 s'.epoch ∧ sv = .slice SA' m' k1' ∧ av = .slice TA' m' k2' ∧ LeD W wB wr a b LB N' s' d' ls' L' SA' TA' m' k1' k2' mcs' md' [] ∧ Blk wr X 53 x.cells.toArray) (fun _ _ _ _ _ kv _ => 14 - (intOf kv).toNat)
        case atStart => exact ⟨0, by omega, rfl, N, s, d, ls, L, SA, TA, m, c1, c2, mcs, md, by have := HN2.out; omega, rfl, rfl, rfl, rfl, rfl, hD3, hX3⟩
        case round =>
          clear hD3 hX3
          obtain ⟨j, hj, rfl, N, s, d, ls, L, SA, TA, m, c1, c2, mcs, md, hN, rfl, rfl, rfl, rfl, rfl, hD, hX⟩ := hrel
          have x1 : wr.cell? ⟨X, 1, none⟩ = some (.int .i64 x.n) := hX.cell 1
          by_cases hle : (j : Int) ≤ pk
          · have HLE := Lib.hid (show (j : Int) ≤ pk ∧ pk < 12 from ⟨hle, hpk.2⟩)
            have HN := Lib.hid hN
            have HN3 := Lib.hid (show N ≤ 33000000 by have := HT.out; omega)
            have HMN := Lib.hid hD.few
            have hck := hD.lim.clock
            obtain ⟨hc0, hc1⟩ := hck
            have hc2 : s.clock < 1099511627776 := by have := HN3.out; omega
            generalize he : Ag.tick s d = r
            obtain ⟨s', d', om, er⟩ := r
            have hcall := lwTick hD.law hD.lim HN3.out he
            clear hN hc1
            go_upto_region 23 with (first | go_skip | go_guarded | (go_at_call 8; (with_reducible refine (lawPick x.n 12 wr HX64.out (by omega) (by omega)).mono ?_); rintro e wP ⟨rfl, hwp⟩; rw [hwp]; clear hwp; rw [HPK.out]) | (go_at_call 9; (with_reducible refine hcall.mono ?_); rintro e w4 ⟨v, rfl, hm, hl4, hx4⟩))
            obtain ⟨hck, hsame, hdiff⟩ := hD.tick he hl4 hx4
            have HCK := Lib.hid (show s'.clock = s.clock + 1 from hck)
            have hX4 := hX.law hx4 (by decide) (by decide) (by decide)
            clear hcall hck hle hc0 hc2 x1 hX
            cases hE : (s'.epoch != s.epoch) with
            | false =>
              have heq : s'.epoch = s.epoch := by simpa using hE
              have h4 := hsame heq
              clear hsame hdiff
              go_upto_region 28 with (first | go_skip | go_guarded | (go_at_call 10; (with_reducible refine (lwEpoch hl4).mono ?_); rintro e wE ⟨rfl, hwe⟩; rw [hwe]; clear hwe))
              cases om with
              | none =>
                have hm : v = .slice none 0 0 := hm
                subst hm
                have h5 := h4
                go_upto_region 33 with (first | go_skip | go_guarded)
                obtain ⟨rl, hrl⟩ : ∃ z, (Ag.running s').length = z := ⟨_, rfl⟩
                have hfine : 0 < rl → s'.clock ≤ ls := fun e => h5.fine (by rw [hrl]; exact e)
                have hrun := lwRun rl h5.law h5.lim.tasks rfl hrl
                rcases Nat.eq_zero_or_pos rl with hz | hp
                · subst hz
                  go_wp2_with (first | go_skip | go_guarded | (go_at_call 11; (with_reducible refine hrun.mono ?_); rintro e w8 ⟨A8, k8, rfl, hs8, hx8⟩))
                  go_roundw
                  case rel => exact ⟨j + 1, by have := HLE.out; omega, by go_num, (N + 1), s', d', ls, L, SA, TA, m, c1, c2, mcs, md, by have := HN.out; omega, by rw [HCK.out], rfl, by rw [heq], rfl, rfl, h5.e0 hx8, hX4.e0 hx8⟩
                  case measure => have := HLE.out; simp [intOf]; omega
                · have hcl : ¬ (ls < (s.clock + 1)) := by have h9 := hfine hp; have h8 := HCK.out; omega
                  have hrp : (0 : Int) < (rl : Int) := by omega
                  go_wp2_with (first | go_skip | go_guarded | (go_at_call 11; (with_reducible refine hrun.mono ?_); rintro e w8 ⟨A8, k8, rfl, hs8, hx8⟩))
                  go_roundw
                  case rel => exact ⟨j + 1, by have := HLE.out; omega, by go_num, (N + 1), s', d', ls, L, SA, TA, m, c1, c2, mcs, md, by have := HN.out; omega, by rw [HCK.out], rfl, by rw [heq], rfl, rfl, h5.e0 hx8, hX4.e0 hx8⟩
                  case measure => have := HLE.out; simp [intOf]; omega
              | some mm =>
                obtain ⟨g, cs, rfl, hG, hGI⟩ := hm
                have hmc := Ag.Lim.msg hD.lim HN3.out he
                have g16 : w4.cell? ⟨g, 16, none⟩ = some (.int .i64 mm.op) := (hG.cell 16).trans hGI.op
                have hgl : g ≠ LB → True := fun _ => trivial
                cases hop : (mm.op == 6) with
                | false =>
                  have h4' := h4
                  rw [show Ag.extra s'.clock (some mm) = [] from if_neg (by simpa using hop)] at h4'
                  go_upto_region 30 with (first | go_skip | go_guarded | ((with_reducible refine isLd 51 rfl ?_); refine wpList_load_blk rfl 51 _ rfl STMsg g rfl cs hG hGI.size ?_) | ((with_reducible refine isSt 51 rfl ?_); refine wpList_store_blk rfl 51 _ _ rfl STMsg LB rfl cs rfl h4.last h4.lm.size hGI.size hGI.one ?_; intro w5 hb5 hx5))
                  have h5 := h4'.keep hb5 hGI hmc hx5
                  have hX5 := hX4.ext hx5 (fun e => HXL.out e)
                  have g16 : w5.cell? ⟨g, 16, none⟩ = some (.int .i64 mm.op) := by
                    rcases Decidable.em (g = LB) with e | e
                    · subst e; exact (hb5.cell 16).trans hGI.op
                    · exact hx5.cell g16 (fun e9 => e e9)
                  go_upto_region 33 with (first | go_skip | go_guarded)
                  obtain ⟨rl, hrl⟩ : ∃ z, (Ag.running s').length = z := ⟨_, rfl⟩
                  have hfine : 0 < rl → s'.clock ≤ ls := fun e => h5.fine (by rw [hrl]; exact e)
                  have hrun := lwRun rl h5.law h5.lim.tasks rfl hrl
                  rcases Nat.eq_zero_or_pos rl with hz | hp
                  · subst hz
                    go_wp2_with (first | go_skip | go_guarded | (go_at_call 11; (with_reducible refine hrun.mono ?_); rintro e w8 ⟨A8, k8, rfl, hs8, hx8⟩))
                    go_roundw
                    case rel => exact ⟨j + 1, by have := HLE.out; omega, by go_num, (N + 1), s', d', ls, L, SA, TA, m, c1, c2, cs, mm, by have := HN.out; omega, by rw [HCK.out], rfl, by rw [heq], rfl, rfl, h5.e0 hx8, hX5.e0 hx8⟩
                    case measure => have := HLE.out; simp [intOf]; omega
                  · have hcl : ¬ (ls < (s.clock + 1)) := by have h9 := hfine hp; have h8 := HCK.out; omega
                    have hrp : (0 : Int) < (rl : Int) := by omega
                    go_wp2_with (first | go_skip | go_guarded | (go_at_call 11; (with_reducible refine hrun.mono ?_); rintro e w8 ⟨A8, k8, rfl, hs8, hx8⟩))
                    go_roundw
                    case rel => exact ⟨j + 1, by have := HLE.out; omega, by go_num, (N + 1), s', d', ls, L, SA, TA, m, c1, c2, cs, mm, by have := HN.out; omega, by rw [HCK.out], rfl, by rw [heq], rfl, rfl, h5.e0 hx8, hX5.e0 hx8⟩
                    case measure => have := HLE.out; simp [intOf]; omega
                | true =>
                  have h4' := h4
                  rw [show Ag.extra s'.clock (some mm) = [(mm.ctx, s'.clock)] from if_pos (by simpa using hop)] at h4'
                  go_upto_region 30 with (first | go_skip | go_guarded | ((with_reducible refine isLd 51 rfl ?_); refine wpList_load_blk rfl 51 _ rfl STMsg g rfl cs hG hGI.size ?_) | ((with_reducible refine isSt 51 rfl ?_); refine wpList_store_blk rfl 51 _ _ rfl STMsg LB rfl cs rfl h4.last h4.lm.size hGI.size hGI.one ?_; intro w5 hb5 hx5))
                  have h5 := h4'.keep hb5 hGI hmc hx5
                  have hX5 := hX4.ext hx5 (fun e => HXL.out e)
                  have hG5 : Blk w5 g 51 cs := by
                    rcases Decidable.em (g = LB) with e | e
                    · subst e; exact hb5
                    · exact hG.ext hx5 (fun e9 => e e9)
                  have g16 : w5.cell? ⟨g, 16, none⟩ = some (.int .i64 mm.op) := (hG5.cell 16).trans hGI.op
                  have hc9 := h5.lim.clock
                  have hok9 : SentC.Ok (cs, mm.ctx, s'.clock) := ⟨hGI.size, hGI.ctx, hc9.1, by have := HN3.out; show s'.clock < 1099511627777; omega⟩
                  have hm9 : m < 67108864 := by have h9 := HMN.out; have h8 := HN3.out; omega
                  have hbw := h5.lb.2.2
                  have hxa : Ext Nothing w5 (w5.alloc (.cells cs 51)) := Ext.auto
                  rw [HCK.out] at h5 hok9
                  go_upto_region 33 with (first | go_skip | go_guarded | ((with_reducible refine isLd 51 rfl ?_); refine wpList_load_blk rfl 51 _ rfl STMsg g rfl cs hG5 hGI.size ?_) | ((with_reducible refine isBs 33 rfl ?_); refine wpList_slice1 rfl 33 _ rfl SRMsg cs rfl hGI.size ?_) | ((with_reducible refine isBs 34 rfl ?_); refine wpList_slice1 rfl 34 _ rfl SRIntG #[.int .i64 (s.clock + 1)] rfl rfl ?_) | (at_builtin; refine wpList_app1a rfl _ _ 33 rfl wB.heap.size SRMsg (.slice SA m c1) m _ rfl (own_ext h5.sent hxa (fun g hg e => e)) w5.heap.size 1 cs rfl (Blk.new _ _ _) hGI.size hGI.one hm9 (Nat.le_trans hbw hxa.size) ?_; intro A6 k6 w6 ho6 hgr6 _; have hx6 : Ext (fun q => (Value.slice SA m c1).ownBlock = some q) w5 w6 := (hxa.mono (fun _ _ e => e.elim) : Ext (fun q => (Value.slice SA m c1).ownBlock = some q) w5 _).grown hgr6 (fun g hg => .inr hg); have hA6 := own_ext h5.at_ hx6 (rows_apart h5.sent h5.at_ (by decide)); have hxb : Ext Nothing w6 (w6.alloc (.cells #[.int .i64 (s.clock + 1)] 3)) := Ext.auto) | (at_builtin; refine wpList_app1a rfl _ _ 34 rfl wB.heap.size SRIntG (.slice TA m c2) m _ rfl (own_ext hA6 hxb (fun g hg e => e)) w6.heap.size 1 #[.int .i64 (s.clock + 1)] rfl (Blk.new _ _ _) rfl rfl hm9 (Nat.le_trans hbw (Nat.le_trans hx6.size hxb.size)) ?_; intro A7 k7 w7 ho7 hgr7 _))
                  have hx7 : Ext (fun q => (Value.slice TA m c2).ownBlock = some q) w6 w7 := (hxb.mono (fun _ _ e => e.elim) : Ext (fun q => (Value.slice TA m c2).ownBlock = some q) w6 _).grown hgr7 (fun g hg => .inr hg)
                  have h7 := h5.app (by have h9 := HMN.out; omega) hok9 ho6 hx6 ho7 hx7
                  have hX7 := (hX5.ext hx6 (fun e => own_ne h5.sent hX5 (by decide) e)).ext hx7 (fun e => own_ne hA6 (hX5.ext hx6 (fun e => own_ne h5.sent hX5 (by decide) e)) (by decide) e)
                  obtain ⟨rl, hrl⟩ : ∃ z, (Ag.running s').length = z := ⟨_, rfl⟩
                  have hfine : 0 < rl → s'.clock ≤ ls := fun e => h7.fine (by rw [hrl]; exact e)
                  have hrun := lwRun rl h7.law h7.lim.tasks rfl hrl
                  rcases Nat.eq_zero_or_pos rl with hz | hp
                  · subst hz
                    go_wp2_with (first | go_skip | go_guarded | (go_at_call 11; (with_reducible refine hrun.mono ?_); rintro e w8 ⟨A8, k8, rfl, hs8, hx8⟩))
                    go_roundw
                    case rel => exact ⟨j + 1, by have := HLE.out; omega, by go_num, (N + 1), s', d', ls, (L ++ [(cs, mm.ctx, s.clock + 1)]), A6, A7, (m + 1), k6, k7, cs, mm, by have := HN.out; omega, by rw [HCK.out], rfl, by rw [heq], rfl, rfl, h7.e0 hx8, hX7.e0 hx8⟩
                    case measure => have := HLE.out; simp [intOf]; omega
                  · have hcl : ¬ (ls < (s.clock + 1)) := by have h9 := hfine hp; have h8 := HCK.out; omega
                    have hrp : (0 : Int) < (rl : Int) := by omega
                    go_wp2_with (first | go_skip | go_guarded | (go_at_call 11; (with_reducible refine hrun.mono ?_); rintro e w8 ⟨A8, k8, rfl, hs8, hx8⟩))
                    go_roundw
                    case rel => exact ⟨j + 1, by have := HLE.out; omega, by go_num, (N + 1), s', d', ls, (L ++ [(cs, mm.ctx, s.clock + 1)]), A6, A7, (m + 1), k6, k7, cs, mm, by have := HN.out; omega, by rw [HCK.out], rfl, by rw [heq], rfl, rfl, h7.e0 hx8, hX7.e0 hx8⟩
                    case measure => have := HLE.out; simp [intOf]; omega
            | true =>
              have hne : s'.epoch ≠ s.epoch := by simpa using hE
              have h4 := hdiff hne
              have HMN := Lib.hid (Nat.zero_le N)
              clear hsame hdiff
              go_upto_region 28 with (first | go_skip | go_guarded | (go_at_call 10; (with_reducible refine (lwEpoch hl4).mono ?_); rintro e wE ⟨rfl, hwe⟩; rw [hwe]; clear hwe))
              cases om with
              | none =>
                have hm : v = .slice none 0 0 := hm
                subst hm
                have h5 := h4
                go_upto_region 33 with (first | go_skip | go_guarded)
                obtain ⟨rl, hrl⟩ : ∃ z, (Ag.running s').length = z := ⟨_, rfl⟩
                have hfine : 0 < rl → s'.clock ≤ 0 := fun e => h5.fine (by rw [hrl]; exact e)
                have hrun := lwRun rl h5.law h5.lim.tasks rfl hrl
                rcases Nat.eq_zero_or_pos rl with hz | hp
                · subst hz
                  go_wp2_with (first | go_skip | go_guarded | (go_at_call 11; (with_reducible refine hrun.mono ?_); rintro e w8 ⟨A8, k8, rfl, hs8, hx8⟩))
                  go_roundw
                  case rel => exact ⟨j + 1, by have := HLE.out; omega, by go_num, (N + 1), s', d', 0, [], none, none, 0, 0, 0, mcs, md, by have := HN.out; omega, by rw [HCK.out], rfl, rfl, rfl, rfl, h5.e0 hx8, hX4.e0 hx8⟩
                  case measure => have := HLE.out; simp [intOf]; omega
                · have hcl : ¬ (0 < (s.clock + 1)) := by have h9 := hfine hp; have h8 := HCK.out; omega
                  have hrp : (0 : Int) < (rl : Int) := by omega
                  go_wp2_with (first | go_skip | go_guarded | (go_at_call 11; (with_reducible refine hrun.mono ?_); rintro e w8 ⟨A8, k8, rfl, hs8, hx8⟩))
                  go_roundw
                  case rel => exact ⟨j + 1, by have := HLE.out; omega, by go_num, (N + 1), s', d', 0, [], none, none, 0, 0, 0, mcs, md, by have := HN.out; omega, by rw [HCK.out], rfl, rfl, rfl, rfl, h5.e0 hx8, hX4.e0 hx8⟩
                  case measure => have := HLE.out; simp [intOf]; omega
              | some mm =>
                obtain ⟨g, cs, rfl, hG, hGI⟩ := hm
                have hmc := Ag.Lim.msg hD.lim HN3.out he
                have g16 : w4.cell? ⟨g, 16, none⟩ = some (.int .i64 mm.op) := (hG.cell 16).trans hGI.op
                have hgl : g ≠ LB → True := fun _ => trivial
                cases hop : (mm.op == 6) with
                | false =>
                  have h4' := h4
                  rw [show Ag.extra s'.clock (some mm) = [] from if_neg (by simpa using hop)] at h4'
                  go_upto_region 30 with (first | go_skip | go_guarded | ((with_reducible refine isLd 51 rfl ?_); refine wpList_load_blk rfl 51 _ rfl STMsg g rfl cs hG hGI.size ?_) | ((with_reducible refine isSt 51 rfl ?_); refine wpList_store_blk rfl 51 _ _ rfl STMsg LB rfl cs rfl h4.last h4.lm.size hGI.size hGI.one ?_; intro w5 hb5 hx5))
                  have h5 := h4'.keep hb5 hGI hmc hx5
                  have hX5 := hX4.ext hx5 (fun e => HXL.out e)
                  have g16 : w5.cell? ⟨g, 16, none⟩ = some (.int .i64 mm.op) := by
                    rcases Decidable.em (g = LB) with e | e
                    · subst e; exact (hb5.cell 16).trans hGI.op
                    · exact hx5.cell g16 (fun e9 => e e9)
                  go_upto_region 33 with (first | go_skip | go_guarded)
                  obtain ⟨rl, hrl⟩ : ∃ z, (Ag.running s').length = z := ⟨_, rfl⟩
                  have hfine : 0 < rl → s'.clock ≤ 0 := fun e => h5.fine (by rw [hrl]; exact e)
                  have hrun := lwRun rl h5.law h5.lim.tasks rfl hrl
                  rcases Nat.eq_zero_or_pos rl with hz | hp
                  · subst hz
                    go_wp2_with (first | go_skip | go_guarded | (go_at_call 11; (with_reducible refine hrun.mono ?_); rintro e w8 ⟨A8, k8, rfl, hs8, hx8⟩))
                    go_roundw
                    case rel => exact ⟨j + 1, by have := HLE.out; omega, by go_num, (N + 1), s', d', 0, [], none, none, 0, 0, 0, cs, mm, by have := HN.out; omega, by rw [HCK.out], rfl, rfl, rfl, rfl, h5.e0 hx8, hX5.e0 hx8⟩
                    case measure => have := HLE.out; simp [intOf]; omega
                  · have hcl : ¬ (0 < (s.clock + 1)) := by have h9 := hfine hp; have h8 := HCK.out; omega
                    have hrp : (0 : Int) < (rl : Int) := by omega
                    go_wp2_with (first | go_skip | go_guarded | (go_at_call 11; (with_reducible refine hrun.mono ?_); rintro e w8 ⟨A8, k8, rfl, hs8, hx8⟩))
                    go_roundw
                    case rel => exact ⟨j + 1, by have := HLE.out; omega, by go_num, (N + 1), s', d', 0, [], none, none, 0, 0, 0, cs, mm, by have := HN.out; omega, by rw [HCK.out], rfl, rfl, rfl, rfl, h5.e0 hx8, hX5.e0 hx8⟩
                    case measure => have := HLE.out; simp [intOf]; omega
                | true =>
                  have h4' := h4
                  rw [show Ag.extra s'.clock (some mm) = [(mm.ctx, s'.clock)] from if_pos (by simpa using hop)] at h4'
                  go_upto_region 30 with (first | go_skip | go_guarded | ((with_reducible refine isLd 51 rfl ?_); refine wpList_load_blk rfl 51 _ rfl STMsg g rfl cs hG hGI.size ?_) | ((with_reducible refine isSt 51 rfl ?_); refine wpList_store_blk rfl 51 _ _ rfl STMsg LB rfl cs rfl h4.last h4.lm.size hGI.size hGI.one ?_; intro w5 hb5 hx5))
                  have h5 := h4'.keep hb5 hGI hmc hx5
                  have hX5 := hX4.ext hx5 (fun e => HXL.out e)
                  have hG5 : Blk w5 g 51 cs := by
                    rcases Decidable.em (g = LB) with e | e
                    · subst e; exact hb5
                    · exact hG.ext hx5 (fun e9 => e e9)
                  have g16 : w5.cell? ⟨g, 16, none⟩ = some (.int .i64 mm.op) := (hG5.cell 16).trans hGI.op
                  have hc9 := h5.lim.clock
                  have hok9 : SentC.Ok (cs, mm.ctx, s'.clock) := ⟨hGI.size, hGI.ctx, hc9.1, by have := HN3.out; show s'.clock < 1099511627777; omega⟩
                  have hm9 : 0 < 67108864 := by have h9 := HMN.out; have h8 := HN3.out; omega
                  have hbw := h5.lb.2.2
                  have hxa : Ext Nothing w5 (w5.alloc (.cells cs 51)) := Ext.auto
                  rw [HCK.out] at h5 hok9
                  go_upto_region 33 with (first | go_skip | go_guarded | ((with_reducible refine isLd 51 rfl ?_); refine wpList_load_blk rfl 51 _ rfl STMsg g rfl cs hG5 hGI.size ?_) | ((with_reducible refine isBs 33 rfl ?_); refine wpList_slice1 rfl 33 _ rfl SRMsg cs rfl hGI.size ?_) | ((with_reducible refine isBs 34 rfl ?_); refine wpList_slice1 rfl 34 _ rfl SRIntG #[.int .i64 (s.clock + 1)] rfl rfl ?_) | (at_builtin; refine wpList_app1a rfl _ _ 33 rfl wB.heap.size SRMsg (.slice none 0 0) 0 _ rfl (own_ext h5.sent hxa (fun g hg e => e)) w5.heap.size 1 cs rfl (Blk.new _ _ _) hGI.size hGI.one hm9 (Nat.le_trans hbw hxa.size) ?_; intro A6 k6 w6 ho6 hgr6 _; have hx6 : Ext (fun q => (Value.slice none 0 0).ownBlock = some q) w5 w6 := (hxa.mono (fun _ _ e => e.elim) : Ext (fun q => (Value.slice none 0 0).ownBlock = some q) w5 _).grown hgr6 (fun g hg => .inr hg); have hA6 := own_ext h5.at_ hx6 (rows_apart h5.sent h5.at_ (by decide)); have hxb : Ext Nothing w6 (w6.alloc (.cells #[.int .i64 (s.clock + 1)] 3)) := Ext.auto) | (at_builtin; refine wpList_app1a rfl _ _ 34 rfl wB.heap.size SRIntG (.slice none 0 0) 0 _ rfl (own_ext hA6 hxb (fun g hg e => e)) w6.heap.size 1 #[.int .i64 (s.clock + 1)] rfl (Blk.new _ _ _) rfl rfl hm9 (Nat.le_trans hbw (Nat.le_trans hx6.size hxb.size)) ?_; intro A7 k7 w7 ho7 hgr7 _))
                  have hx7 : Ext (fun q => (Value.slice none 0 0).ownBlock = some q) w6 w7 := (hxb.mono (fun _ _ e => e.elim) : Ext (fun q => (Value.slice none 0 0).ownBlock = some q) w6 _).grown hgr7 (fun g hg => .inr hg)
                  have h7 := h5.app (by have h9 := HMN.out; omega) hok9 ho6 hx6 ho7 hx7
                  have hX7 := (hX5.ext hx6 (fun e => own_ne h5.sent hX5 (by decide) e)).ext hx7 (fun e => own_ne hA6 (hX5.ext hx6 (fun e => own_ne h5.sent hX5 (by decide) e)) (by decide) e)
                  obtain ⟨rl, hrl⟩ : ∃ z, (Ag.running s').length = z := ⟨_, rfl⟩
                  have hfine : 0 < rl → s'.clock ≤ 0 := fun e => h7.fine (by rw [hrl]; exact e)
                  have hrun := lwRun rl h7.law h7.lim.tasks rfl hrl
                  rcases Nat.eq_zero_or_pos rl with hz | hp
                  · subst hz
                    go_wp2_with (first | go_skip | go_guarded | (go_at_call 11; (with_reducible refine hrun.mono ?_); rintro e w8 ⟨A8, k8, rfl, hs8, hx8⟩))
                    go_roundw
                    case rel => exact ⟨j + 1, by have := HLE.out; omega, by go_num, (N + 1), s', d', 0, ([] ++ [(cs, mm.ctx, s.clock + 1)]), A6, A7, (0 + 1), k6, k7, cs, mm, by have := HN.out; omega, by rw [HCK.out], rfl, rfl, rfl, rfl, h7.e0 hx8, hX7.e0 hx8⟩
                    case measure => have := HLE.out; simp [intOf]; omega
                  · have hcl : ¬ (0 < (s.clock + 1)) := by have h9 := hfine hp; have h8 := HCK.out; omega
                    have hrp : (0 : Int) < (rl : Int) := by omega
                    go_wp2_with (first | go_skip | go_guarded | (go_at_call 11; (with_reducible refine hrun.mono ?_); rintro e w8 ⟨A8, k8, rfl, hs8, hx8⟩))
                    go_roundw
                    case rel => exact ⟨j + 1, by have := HLE.out; omega, by go_num, (N + 1), s', d', 0, ([] ++ [(cs, mm.ctx, s.clock + 1)]), A6, A7, (0 + 1), k6, k7, cs, mm, by have := HN.out; omega, by rw [HCK.out], rfl, rfl, rfl, rfl, h7.e0 hx8, hX7.e0 hx8⟩
                    case measure => have := HLE.out; simp [intOf]; omega
          · have hnl : ¬ ((j : Int) ≤ pk) := hle
            have HN := Lib.hid hN
            go_wp2_with (first | go_skip | go_guarded | (go_at_call 8; (with_reducible refine (lawPick x.n 12 wr HX64.out (by omega) (by omega)).mono ?_); rintro e wP ⟨rfl, hwp⟩; rw [hwp]; clear hwp; rw [HPK.out]))
            go_roundw
            case rel => exact ⟨t + 1, HT.out.1, by go_num, N, s, d, ls, L, SA, TA, m, c1, c2, mcs, md, by have := HN.out; omega, rfl, rfl, rfl, rfl, rfl, hD⟩
            case measure => have := HT.out; simp [intOf]; omega
    · have hnl : ¬ ((t : Int) < n) := by omega
      have hli := lawLives wr (htab.ext hD.law.ext)
      go_wp2_with (first | go_skip | go_guarded | (go_at_call 16; (with_reducible refine hli.mono ?_); rintro e w9 ⟨rfl, hx9⟩))
      go_ret
      exact ⟨rfl, hD.law.ext.tr hx9⟩
end Go.Proofs.YtockcifkphfnlaaGreatDoor
