/- Life: the reference's Tick. -/
import Derived.Test.YtaibifaeljnchaaLifeE
namespace Go.Proofs.Ytaibifaeljnchaa
set_option linter.unusedVariables false
open Go.RowKit
open Go.Maps (Keyed)

theorem goesF_len (L N : List (Key × Int)) (k : Key) (en : Int) : (goesF L N k en).1.length ≤ N.length + 1 := by
  unfold goesF
  split
  · simp
  · split <;> (try dsimp only) <;> split <;> simp
theorem stepN_len1 (L : List (Key × Int)) (s : St) (x : NodeD) : (stepN L s x).1.length ≤ s.1.length + 1 := by
  unfold stepN; split
  · exact goesF_len _ _ _ _
  · omega
theorem stepD_len1 (L : List (Key × Int)) (s : St) (x : DeployD) : (stepD L s x).1.length ≤ s.1.length + 1 := by
  unfold stepD; split
  · exact goesF_len _ _ _ _
  · omega
theorem foldl_len1 {α : Type} {f : St → α → St} (hf : ∀ s x, (f s x).1.length ≤ s.1.length + 1) : ∀ (l : List α) (s : St), (l.foldl f s).1.length ≤ s.1.length + l.length
  | [], s => by simp
  | x :: r, s => by
    have h1 := foldl_len1 hf r (f s x)
    have h2 := hf s x
    simp only [List.foldl_cons, List.length_cons]; omega

structure RInv (w wr : World) (sc : Array Value) (v5 v6 : Value) (s : St) : Prop where
  ext : Ext Nothing w wr
  sb : Blk wr w.heap.size 35 sc
  o5 : wr.ownsRow (w.heap.size + 1) 75 5 v5 s.1.length (s.1.flatMap clkC)
  o6 : wr.ownsRow (w.heap.size + 1) 49 27 v6 s.2.length (s.2.flatMap Ask.cells)
  ok : LOk s.1
  len : w.heap.size + 1 ≤ wr.heap.size
section
variable {w wr w2 : World} {sc : Array Value} {v5 v6 v5' v6' : Value} {s : St}
theorem RInv.shape5 (h : RInv w wr sc v5 v6 s) : ∃ A c, v5 = .slice A s.1.length c := own_slice h.o5
theorem RInv.shape6 (h : RInv w wr sc v5 v6 s) : ∃ A c, v6 = .slice A s.2.length c := own_slice h.o6
theorem RInv.alloc (h : RInv w wr sc v5 v6 s) (o : Obj) : RInv w (wr.alloc o) sc v5 v6 s := by
  have he : Ext Nothing wr (wr.alloc o) := (Ext.refl _ _).alloc _
  obtain ⟨h1, h2, h3, h4, h5, h6⟩ := h
  exact ⟨h1.alloc _, h2.ext he (fun e => e), own_ext h3 he (fun _ _ e => e), own_ext h4 he (fun _ _ e => e), h5, by simp; omega⟩
theorem RInv.own5_ne (h : RInv w wr sc v5 v6 s) {g t : Nat} {cs : Array Value} (hg : w.heap.size ≤ g) (hb : Blk wr g t cs) (ht : t ≠ 75) : ¬ v5.ownBlock = some g := own_ne h.o5 hb (Ne.symm ht)
theorem RInv.call (h : RInv w wr sc v5 v6 s) (hx : Ext (fun b => v5.ownBlock = some b) wr w2) {N' : List (Key × Int)} (ho : w2.ownsRow (w.heap.size + 1) 75 5 v5' N'.length (N'.flatMap clkC)) (hok : LOk N') : RInv w w2 sc v5' v6 (N', s.2) := by
  obtain ⟨h1, h2, h3, h4, h5, h6⟩ := h
  refine ⟨h1.trans hx (fun b hb e => ?_), h2.ext hx (fun e => ?_), ho, own_ext h4 hx (fun g e e' => own_ne2 h3 h4 (by decide) e' e), hok, Nat.le_trans h6 hx.size⟩
  · have := own_ge h3 e; omega
  · have := own_ge h3 e; omega
theorem RInv.app (h : RInv w wr sc v5 v6 s) (hx : wr.grownBy w2 v6.ownBlock) (q : Ask) (ho : w2.ownsRow (w.heap.size + 1) 49 27 v6' (s.2.length + 1) (s.2.flatMap Ask.cells ++ q.cells.toArray.toList)) : RInv w w2 sc v5 v6' (s.1, s.2 ++ if true = true then [q] else []) := by
  have hx' : Ext (fun b => v6.ownBlock = some b) wr w2 := Ext.of_grown hx (fun g e => e)
  obtain ⟨h1, h2, h3, h4, h5, h6⟩ := h
  refine ⟨h1.trans hx' (fun b hb e => ?_), h2.ext hx' (fun e => ?_), own_ext h3 hx' (fun g e e' => own_ne2 h4 h3 (by decide) e' e), by simpa using ho, h5, Nat.le_trans h6 hx'.size⟩
  · have := own_ge h4 e; omega
  · have := own_ge h4 e; omega
end

set_option maxRecDepth 100000 in
set_option maxHeartbeats 2000000 in
theorem rtick_any (B : Nat) (w : World) (rl : Nat) (L : List (Key × Int)) (hR : RefIs B w rl L)
    (A1 A2 : Option Addr) (n1 n2 c1 c2 : Nat) (ns : List NodeD) (ds : List DeployD) (hn : Sl w 8 A1 n1 (ns.map NodeD.cells)) (hd : Sl w 4 A2 n2 (ds.map DeployD.cells))
    (hl1 : n1 ≤ 1048576) (hl2 : n2 ≤ 1048576) (s0 s1 s2 s3 s5 s6 s8 : Value) :
    Calls Try.prog 13 #[.pointer (some ⟨rl, 0, none⟩), .agg #[s0, s1, s2, s3, .slice A1 n1 c1, s5, s6, .slice A2 n2 c2, s8]] w fun e w' =>
      ∃ A c, e = .returned (.slice A (tickF L ns ds).2.length c) ∧ Ext (fun b => b = rl) w w' ∧ RefIs B w' rl (tickF L ns ds).1 ∧ Sl w' 27 A (tickF L ns ds).2.length ((tickF L ns ds).2.map Ask.cells) := by
  have hx0 : Ext Nothing w (w.alloc (.cells #[s0, s1, s2, s3, .slice A1 n1 c1, s5, s6, .slice A2 n2 c2, s8] 35)) := (Ext.refl _ _).alloc _
  have hst : RInv w (w.alloc (.cells #[s0, s1, s2, s3, .slice A1 n1 c1, s5, s6, .slice A2 n2 c2, s8] 35)) #[s0, s1, s2, s3, .slice A1 n1 c1, s5, s6, .slice A2 n2 c2, s8] (.slice none 0 0) (.slice none 0 0) ([], []) := ⟨hx0, Blk.new' _ _ _ rfl, World.ownsRow_nil _ _ _ _, World.ownsRow_nil _ _ _ _, fun p hp => by simp at hp, by simp⟩
  go_enter Try.func13, Try.ntmps13
  go_wp2
  go_loopw [5, 6, 7] (fun v5 v6 i wr => ∃ k : Nat, k ≤ n1 ∧ i = .int .i64 k ∧ RInv w wr #[s0, s1, s2, s3, .slice A1 n1 c1, s5, s6, .slice A2 n2 c2, s8] v5 v6 ((ns.take k).foldl (stepN L) ([], [])))
    (fun _ _ i _ => n1 - (intOf i).toNat)
  case atStart => exact ⟨0, Nat.zero_le _, rfl, hst⟩
  case round =>
    clear hst
    obtain ⟨k, hk, rfl, hinv⟩ := hrel
    have qs : wr.cell? ⟨w.heap.size, 4, none⟩ = some (.slice A1 n1 c1) := hinv.sb.cell 4
    by_cases hlt : k < n1
    · obtain ⟨hkn, b, off, rfl, hce⟩ := hn.get hinv.ext hlt
      have hstep := foldl_take (stepN L) ([], []) ns k hkn
      have hlen := foldl_len (stepN_len L) (ns.take k) ([], [])
      have hlen2 := foldl_len1 (stepN_len1 L) (ns.take k) ([], [])
      rw [List.length_take] at hlen hlen2
      simp only [List.length_nil] at hlen hlen2
      generalize (ns.take k).foldl (stepN L) ([], []) = st at hinv hstep hlen hlen2
      generalize ns[k] = x at hce hstep
      obtain ⟨N, q⟩ := st
      simp only at hlen hlen2
      obtain ⟨xid, xcpu, xmem, xup, xdr, xboot, xep, xsq⟩ := x
      cases xup with
      | true =>
        have hi2 := hinv.alloc (.cells #[.int .i64 xid, .int .i64 xcpu, .int .i64 xmem, .bool true, .bool xdr, .int .i64 xboot, .int .i64 xep, .int .i64 xsq] 28)
        obtain ⟨A5, c5, rfl⟩ := hinv.shape5
        obtain ⟨A6, c6, rfl⟩ := hinv.shape6
        have hb3 : Blk (wr.alloc (.cells #[.int .i64 xid, .int .i64 xcpu, .int .i64 xmem, .bool true, .bool xdr, .int .i64 xboot, .int .i64 xep, .int .i64 xsq] 28)) wr.heap.size 28 #[.int .i64 xid, .int .i64 xcpu, .int .i64 xmem, .bool true, .bool xdr, .int .i64 xboot, .int .i64 xep, .int .i64 xsq] := Blk.new' _ _ _ rfl
        obtain ⟨N', ask, hg⟩ : ∃ N' ask, goesF L N (false, xid, xep, xsq) 20 = (N', ask) := ⟨_, _, rfl⟩
        have hcall := goes_any B _ rl L N (hR.ext0 hi2.ext) (w.heap.size + 1) A5 c5 hi2.o5 (by omega) false xid xep xsq 20 (by decide) (by decide) hi2.len
        rw [hg] at hcall
        have hstep' : stepN L (N, q) ⟨xid, xcpu, xmem, true, xdr, xboot, xep, xsq⟩ = (N', q ++ if ask then [⟨7, 0, 0, xid, xep, xsq⟩] else []) := by simp only [stepN, if_true, hg]
        have hok' : LOk N' := by have h := goesF_ok hR.1 hinv.ok (false, xid, xep, xsq) (en := 20) (by decide) (by decide); rw [hg] at h; exact h
        have hlt2 := hinv.len
        have hS := Lib.hid hstep
        have hS1 := Lib.hid hstep'
        have HC := Lib.hid hcall
        clear hg hcall hstep hstep'
        cases ask with
        | true =>
          go_wp2_with (first | (refine wpList_load_at rfl 28 _ rfl ST28 b (off + k * 8) rfl #[.int .i64 xid, .int .i64 xcpu, .int .i64 xmem, .bool true, .bool xdr, .int .i64 xboot, .int .i64 xep, .int .i64 xsq] (by exact hce) rfl ?_) | (go_at_call 16; refine HC.out.mono ?_; rintro e w2 ⟨A', c', rfl, ho2, hx2⟩; have hi3 := hi2.call hx2 ho2 hok'; have hb4 := hb3.ext hx2 (hi2.own5_ne (by omega) hb3 (by decide)); have y0 : w2.cell? ⟨wr.heap.size, 0, none⟩ = some (.int .i64 xid) := hb4.cell 0; have y6 : w2.cell? ⟨wr.heap.size, 6, none⟩ = some (.int .i64 xep) := hb4.cell 6; have y7 : w2.cell? ⟨wr.heap.size, 7, none⟩ = some (.int .i64 xsq) := hb4.cell 7) | (refine wpList_slice1 rfl 37 _ rfl SL37 #[.int .i64 7, .int .i64 0, .int .i64 0, .int .i64 0, .int .i64 0, .int .i64 0, .int .i64 0, .slice none 0 0, .int .i64 0, .bool false, .int .i64 xid, .int .i64 0, .int .i64 0, .bool false, .bool false, .int .i64 0, .int .i64 xep, .int .i64 xsq, .slice none 0 0, .int .i64 0, .int .i64 0, .int .i64 0, .slice none 0 0, .slice none 0 0, .bool false, .slice none 0 0, .slice none 0 0] rfl rfl ?_) | (at_builtin; refine wpList_app1 rfl _ _ 37 rfl (w.heap.size + 1) SL37 (.slice A6 q.length c6) q.length (q.flatMap Ask.cells) rfl ?hown _ _ #[.int .i64 7, .int .i64 0, .int .i64 0, .int .i64 0, .int .i64 0, .int .i64 0, .int .i64 0, .slice none 0 0, .int .i64 0, .bool false, .int .i64 xid, .int .i64 0, .int .i64 0, .bool false, .bool false, .int .i64 0, .int .i64 xep, .int .i64 xsq, .slice none 0 0, .int .i64 0, .int .i64 0, .int .i64 0, .slice none 0 0, .slice none 0 0, .bool false, .slice none 0 0, .slice none 0 0] rfl ?hb rfl rfl (by omega) ?hbase ?_))
          case hown => exact (hi3.alloc _).o6
          case hb => exact Blk.new' _ _ _ (by simp)
          case hbase => exact (hi3.alloc _).len
          intro A7 c7 w3 r1 r2
          go_wp2
          go_roundw
          case rel =>
            refine ⟨k + 1, by omega, by go_num, ?_⟩
            rw [hS.out, hS1.out]
            exact (hi3.alloc _).app r2 ⟨7, 0, 0, xid, xep, xsq⟩ r1
          case measure => simp [intOf]; omega
        | false =>
          go_wp2_with (first | (refine wpList_load_at rfl 28 _ rfl ST28 b (off + k * 8) rfl #[.int .i64 xid, .int .i64 xcpu, .int .i64 xmem, .bool true, .bool xdr, .int .i64 xboot, .int .i64 xep, .int .i64 xsq] (by exact hce) rfl ?_) | (go_at_call 16; refine HC.out.mono ?_; rintro e w2 ⟨A', c', rfl, ho2, hx2⟩; have hi3 := hi2.call hx2 ho2 hok') | (at_builtin; fail))
          go_roundw
          case rel =>
            refine ⟨k + 1, by omega, by go_num, ?_⟩
            rw [hS.out, hS1.out]
            simpa using hi3
          case measure => simp [intOf]; omega
      | false =>
        have hi2 := hinv.alloc (.cells #[.int .i64 xid, .int .i64 xcpu, .int .i64 xmem, .bool false, .bool xdr, .int .i64 xboot, .int .i64 xep, .int .i64 xsq] 28)
        obtain ⟨A5, c5, rfl⟩ := hinv.shape5
        obtain ⟨A6, c6, rfl⟩ := hinv.shape6
        have hb3 : Blk (wr.alloc (.cells #[.int .i64 xid, .int .i64 xcpu, .int .i64 xmem, .bool false, .bool xdr, .int .i64 xboot, .int .i64 xep, .int .i64 xsq] 28)) wr.heap.size 28 #[.int .i64 xid, .int .i64 xcpu, .int .i64 xmem, .bool false, .bool xdr, .int .i64 xboot, .int .i64 xep, .int .i64 xsq] := Blk.new' _ _ _ rfl
        obtain ⟨N', ask, hg⟩ : ∃ N' ask, goesF L N (false, xid, xep, xsq) 20 = (N', ask) := ⟨_, _, rfl⟩
        have hcall := goes_any B _ rl L N (hR.ext0 hi2.ext) (w.heap.size + 1) A5 c5 hi2.o5 (by omega) false xid xep xsq 20 (by decide) (by decide) hi2.len
        rw [hg] at hcall
        have hstep0 : stepN L (N, q) ⟨xid, xcpu, xmem, false, xdr, xboot, xep, xsq⟩ = (N, q) := by simp [stepN]
        have hok' : LOk N' := by have h := goesF_ok hR.1 hinv.ok (false, xid, xep, xsq) (en := 20) (by decide) (by decide); rw [hg] at h; exact h
        have hlt2 := hinv.len
        have hS := Lib.hid hstep
        have hS0 := Lib.hid hstep0
        have HC := Lib.hid hcall
        clear hg hcall hstep hstep0
        go_wp2_with (first | (refine wpList_load_at rfl 28 _ rfl ST28 b (off + k * 8) rfl #[.int .i64 xid, .int .i64 xcpu, .int .i64 xmem, .bool false, .bool xdr, .int .i64 xboot, .int .i64 xep, .int .i64 xsq] (by exact hce) rfl ?_) | (at_builtin; fail))
        go_roundw
        case rel =>
          refine ⟨k + 1, by omega, by go_num, ?_⟩
          rw [hS.out, hS0.out]
          exact hi2
        case measure => simp [intOf]; omega
    · have hk1 : ns.length ≤ k := by rw [← hn.len]; omega
      rw [foldl_all _ _ _ _ hk1] at hinv
      have hlen0 := foldl_len (stepN_len L) ns ([], [])
      have hlen01 := foldl_len1 (stepN_len1 L) ns ([], [])
      rw [← hn.len] at hlen0 hlen01
      simp only [List.length_nil] at hlen0 hlen01
      have hF : Hid (tickF L ns ds = ds.foldl (stepD L) (ns.foldl (stepN L) ([], []))) := rfl
      generalize ns.foldl (stepN L) ([], []) = st0 at hinv hF hlen0 hlen01
      clear hk1
      have qs7 : wr.cell? ⟨w.heap.size, 7, none⟩ = some (.slice A2 n2 c2) := hinv.sb.cell 7
      go_wp2
      go_loopw [5, 6, 10] (fun v5 v6 i wr => ∃ k : Nat, k ≤ n2 ∧ i = .int .i64 k ∧ RInv w wr #[s0, s1, s2, s3, .slice A1 n1 c1, s5, s6, .slice A2 n2 c2, s8] v5 v6 ((ds.take k).foldl (stepD L) st0))
        (fun _ _ i _ => n2 - (intOf i).toNat)
      case atStart => exact ⟨0, Nat.zero_le _, rfl, hinv⟩
      case round =>
        clear hinv qs qs7 hlt
        obtain ⟨k, hk, rfl, hinv⟩ := hrel
        have qs : wr.cell? ⟨w.heap.size, 7, none⟩ = some (.slice A2 n2 c2) := hinv.sb.cell 7
        by_cases hlt : k < n2
        · obtain ⟨hkn, b, off, rfl, hce⟩ := hd.get hinv.ext hlt
          have hstep := foldl_take (stepD L) st0 ds k hkn
          have hlen := foldl_len (stepD_len L) (ds.take k) st0
          have hlen2 := foldl_len1 (stepD_len1 L) (ds.take k) st0
          rw [List.length_take] at hlen hlen2
      
          generalize (ds.take k).foldl (stepD L) st0 = st at hinv hstep hlen hlen2
          generalize ds[k] = x at hce hstep
          obtain ⟨N, q⟩ := st
          simp only at hlen hlen2
          obtain ⟨xjob, xver, xst, xix⟩ := x
          by_cases hst : xst = 1
          · subst hst
            have hi2 := hinv.alloc (.cells #[.int .i64 xjob, .int .i64 xver, .int .i64 1, .int .i64 xix] 71)
            obtain ⟨A5, c5, rfl⟩ := hinv.shape5
            obtain ⟨A6, c6, rfl⟩ := hinv.shape6
            have hb3 : Blk (wr.alloc (.cells #[.int .i64 xjob, .int .i64 xver, .int .i64 1, .int .i64 xix] 71)) wr.heap.size 71 #[.int .i64 xjob, .int .i64 xver, .int .i64 1, .int .i64 xix] := Blk.new' _ _ _ rfl
            obtain ⟨N', ask, hg⟩ : ∃ N' ask, goesF L N (true, xjob, xver, xix) 40 = (N', ask) := ⟨_, _, rfl⟩
            have hcall := goes_any B _ rl L N (hR.ext0 hi2.ext) (w.heap.size + 1) A5 c5 hi2.o5 (by omega) true xjob xver xix 40 (by decide) (by decide) hi2.len
            rw [hg] at hcall
            have hstep' : stepD L (N, q) ⟨xjob, xver, 1, xix⟩ = (N', q ++ if ask then [⟨10, xjob, xver, 0, 0, 0⟩] else []) := by simp only [stepD, if_true, hg]
            have hok' : LOk N' := by have h := goesF_ok hR.1 hinv.ok (true, xjob, xver, xix) (en := 40) (by decide) (by decide); rw [hg] at h; exact h
            have hlt2 := hinv.len
            have hS := Lib.hid hstep
            have hS1 := Lib.hid hstep'
            have HC := Lib.hid hcall
            clear hg hcall hstep hstep'
            cases ask with
            | true =>
              go_wp2_with (first | (refine wpList_load_at rfl 71 _ rfl ST71 b (off + k * 4) rfl #[.int .i64 xjob, .int .i64 xver, .int .i64 1, .int .i64 xix] (by exact hce) rfl ?_) | (go_at_call 16; refine HC.out.mono ?_; rintro e w2 ⟨A', c', rfl, ho2, hx2⟩; have hi3 := hi2.call hx2 ho2 hok'; have hb4 := hb3.ext hx2 (hi2.own5_ne (by omega) hb3 (by decide)); have y0 : w2.cell? ⟨wr.heap.size, 0, none⟩ = some (.int .i64 xjob) := hb4.cell 0; have y1 : w2.cell? ⟨wr.heap.size, 1, none⟩ = some (.int .i64 xver) := hb4.cell 1) | (refine wpList_slice1 rfl 37 _ rfl SL37 #[.int .i64 10, .int .i64 0, .int .i64 0, .int .i64 xjob, .int .i64 0, .int .i64 0, .int .i64 0, .slice none 0 0, .int .i64 xver, .bool false, .int .i64 0, .int .i64 0, .int .i64 0, .bool false, .bool false, .int .i64 0, .int .i64 0, .int .i64 0, .slice none 0 0, .int .i64 0, .int .i64 0, .int .i64 0, .slice none 0 0, .slice none 0 0, .bool false, .slice none 0 0, .slice none 0 0] rfl rfl ?_) | (at_builtin; refine wpList_app1 rfl _ _ 37 rfl (w.heap.size + 1) SL37 (.slice A6 q.length c6) q.length (q.flatMap Ask.cells) rfl ?hown _ _ #[.int .i64 10, .int .i64 0, .int .i64 0, .int .i64 xjob, .int .i64 0, .int .i64 0, .int .i64 0, .slice none 0 0, .int .i64 xver, .bool false, .int .i64 0, .int .i64 0, .int .i64 0, .bool false, .bool false, .int .i64 0, .int .i64 0, .int .i64 0, .slice none 0 0, .int .i64 0, .int .i64 0, .int .i64 0, .slice none 0 0, .slice none 0 0, .bool false, .slice none 0 0, .slice none 0 0] rfl ?hb rfl rfl (by omega) ?hbase ?_))
              case hown => exact (hi3.alloc _).o6
              case hb => exact Blk.new' _ _ _ (by simp)
              case hbase => exact (hi3.alloc _).len
              intro A7 c7 w3 r1 r2
              go_wp2
              go_roundw
              case rel =>
                refine ⟨k + 1, by omega, by go_num, ?_⟩
                rw [hS.out, hS1.out]
                exact (hi3.alloc _).app r2 ⟨10, xjob, xver, 0, 0, 0⟩ r1
              case measure => simp [intOf]; omega
            | false =>
              go_wp2_with (first | (refine wpList_load_at rfl 71 _ rfl ST71 b (off + k * 4) rfl #[.int .i64 xjob, .int .i64 xver, .int .i64 1, .int .i64 xix] (by exact hce) rfl ?_) | (go_at_call 16; refine HC.out.mono ?_; rintro e w2 ⟨A', c', rfl, ho2, hx2⟩; have hi3 := hi2.call hx2 ho2 hok') | (at_builtin; fail))
              go_roundw
              case rel =>
                refine ⟨k + 1, by omega, by go_num, ?_⟩
                rw [hS.out, hS1.out]
                simpa using hi3
              case measure => simp [intOf]; omega
          · have hst2 : (xst == 1) = false := by simpa using hst
            have hst3 : (xst != 1) = true := by simpa using hst
            have hi2 := hinv.alloc (.cells #[.int .i64 xjob, .int .i64 xver, .int .i64 xst, .int .i64 xix] 71)
            obtain ⟨A5, c5, rfl⟩ := hinv.shape5
            obtain ⟨A6, c6, rfl⟩ := hinv.shape6
            have hb3 : Blk (wr.alloc (.cells #[.int .i64 xjob, .int .i64 xver, .int .i64 xst, .int .i64 xix] 71)) wr.heap.size 71 #[.int .i64 xjob, .int .i64 xver, .int .i64 xst, .int .i64 xix] := Blk.new' _ _ _ rfl
            obtain ⟨N', ask, hg⟩ : ∃ N' ask, goesF L N (true, xjob, xver, xix) 40 = (N', ask) := ⟨_, _, rfl⟩
            have hcall := goes_any B _ rl L N (hR.ext0 hi2.ext) (w.heap.size + 1) A5 c5 hi2.o5 (by omega) true xjob xver xix 40 (by decide) (by decide) hi2.len
            rw [hg] at hcall
            have hstep0 : stepD L (N, q) ⟨xjob, xver, xst, xix⟩ = (N, q) := by simp [stepD, hst]
            have hok' : LOk N' := by have h := goesF_ok hR.1 hinv.ok (true, xjob, xver, xix) (en := 40) (by decide) (by decide); rw [hg] at h; exact h
            have hlt2 := hinv.len
            have hS := Lib.hid hstep
            have hS0 := Lib.hid hstep0
            have HC := Lib.hid hcall
            clear hg hcall hstep hstep0
            go_wp2_with (first | (refine wpList_load_at rfl 71 _ rfl ST71 b (off + k * 4) rfl #[.int .i64 xjob, .int .i64 xver, .int .i64 xst, .int .i64 xix] (by exact hce) rfl ?_) | (at_builtin; fail))
            go_roundw
            case rel =>
              refine ⟨k + 1, by omega, by go_num, ?_⟩
              rw [hS.out, hS0.out]
              exact hi2
            case measure => simp [intOf]; omega
        · have hk1 : ds.length ≤ k := by rw [← hd.len]; omega
          rw [foldl_all _ _ _ _ hk1] at hinv
          have hR2 := hR.ext0 hinv.ext
          obtain ⟨hRo, hRb, hRl, AR, cR, hrl, hrs⟩ := hR2
          have q4 : wr.cell? ⟨rl, 0, none⟩ = some (.slice AR L.length cR) := hrl.cell 0
          have q5 : wr.frozen? ⟨rl, 0, none⟩ = false := hrl.frozen 0
          have hlen := foldl_len1 (stepD_len1 L) ds st0
          have hdl := hd.len
          have hN : (ds.foldl (stepD L) st0).1.length ≤ 1048576 * 3 := by omega
          obtain ⟨T, hT⟩ : ∃ T, T = tickF L ns ds := ⟨_, rfl⟩
          rw [← hF.out, ← hT] at hinv hN
          have HT := Lib.hid hT
          clear hF hlen hdl hT
          obtain ⟨A5, c5, rfl⟩ := hinv.shape5
          obtain ⟨A6, c6, rfl⟩ := hinv.shape6
          go_wp2
          go_ret
          have hx3 : Ext (fun b => b = rl) wr (wr.setCell ⟨rl, 0, none⟩ (.slice A5 T.1.length c5)) := Ext.set1 _ _ _ _
          rw [← HT.out]
          refine ⟨A6, c6, rfl, (hinv.ext.mono (fun _ _ e => e.elim)).trans hx3 (fun _ _ e => e), ⟨hinv.ok, hRb, hN, A5, c5, hrl.set_ 0 _, ?_⟩, ?_⟩
          · exact (Sl.of_own clkC_len (f := clkC) hinv.o5 rfl).ext hx3 (fun b hb hne e => own_ne hinv.o5 hrl (by decide) (by subst e; obtain _ | ⟨ab, ao, asp⟩ := A5; cases hb; simpa [Value.ownBlock] using hb))
          · exact (Sl.of_own askCells_len (f := Ask.cells) hinv.o6 rfl).ext hx3 (fun b hb hne e => own_ne hinv.o6 hrl (by decide) (by subst e; obtain _ | ⟨ab, ao, asp⟩ := A6; cases hb; simpa [Value.ownBlock] using hb))
end Go.Proofs.Ytaibifaeljnchaa
