/- Life: LifeAsks's walk. -/
import Derived.Test.YtaibifaeljnchaaLifeP
namespace Go.Proofs.Ytaibifaeljnchaa
open Go.RowKit
open Go.Maps (Keyed)

theorem SL22 : SliceT Try.prog 22 28 8 := .of (by kernel_rfl)

set_option maxRecDepth 100000 in
set_option maxHeartbeats 2000000 in
theorem asks_any (w : World) (A : Option Addr) (n cap : Nat) (l : List NodeD) (hl : Sl w 8 A n (l.map NodeD.cells)) (hlok : ∀ x ∈ l, x.ok) (times : Int) (ht : InR times) (hn : n ≤ 9223372036854775807) :
    Calls Try.prog 3 #[.slice A n cap, .int .i64 times] w fun e w' => e = .returned (.bool true) ∧ Ext Nothing w w' := by
  go_enter Try.func3, Try.ntmps3
  go_wp2_with (go_at_call 6; refine (new_life _).mono ?_; rintro e w1 ⟨rfl, hL, hx1⟩)
  go_loopw [6, 7, 8] (fun v6 v7 i wr => ∃ (own : List NodeD) (A6 : Option Addr) (c6 : Nat), own.length ≤ n ∧ own.length ≤ 20 ∧ i = .int .i64 own.length ∧ v6 = .slice A6 own.length c6 ∧ v7 = .int .i64 (upsL own).length ∧
      wr.ownsRow (w.heap.size + 2) 28 8 (.slice A6 own.length c6) own.length (own.flatMap NodeD.cells) ∧ (∀ (i : Nat) x, own[i]? = some x → x.id = (i : Int) ∧ x.ok) ∧ LifeIs wr (w.heap.size + 1) [] ∧ Ext Nothing w wr ∧ w.heap.size + 2 ≤ wr.heap.size)
    (fun _ _ i _ => n - (intOf i).toNat)
  case atStart => exact ⟨[], none, 0, by simp, by simp, rfl, rfl, rfl, World.ownsRow_nil _ _ _ _, by simp, hL, hx1, by have := hL.lt; omega⟩
  case round =>
    clear hL
    obtain ⟨own, A6, c6, hk1, hk2, rfl, rfl, rfl, ho, hid, hL, hx2, hsz⟩ := hrel
    by_cases h12 : own.length < n ∧ own.length < 20
    · obtain ⟨h1, h2⟩ := h12
      obtain ⟨hkn, b, off, rfl, hce⟩ := hl.get hx2 h1
      have hxok := hlok _ (List.getElem_mem hkn)
      generalize l[own.length] = x at hce hxok
      have hb1 : Blk (wr.alloc (.cells #[.int .i64 own.length, .int .i64 x.cpu, .int .i64 x.mem, .bool x.up, .bool x.drain, .int .i64 x.boot, .int .i64 x.ep, .int .i64 x.sq] 28)) wr.heap.size 28 #[.int .i64 own.length, .int .i64 x.cpu, .int .i64 x.mem, .bool x.up, .bool x.drain, .int .i64 x.boot, .int .i64 x.ep, .int .i64 x.sq] := Blk.new' _ _ _ rfl
      have hx3 : Ext Nothing wr (wr.alloc (.cells #[.int .i64 own.length, .int .i64 x.cpu, .int .i64 x.mem, .bool x.up, .bool x.drain, .int .i64 x.boot, .int .i64 x.ep, .int .i64 x.sq] 28)) := (Ext.refl _ _).alloc _
      go_wp2_with (first | (refine wpList_load_at rfl 28 _ rfl ST28 b (off + own.length * 8) rfl #[.int .i64 x.id, .int .i64 x.cpu, .int .i64 x.mem, .bool x.up, .bool x.drain, .int .i64 x.boot, .int .i64 x.ep, .int .i64 x.sq] (by exact hce) rfl ?_) | (refine wpList_load_blk rfl 28 _ rfl ST28 wr.heap.size rfl #[.int .i64 own.length, .int .i64 x.cpu, .int .i64 x.mem, .bool x.up, .bool x.drain, .int .i64 x.boot, .int .i64 x.ep, .int .i64 x.sq] (by exact hb1) rfl ?_) | (refine wpList_slice1 rfl 22 _ rfl SL22 #[.int .i64 own.length, .int .i64 x.cpu, .int .i64 x.mem, .bool x.up, .bool x.drain, .int .i64 x.boot, .int .i64 x.ep, .int .i64 x.sq] rfl rfl ?_) | (at_builtin; refine wpList_app1 rfl _ _ 22 rfl (w.heap.size + 2) SL22 (.slice A6 own.length c6) own.length (own.flatMap NodeD.cells) rfl ?hown _ _ #[.int .i64 own.length, .int .i64 x.cpu, .int .i64 x.mem, .bool x.up, .bool x.drain, .int .i64 x.boot, .int .i64 x.ep, .int .i64 x.sq] rfl ?hb rfl rfl (by omega) ?hbase ?_))
      case hown => exact own_ext ho (hx3.alloc _) (fun _ _ e => e)
      case hb => exact Blk.new' _ _ _ (by simp)
      case hbase => simp; omega
      intro A' c' w2 r1 r2
      have hx4 : Ext (fun b => Value.ownBlock (.slice A6 own.length c6) = some b) (wr.alloc (.cells #[.int .i64 own.length, .int .i64 x.cpu, .int .i64 x.mem, .bool x.up, .bool x.drain, .int .i64 x.boot, .int .i64 x.ep, .int .i64 x.sq] 28)) w2 := (Ext.mono ((Ext.refl Nothing _).alloc _) (fun _ _ e => e.elim)).grown r2 (fun g e => .inr e)
      have g1 : ¬ Value.ownBlock (.slice A6 own.length c6) = some wr.heap.size := fun e => by have := own_lt ho e; omega
      have q1 : w2.cell? ⟨wr.heap.size, 3, none⟩ = some (.bool x.up) := hx4.cell (hb1.cell 3) g1
      have hx5 : Ext (fun b => Value.ownBlock (.slice A6 own.length c6) = some b) wr w2 := (Ext.mono hx3 (fun _ _ e => e.elim)).trans hx4 (fun _ _ e => e)
      have hL2 : LifeIs w2 (w.heap.size + 1) [] := by
        obtain ⟨h1, m, h2, h3⟩ := hL
        exact ⟨h1, m, h2.ext hx5 (own_ne ho h2 (by decide)), h3.ext hx5 (own_ne_map ho h3)⟩
      have hx6 : Ext Nothing w w2 := hx2.trans hx5 (fun g hg e => by have := own_ge ho e; omega)
      have hsz2 : w.heap.size + 2 ≤ w2.heap.size := Nat.le_trans hsz hx5.size
      have hown2 : w2.ownsRow (w.heap.size + 2) 28 8 (.slice A' (own ++ [{ x with id := own.length }]).length c') (own ++ [{ x with id := own.length }]).length ((own ++ [{ x with id := own.length }]).flatMap NodeD.cells) := by
        simpa [NodeD.cells] using r1
      have hid2 : ∀ (i : Nat) y, (own ++ [{ x with id := (own.length : Int) }])[i]? = some y → y.id = (i : Int) ∧ y.ok := by
        intro i y hy
        rcases Nat.lt_or_ge i own.length with h | h
        · rw [List.getElem?_append_left h] at hy; exact hid i y hy
        · rw [List.getElem?_append_right h] at hy
          obtain ⟨h3, h4⟩ := List.getElem?_eq_some_iff.1 hy
          simp at h3 h4
          subst h4
          exact ⟨by simp; omega, ⟨by simp [InR]; omega, hxok.2.1, hxok.2.2⟩⟩
      have hups : (upsL (own ++ [{ x with id := (own.length : Int) }])).length = (upsL own).length + if x.up then 1 else 0 := by
        simp only [upsL, List.filter_append, List.length_append]
        cases h : x.up <;> simp [h]
      have hu20 : (upsL own).length ≤ 20 := Nat.le_trans (List.length_filter_le _ _) (by omega)
      have H := Lib.hid hups
      have H2 := Lib.hid hid
      have H3 := Lib.hid hid2
      clear hups hid hid2 r1 r2
      go_wp2
      · have hup : x.up = true := by assumption
        go_roundw
        case rel =>
          refine ⟨own ++ [{ x with id := own.length }], A', c', by simp; omega, by simp; omega, by simp, by simp, ?_, hown2, H3.out, hL2, hx6, hsz2⟩
          rw [H.out, hup]; go_num
        case measure => simp [intOf]; omega
      · have hup : x.up = false := by assumption
        go_roundw
        case rel =>
          refine ⟨own ++ [{ x with id := own.length }], A', c', by simp; omega, by simp; omega, by simp, by simp, ?_, hown2, H3.out, hL2, hx6, hsz2⟩
          rw [H.out, hup]; rfl
        case measure => simp [intOf]; omega
    · obtain ⟨wo, rfl⟩ : ∃ wo : World, wo = wr := ⟨_, rfl⟩
      have hx3 : Ext Nothing wo (wo.alloc (.cells #[.int .i64 0, .int .i64 0, .slice none 0 0, .slice none 0 0, .slice A6 own.length c6, .slice none 0 0, .slice none 0 0, .slice none 0 0, .slice none 0 0] 35)) := (Ext.refl _ _).alloc _
      have hb0 : Blk (wo.alloc (.cells #[.int .i64 0, .int .i64 0, .slice none 0 0, .slice none 0 0, .slice A6 own.length c6, .slice none 0 0, .slice none 0 0, .slice none 0 0, .slice none 0 0] 35)) wo.heap.size 35 #[.int .i64 0, .int .i64 0, .slice none 0 0, .slice none 0 0, .slice A6 own.length c6, .slice none 0 0, .slice none 0 0, .slice none 0 0, .slice none 0 0] := Blk.new' _ _ _ rfl
      have hd := ids_nodup hid
      have hokx : ∀ x ∈ own, x.ok := fun x hx => by
        obtain ⟨i, hi⟩ := List.getElem?_of_mem hx
        exact (hid i x hi).2
      have hu20 : (upsL own).length ≤ 20 := Nat.le_trans (List.length_filter_le _ _) (by omega)
      have H2 := Lib.hid hid
      clear hid
      have h3 : (¬ own.length < n) ∨ (own.length < n ∧ ¬ own.length < 20) := by omega
      clear h12
      rcases h3 with h1 | ⟨h1, h2⟩
      all_goals
        go_wp2
        go_loopw [11] (fun i w2 => ∃ t : Nat, t ≤ 82 ∧ i = .int .i64 ((t : Int) + 1) ∧ LifeIs w2 (w.heap.size + 1) (lAt own t) ∧ Blk w2 wo.heap.size 35 #[.int .i64 0, .int .i64 0, .slice none 0 0, .slice none 0 0, .slice A6 own.length c6, .slice none 0 0, .slice none 0 0, .slice none 0 0, .slice none 0 0] ∧ w2.ownsRow (w.heap.size + 2) 28 8 (.slice A6 own.length c6) own.length (own.flatMap NodeD.cells) ∧ Ext Nothing w w2)
          (fun i _ => 100 - (intOf i).toNat)
        case atStart => exact ⟨0, by omega, rfl, hL.ext0 hx3, hb0, own_ext ho hx3 (fun _ _ e => e), hx2.trans hx3 (fun _ _ e => e)⟩
        case round =>
          clear hL hb0 ho hx2
          obtain ⟨t, ht82, rfl, hL, hb0, ho, hx2⟩ := hrel
          have htk := tick_at own hd t
          have hds : Sl wr 4 none 0 (([] : List DeployD).map DeployD.cells) := Sl.nil _ _ _
          have hso : Sl wr 8 A6 own.length (own.map NodeD.cells) := Sl.of_own nodeCells_len ho rfl
          have hbl := hL.blk
          obtain ⟨mm, hbl⟩ := hbl
          have g1 : ¬ wo.heap.size = w.heap.size + 1 := by omega
          have g2 : Value.ownBlock (.slice A6 own.length c6) ≠ some (w.heap.size + 1) := own_ne ho hbl (by decide)
          have hfin : ∀ w' : World, Ext (fun b => b = w.heap.size + 1) wr w' → LifeIs w' (w.heap.size + 1) (lAt own (t + 1)) → LifeIs w' (w.heap.size + 1) (lAt own (t + 1)) ∧ Blk w' wo.heap.size 35 #[.int .i64 0, .int .i64 0, .slice none 0 0, .slice none 0 0, .slice A6 own.length c6, .slice none 0 0, .slice none 0 0, .slice none 0 0, .slice none 0 0] ∧ w'.ownsRow (w.heap.size + 2) 28 8 (.slice A6 own.length c6) own.length (own.flatMap NodeD.cells) ∧ Ext Nothing w w' :=
            fun w' hx hL' => ⟨hL', hb0.ext hx g1, own_ext ho hx (fun g e h => g2 (h ▸ e)), hx2.trans hx (fun _ _ e => by omega)⟩
          have FIN := Lib.hid hfin
          clear hfin
          by_cases h21 : 20 ≤ t
          · by_cases hm : (t - 20) % 3 = 0
            · have ha : asksAt (t + 1) = true := by simp [asksAt]; omega
              rw [ha] at htk
              simp only [if_true] at htk
              have hm2 : (((t : Int) + 1 - 21) % 3 == 0) = true := by simp; omega
              clear ha hm
              go_wp2_with (first | (refine wpList_load_blk rfl 35 _ rfl ST35 wo.heap.size rfl #[.int .i64 0, .int .i64 0, .slice none 0 0, .slice none 0 0, .slice A6 own.length c6, .slice none 0 0, .slice none 0 0, .slice none 0 0, .slice none 0 0] (by exact hb0) rfl ?_) | (go_at_call 7; refine (pick_any times 60 _ (by decide) (by decide) ht).mono ?_; rintro e w' ⟨⟨p, rfl, hp⟩, rfl⟩) | (go_at_call 8; refine (tick_life wr (w.heap.size + 1) _ hL A6 none own.length 0 c6 0 own [] hso hds hokx (by simp) (by omega) (by decide) _ _ _ _ _ _ _ _ _ htk).mono ?_; rintro e w' ⟨A, c, rfl, hx, hL', hA⟩) | (go_at_call 9; refine (lives_any _).mono ?_; rintro e w' ⟨rfl, hx⟩))
              · have hlenU : ((upsL own).map askN).length = (upsL own).length := by simp
                rw [hlenU] at hA
                have hso' : Sl w' 8 A6 own.length (own.map NodeD.cells) := Sl.keep1 hso hL (by decide) nodeCells_map hx
                go_loopw [14] (fun i w3 => ∃ k jj : Nat, k ≤ (upsL own).length ∧ i = .int .i64 k ∧ w3 = w'.drewN jj) (fun i _ => (upsL own).length - (intOf i).toNat)
                case atStart => exact ⟨0, 0, Nat.zero_le _, rfl, rfl⟩
                case round =>
                  obtain ⟨k, jj, hk, rfl, rfl⟩ := hrel
                  by_cases hlt : k < (upsL own).length
                  · obtain ⟨j, hj, e1, e2, e3⟩ := up_at H2.out hlt
                    obtain ⟨_, b, off, rfl, hce⟩ := hA.get (Ext.refl _ _) hlt
                    obtain ⟨_, b6, off6, rfl, hco⟩ := hso'.get (Ext.refl _ _) hj
                    rw [List.getElem_map, e1] at hce
                    generalize own[j] = x at hce hco e2 e3
                    obtain ⟨xid, xcpu, xmem, xup, xdrain, xboot, xep, xsq⟩ := x
                    simp only at e2 e3
                    subst e2 e3
                    have a0 : w'.cell? ⟨b, off + k * 27, none⟩ = some (.int .i64 7) := hce 0 _ rfl
                    have a10 : w'.cell? ⟨b, off + k * 27 + 10, none⟩ = some (.int .i64 j) := hce 10 _ rfl
                    have a16 : w'.cell? ⟨b, off + k * 27 + 16, none⟩ = some (.int .i64 xep) := hce 16 _ rfl
                    have o3 : w'.cell? ⟨b6, off6 + j * 8 + 3, none⟩ = some (.bool true) := hco 3 _ rfl
                    have o6 : w'.cell? ⟨b6, off6 + j * 8 + 6, none⟩ = some (.int .i64 xep) := hco 6 _ rfl
                    clear hce hco e1
                    go_wp2
                    go_quiet (fail)
                    go_wp2
                    go_roundw
                    case rel => exact ⟨k + 1, _, by omega, by go_num, rfl⟩
                    case measure => simp [intOf]; omega
                  · go_wp2
                    go_roundw
                    case rel => exact ⟨t + 1, by omega, by go_num, FIN.out _ (by first | exact hx | exact hx.drewN _) (by first | exact hL' | exact hL'.ext0 ((Ext.refl _ _).drewN _))⟩
                    case measure => simp [intOf]; omega
              · go_ret
                exact ⟨rfl, hx2.trans hx (fun _ _ e => e)⟩
            · have ha : asksAt (t + 1) = false := by simp [asksAt]; omega
              rw [ha] at htk
              simp only [Bool.false_eq_true, if_false] at htk
              have hm2 : (((t : Int) + 1 - 21) % 3 == 0) = false := by simp; omega
              clear ha hm
              go_wp2_with (first | (refine wpList_load_blk rfl 35 _ rfl ST35 wo.heap.size rfl #[.int .i64 0, .int .i64 0, .slice none 0 0, .slice none 0 0, .slice A6 own.length c6, .slice none 0 0, .slice none 0 0, .slice none 0 0, .slice none 0 0] (by exact hb0) rfl ?_) | (go_at_call 7; refine (pick_any times 60 _ (by decide) (by decide) ht).mono ?_; rintro e w' ⟨⟨p, rfl, hp⟩, rfl⟩) | (go_at_call 8; refine (tick_life wr (w.heap.size + 1) _ hL A6 none own.length 0 c6 0 own [] hso hds hokx (by simp) (by omega) (by decide) _ _ _ _ _ _ _ _ _ htk).mono ?_; rintro e w' ⟨A, c, rfl, hx, hL', hA⟩) | (go_at_call 9; refine (lives_any _).mono ?_; rintro e w' ⟨rfl, hx⟩))
              · refine wp_loop_rounds 1 ?_
                rw [rounds_succ]
                go_wp2
                go_roundw
                case rel => exact ⟨t + 1, by omega, by go_num, FIN.out _ (by first | exact hx | exact hx.drewN _) (by first | exact hL' | exact hL'.ext0 ((Ext.refl _ _).drewN _))⟩
                case measure => simp [intOf]; omega
              · go_ret
                exact ⟨rfl, hx2.trans hx (fun _ _ e => e)⟩
          · have ha : asksAt (t + 1) = false := by simp [asksAt]; omega
            rw [ha] at htk
            simp only [Bool.false_eq_true, if_false] at htk
            clear ha
            go_wp2_with (first | (refine wpList_load_blk rfl 35 _ rfl ST35 wo.heap.size rfl #[.int .i64 0, .int .i64 0, .slice none 0 0, .slice none 0 0, .slice A6 own.length c6, .slice none 0 0, .slice none 0 0, .slice none 0 0, .slice none 0 0] (by exact hb0) rfl ?_) | (go_at_call 7; refine (pick_any times 60 _ (by decide) (by decide) ht).mono ?_; rintro e w' ⟨⟨p, rfl, hp⟩, rfl⟩) | (go_at_call 8; refine (tick_life wr (w.heap.size + 1) _ hL A6 none own.length 0 c6 0 own [] hso hds hokx (by simp) (by omega) (by decide) _ _ _ _ _ _ _ _ _ htk).mono ?_; rintro e w' ⟨A, c, rfl, hx, hL', hA⟩) | (go_at_call 9; refine (lives_any _).mono ?_; rintro e w' ⟨rfl, hx⟩))
            refine wp_loop_rounds 1 ?_
            rw [rounds_succ]
            go_wp2
            go_roundw
            case rel => exact ⟨t + 1, by omega, by go_num, FIN.out _ (by first | exact hx | exact hx.drewN _) (by first | exact hL' | exact hL'.ext0 ((Ext.refl _ _).drewN _))⟩
            case measure => simp [intOf]; omega
end Go.Proofs.Ytaibifaeljnchaa
