/- The machine is told what runs. (printed by wip/gen/agtold.py) -/
import Derived.Test.YtockcifkphfnlaaGreatDoorAg5
import Derived.Test.YtockcifkphfnlaaGreatDoorOpL
namespace Go.Proofs.YtockcifkphfnlaaGreatDoor
set_option linter.unusedVariables false
set_option linter.unusedSimpArgs false
open Go.RowKit

section
variable {P : Program} {w : World} {ops : Array Oper} {rest : List Oper} {o : Oper} {a : Act} {Q : Exit → Act → World → Prop}
theorem isBd (ty : TypeId) {ps : Array (Nat × Operand)} (h0 : o.op = .build ty ps) (h : wpList P ops Q (o :: rest) a w) : wpList P ops Q (o :: rest) a w := h
theorem wpList_build (hgd : o.guard = none) (t : TypeId) (ps : Array (Nat × Operand)) (ho : o.op = .build t ps) (cs : Array Value) (hb : P.built t (ps.map fun p => (p.1, a.eval p.2)).toList = some cs) (h : wpList P ops Q rest (a.put o.dst (.agg cs)) w) : wpList P ops Q (o :: rest) a w := by
  refine wpList_plain hgd fun K hK => ?_
  unfold Oper.wp
  simp only [execOp, ho]
  simp only [Sem.run_bind]
  rw [show (Instr.build t (ps.map fun (i, x) => (i, a.eval x))).run P w = .ok (.agg cs) w from run_build w t _ cs hb]
  exact hK _ _ h
theorem wpList_tput {b : Nat} {T : Ag.Tasks} {ops : Array Oper} {rest : List Oper} {o : Oper} {a : Act} {Q : Exit → Act → World → Prop} (hg : o.guard = none) (m k x : Operand) (hop : o.op = Op.mapUpdate 79 m k x)
    (h : TM w b T) (hm : a.eval m = .map (some b)) {i : Int} (hi : In64 i) (hk : a.eval k = .int .i64 i) (v : Ag.TaskD) (hx : a.eval x = taskV v) (hK : ∀ w', TM w' b (Ag.tput T i v) → Ext (fun q => q = b) w w' → wpList Tryz.prog ops Q rest (a.put o.dst undef) w') : wpList Tryz.prog ops Q (o :: rest) a w := by
  refine wpList_plain hg fun K' hK' => ?_
  obtain ⟨w', hrun, r1, r2⟩ := tm_put h hi v
  unfold Oper.wp
  simp [execOp, hop, hm, hk, hx, hrun, Result.andThen]
  exact hK' _ _ (hK w' r1 r2)
end
/-- the machine's tasks lie in a new map -/
theorem AgIs.remap {w w' : World} {Ok : Nat → Prop} {B a b mt m2 : Nat} {s : Ag.AgD} {d : Dk.DiskD} {T : Ag.Tasks} (h : AgIs w Ok B a b mt s d) (hm : w.heap.size ≤ m2) (hx : Ext (fun q => q = a) w w') (hb : Blk w' a 84 (s.cells b m2)) (ht : TM w' m2 T) : AgIs w' Ok B a b m2 { s with tasks := T } d := by
  obtain ⟨bd, bn, A, n, c, L, ys, hd⟩ := h.disk.out
  have e1 := hd.dur.lt
  have e2 := hd.now.lt
  have hd2 : DiskAt (fun q => q = m2) w Ok b bd bn A n c L ys d := ⟨hd.blk, hd.left, hd.l0, hd.l1, hd.dur, hd.now, ⟨hd.ne.1, hd.ne.2.1, hd.ne.2.2.1, fun e => by have e : bd = m2 := e; omega, fun e => by have e : bn = m2 := e; omega⟩, hd.own, hd.len, hd.data, hd.deeds⟩
  refine ⟨hb, DiskIs.keep ⟨_, _, _, _, _, _, _, hd2⟩ hx (fun q cs e hq => ?_) (fun q c e => ⟨fun hq => ?_, fun hq => ?_⟩) (fun q e => ?_), ht, h.good, h.beats, ⟨h.ge.1, h.ge.2.1, by have := h.ge.2.1; have := h.disk.out; have := hd.blk.lt; omega⟩⟩
  all_goals (have e : q = a := e; subst e)
  · exact absurd rfl (Blk.ne h.blk hq (by decide))
  · exact absurd rfl (Blk.ne h.blk hq (by decide))
  · exact absurd rfl (Blk.ne h.blk hq (by decide))
  · exact DkB.blk h.blk (by decide) (by decide)
theorem ZTAllocG : ZeroT Tryz.prog 67 11 := .of (by kernel_rfl)
theorem told_snoc (s : Ag.AgD) (l : List AllocD) (t : Nat) (x : AllocD) (h : l[t]? = some x) : (l.take (t + 1)).foldl (Ag.told1 s) [] = Ag.told1 s ((l.take t).foldl (Ag.told1 s) []) x := by
  rw [List.take_add_one, h, List.foldl_append]
  rfl
set_option maxRecDepth 20000 in
set_option maxHeartbeats 16000000 in
theorem agTold {Ok : Nat → Prop} {B a b mt : Nat} {s : Ag.AgD} {d : Dk.DiskD} (A : Option Addr) (n c : Nat) (l : List AllocD) (w : World) (h : AgIs w Ok B a b mt s d) (hl : Sl w 11 A n (l.map AllocD.cells)) (hn : n ≤ 67108863) (hId : ∀ x ∈ l, In64 x.id) :
    Calls Tryz.prog 27 #[.pointer (some ⟨a, 0, none⟩), .slice A n c] w fun e w' => e = .returned (.tuple #[]) ∧ AgIs w' Ok B a b w.heap.size (Ag.told s l) d ∧ Ext (AgB B w) w w' := by
  have hlen := Lib.hid hl.len
  have hmm := @run_makeMap Tryz.prog
  go_enter Tryz.func27, Tryz.ntmps27
  go_upto_region 2 with (first | go_skip | go_guarded)
  have hmN := TM.new w
  have hx0 : Ext Nothing w (w.alloc (.map #[] 0)) := Ext.auto
  generalize (w.alloc (.map #[] 0)) = w0 at hmN hx0 ⊢
  go_loopw [12] (fun ki wr => ∃ t : Nat, t ≤ n ∧ ki = .int .i64 t ∧ TM wr w.heap.size ((l.take t).foldl (Ag.told1 s) []) ∧ Ext Nothing w wr) (fun ki _ => n - (intOf ki).toNat)
  case atStart => exact ⟨0, Nat.zero_le _, rfl, hmN, hx0⟩
  case round =>
    obtain ⟨t, ht, rfl, hTr, hxr⟩ := hrel
    clear hmN hx0
    by_cases hlt : t < n
    · obtain ⟨hjn, q, off, hAe, hce⟩ := hl.get hxr hlt
      have hat : l[t]? = some l[t] := List.getElem?_eq_getElem hjn
      have HF := Lib.hid (told_snoc s l t _ hat)
      have hId9 := hId _ (List.getElem_mem hjn)
      generalize l[t] = x at hce HF hId9
      obtain ⟨⟨x, hxe⟩⟩ : Nonempty { y : AllocD // y = x } := ⟨⟨x, rfl⟩⟩
      subst hxe
      subst hAe
      have hcx : ∀ j u, x.cells.toArray.toList[j]? = some u → wr.cell? ⟨q, off + t * 11 + j, none⟩ = some u := fun j u hu => hce j u (by simpa using hu)
      have hzr := hxr.size
      have hBx0 := Blk.new wr 67 x.cells.toArray
      have hk0 : (0 : Int) ≤ (t : Int) := by omega
      have hk1 : (t : Int) < n := by omega
      have HT := Lib.hid hlt
      have ha0 : Ext Nothing wr (wr.alloc (.cells x.cells.toArray 67)) := Ext.auto
      have hHC := Lib.hid hcx
      have hIw := h.keep0 (hxr.tr ha0)
      have hTw := hTr.ext ha0 (fun e => e)
      have hlk0 := tm_look hIw.tasks hId9 true
      clear hce hlt hat hcx
      go_upto_region 4 with (first | go_skip | go_guarded | ((with_reducible refine isLd 67 rfl ?_); refine wpList_load_at rfl 67 _ rfl STAllocG q (off + t * 11) rfl x.cells.toArray hHC.out rfl ?_) | ((with_reducible refine isAl 67 rfl ?_); refine wpList_alloc_any rfl _ rfl ZTAllocG ?_; intro z hz9) | ((with_reducible refine isSt 67 rfl ?_); refine wpList_store_new rfl _ _ _ rfl STAllocG z hz9 rfl rfl x.cells.toArray rfl rfl rfl ?_; clear hz9))
      have hza : (wr.alloc (.cells x.cells.toArray 67)).heap.size = wr.heap.size + 1 := by simp
      have hx1 := hxr.tr ha0
      generalize hq : wr.heap.size = xb at hBx0 hza hzr ⊢
      have HQ := Lib.hid hq
      clear hq ha0
      generalize (wr.alloc (.cells x.cells.toArray 67)) = w1 at hBx0 hza hx1 hIw hTw hlk0 ⊢
      have a0 : w1.cell? ⟨a, 0, none⟩ = some (.int .i64 2) := hIw.blk.cell 0
      have a13 : w1.cell? ⟨a, 13, none⟩ = some (.int .i64 s.epoch) := hIw.blk.cell 13
      have x5 : w1.cell? ⟨xb, 5, none⟩ = some (.int .i64 x.node) := hBx0.cell 5
      have x6 : w1.cell? ⟨xb, 6, none⟩ = some (.int .i64 x.epoch) := hBx0.cell 6
      cases e1 : (x.node != 2) with
      | true =>
        have HW := Lib.hid (show Ag.told1 s ((l.take t).foldl (Ag.told1 s) []) x = (l.take t).foldl (Ag.told1 s) [] by unfold Ag.told1; rw [if_pos (.inl (by simpa using e1))])
        go_quiet (fail)
        have hdq := (Ext.refl Nothing w1).drewN nq
        generalize w1.drewN nq = w2 at hdq ⊢
        go_wp2_with (first | go_skip | go_guarded)
        go_roundw
        case rel => exact ⟨t + 1, HT.out, by go_num, by rw [HF.out, HW.out]; exact hTw.ext hdq (fun e => e), hx1.tr hdq⟩
        case measure => have := HT.out; simp [intOf]; omega
      | false =>
        have HE1 := Lib.hid (show x.node = 2 by simpa using e1)
        cases e2 : (x.epoch != s.epoch) with
        | true =>
          have HW := Lib.hid (show Ag.told1 s ((l.take t).foldl (Ag.told1 s) []) x = (l.take t).foldl (Ag.told1 s) [] by unfold Ag.told1; rw [if_pos (.inr (by simpa using e2))])
          go_quiet (fail)
          have hdq := (Ext.refl Nothing w1).drewN nq
          generalize w1.drewN nq = w2 at hdq ⊢
          go_wp2_with (first | go_skip | go_guarded)
          go_roundw
          case rel => exact ⟨t + 1, HT.out, by go_num, by rw [HF.out, HW.out]; exact hTw.ext hdq (fun e => e), hx1.tr hdq⟩
          case measure => have := HT.out; simp [intOf]; omega
        | false =>
          have HE2 := Lib.hid (show x.epoch = s.epoch by simpa using e2)
          go_quiet (fail)
          have hdq := (Ext.refl Nothing w1).drewN nq
          generalize w1.drewN nq = w2 at hdq ⊢
          have hI2 := hIw.keep0 hdq
          have hT2 := hTw.ext hdq (fun e => e)
          have hBx2 := hBx0.e0 hdq
          have hx2 := hx1.tr hdq
          have hz2 := hdq.size
          have hlk1 := tm_look hI2.tasks hId9 true
          clear a0 a13 x5 x6 e1 e2 hBx0 hx1 hIw hTw hlk0 hdq
          go_upto_region 5 with (first | go_skip | go_guarded)
          have k33 : w2.cell? ⟨a, 33, none⟩ = some (.map (some mt)) := by rw [hI2.blk.cell]; exact ag_c33 h.beats
          have kx0 : w2.cell? ⟨xb, 0, none⟩ = some (.int .i64 x.id) := hBx2.cell 0
          rw [if_pos rfl] at hlk1
          obtain ⟨⟨y, st⟩, hy0⟩ : ∃ v : Ag.TaskD, v = (Ag.tfind s.tasks x.id).getD zTask := ⟨_, rfl⟩
          rw [← hy0] at hlk1
          generalize hkn : (Ag.tfind s.tasks x.id).isSome = known at hlk1
          have HY := Lib.hid hy0
          have HKN := Lib.hid hkn
          clear hy0 hkn hlk1
          have hd : Ext Nothing w2 w2.drew := (Ext.refl _ _).drew
          refine zS (S := fun W' => Ext Nothing w2 W') (by kernel_rfl) ?_
          generalize w2.drew = Wd at hd ⊢
          have hlk : ∀ W', Ext Nothing w2 W' → (Instr.lookup 79 (.map (some mt)) (.int .i64 x.id) true).run Tryz.prog W' = .ok (.tuple #[.agg (taskCells y st).toArray, .bool known]) W' := fun W' hS' => by
            have h9 := tm_look (hI2.tasks.ext hS' (fun e => e)) hId9 true
            rw [if_pos rfl, ← HY.out, HKN.out] at h9
            exact h9
          refine zT 0 (.pointer (some ⟨a, 0, none⟩)) rfl (by kernel_rfl) (by rfl) hd (fun _ _ _ h => h) (fun W' hS' => by go_simp) ?_
          refine zT 1 (.pointer (some ⟨a, 0, none⟩)) rfl (by kernel_rfl) (by rfl) hd (fun _ _ _ h => h) (fun W' hS' => by go_simp) ?_
          refine zT 2 (.pointer (some ⟨a, 33, none⟩)) rfl (by kernel_rfl) (by rfl) hd (fun _ _ _ h => h) (fun W' hS' => by go_simp) ?_
          refine zT 3 (.map (some mt)) rfl (by kernel_rfl) (by rfl) hd (fun _ _ _ h => h) (fun W' hS' => by have q9 := hS'.c0 k33; go_simp) ?_
          refine zT 4 (.pointer (some ⟨xb, 0, none⟩)) rfl (by kernel_rfl) (by rfl) hd (fun _ _ _ h => h) (fun W' hS' => by go_simp) ?_
          refine zT 5 (.int .i64 x.id) rfl (by kernel_rfl) (by rfl) hd (fun _ _ _ h => h) (fun W' hS' => by have q9 := hS'.c0 kx0; go_simp) ?_
          refine zT 6 (.tuple #[.agg (taskCells y st).toArray, .bool known]) rfl (by kernel_rfl) (by rfl) hd (fun _ _ _ h => h) (fun W' hS' => by have q9 := hlk W' hS'; go_simp) ?_
          refine zT 7 (.tuple #[.agg (taskCells y st).toArray, .bool known]) rfl (by kernel_rfl) (by rfl) hd (fun _ _ _ h => h) (fun W' hS' => by go_simp) ?_
          refine zT 8 (.agg (taskCells y st).toArray) rfl (by kernel_rfl) (by rfl) hd (fun _ _ _ h => h) (fun W' hS' => by go_simp) ?_
          refine zT 9 (.bool known) rfl (by kernel_rfl) (by rfl) hd (fun _ _ _ h => h) (fun W' hS' => by go_simp) ?_
          (try simp only [Act.put, zA, zB, zC, zD, zE, zF])
          refine zO 10 (by kernel_rfl) ?_
          refine wpOp_alloc rfl (by rfl) rfl ZTTask (fun z hz9 => ?_)
          have hda : Ext Nothing Wd (Wd.alloc (.cells z 96)) := Ext.auto
          have hBt0 := Blk.new Wd 96 z
          have hzd := hd.size
          have hS3 := hd.tr hda
          have hz3 := hda.size
          generalize htb : Wd.heap.size = tb at hBt0 hzd hz3 ⊢
          clear htb
          generalize (Wd.alloc (.cells z 96)) = w3 at hda hBt0 hS3 hz3 ⊢
          refine ⟨hS3, ?_⟩
          (try simp only [Act.put, zA, zB, zC, zD, zE, zF])
          refine zO 11 (by kernel_rfl) ?_
          refine wpOp_store rfl (by rfl) rfl rfl rfl hBt0 hz9 STTask rfl rfl (fun w5 hBt hx35 => ?_)
          have hS5 : Ext Nothing w2 w5 := hS3.trans hx35 (fun q hq e => by have e : q = tb := e; omega)
          refine ⟨hS5, ?_⟩
          (try simp only [Act.put, zA, zB, zC, zD, zE, zF])
          refine zO 12 (by kernel_rfl) ?_
          refine wpOp_val (v := .bool known) rfl (by rfl) (by go_simp) ⟨hS5, wpAnyH_done (by kernel_rfl) ?_ _⟩
          (try simp only [Act.put, zA, zB, zC, zD, zE, zF])
          have hT5 := hT2.ext hS5 (fun e => e)
          have hBx := hBx2.e0 hS5
          have hx5 := hx2.tr hS5
          have hz5 := hS5.size
          have hxt : xb ≠ tb := by have := hBx2.lt; omega
          have hnt : w.heap.size ≠ tb := by have := hT2.lt; omega
          have HZ5 := Lib.hid (show w.heap.size ≤ tb from by have := HQ.out; omega)
          clear hlk kx0 k33 hS5 hS3 hda hBt0 hd hx35 hI2 hT2 hBx2 hx2 hz3 hzd hz9
          have kx0 : w5.cell? ⟨xb, 0, none⟩ = some (.int .i64 x.id) := hBx.cell 0
          have kx9 : w5.cell? ⟨xb, 9, none⟩ = some (.bool x.stop) := hBx.cell 9
          have kt11 : w5.cell? ⟨tb, 11, none⟩ = some (.int .i64 st) := hBt.cell 11
          have ft11 : w5.frozen? ⟨tb, 11, none⟩ = false := hBt.frozen 11
          have HC := Lib.hid (show ¬ (x.node ≠ 2 ∨ x.epoch ≠ s.epoch) from fun e => e.elim (fun e => e HE1.out) (fun e => e HE2.out))
          cases hsp : x.stop with
          | true =>
            rw [hsp] at kx9
            cases known with
            | false =>
              have HW := Lib.hid (show Ag.told1 s ((l.take t).foldl (Ag.told1 s) []) x = Ag.tput ((l.take t).foldl (Ag.told1 s) []) x.id (x, 5) by
                have h9 := HKN.out
                rw [Option.isSome_eq_false_iff, Option.isNone_iff_eq_none] at h9
                unfold Ag.told1; rw [if_neg HC.out, h9, hsp]; rfl)
              clear hsp
              go_wp2_with (first | go_skip | go_guarded | ((with_reducible refine isLd 67 rfl ?_); refine wpList_load_blk rfl 67 _ rfl STAllocG xb rfl x.cells.toArray hBx rfl ?_) | ((with_reducible refine isBd 96 rfl ?_); refine wpList_build rfl _ _ rfl (taskCells x 5).toArray (by kernel_rfl) ?_) | ((with_reducible refine isSt 96 rfl ?_); refine wpList_store_blk rfl 96 _ _ rfl STTask tb rfl (taskCells x 5).toArray rfl hBt rfl rfl rfl ?_; intro w6 hB6 hx6; have q0 : w6.cell? ⟨xb, 0, none⟩ = some (.int .i64 x.id) := hx6.cell kx0 (fun e => hxt e); have hT6 := hT5.ext hx6 (fun e => hnt e)) | ((with_reducible refine isLd 96 rfl ?_); refine wpList_load_blk rfl 96 _ rfl STTask tb rfl (taskCells x 5).toArray hB6 rfl ?_) | ((with_reducible refine isUp 79 rfl ?_); refine wpList_tput rfl _ _ _ rfl hT6 rfl hId9 rfl (x, 5) rfl ?_; intro w7 hT7 hx7))
              go_roundw
              case rel => exact ⟨t + 1, HT.out, by go_num, by rw [HF.out, HW.out]; exact hT7, (hx5.trans hx6 (fun q hq e => by have e : q = tb := e; have := HZ5.out; omega)).trans hx7 (fun q hq e => by have e : q = w.heap.size := e; omega)⟩
              case measure => have := HT.out; simp [intOf]; omega
            | true =>
              have HKY := Lib.hid (show Ag.tfind s.tasks x.id = some (y, st) by
                obtain ⟨v, hv⟩ := Option.isSome_iff_exists.1 HKN.out
                have h8 := HY.out
                rw [hv] at h8
                rw [hv, h8]; rfl)
              cases hst : decide (st < 3) with
              | true =>
                have HW := Lib.hid (show Ag.told1 s ((l.take t).foldl (Ag.told1 s) []) x = Ag.tput ((l.take t).foldl (Ag.told1 s) []) x.id (y, 5) by
                  unfold Ag.told1; rw [if_neg HC.out, HKY.out]; simp only; rw [if_pos ⟨hsp, of_decide_eq_true hst⟩])
                clear hsp
                have hx6 : Ext (fun q => q = tb) w5 (w5.setCell ⟨tb, 11, none⟩ (.int .i64 5)) := Ext.set1 _ _ _ _
                have hB6 : Blk (w5.setCell ⟨tb, 11, none⟩ (.int .i64 5)) tb 96 (taskCells y 5).toArray := hBt.set_ 11 (.int .i64 5)
                have q0 : (w5.setCell ⟨tb, 11, none⟩ (.int .i64 5)).cell? ⟨xb, 0, none⟩ = some (.int .i64 x.id) := hx6.cell kx0 (fun e => hxt e)
                have hT6 := hT5.ext hx6 (fun e => hnt e)
                go_wp2_with (first | go_skip | go_guarded | ((with_reducible refine isLd 96 rfl ?_); refine wpList_load_blk rfl 96 _ rfl STTask tb rfl (taskCells y 5).toArray hB6 rfl ?_) | ((with_reducible refine isUp 79 rfl ?_); refine wpList_tput rfl _ _ _ rfl hT6 rfl hId9 rfl (y, 5) rfl ?_; intro w7 hT7 hx7))
                go_roundw
                case rel => exact ⟨t + 1, HT.out, by go_num, by rw [HF.out, HW.out]; exact hT7, (hx5.trans hx6 (fun q hq e => by have e : q = tb := e; have := HZ5.out; omega)).trans hx7 (fun q hq e => by have e : q = w.heap.size := e; omega)⟩
                case measure => have := HT.out; simp [intOf]; omega
              | false =>
                have HW := Lib.hid (show Ag.told1 s ((l.take t).foldl (Ag.told1 s) []) x = Ag.tput ((l.take t).foldl (Ag.told1 s) []) x.id (y, st) by
                  unfold Ag.told1; rw [if_neg HC.out, HKY.out]; simp only; rw [if_neg (fun e => of_decide_eq_false hst e.2)])
                clear hsp
                have hx6 : Ext (fun q => q = tb) w5 w5 := Ext.refl _ _
                have hB6 := hBt
                have hT6 := hT5
                go_wp2_with (first | go_skip | go_guarded | ((with_reducible refine isLd 96 rfl ?_); refine wpList_load_blk rfl 96 _ rfl STTask tb rfl (taskCells y st).toArray hB6 rfl ?_) | ((with_reducible refine isUp 79 rfl ?_); refine wpList_tput rfl _ _ _ rfl hT6 rfl hId9 rfl (y, st) rfl ?_; intro w7 hT7 hx7))
                go_roundw
                case rel => exact ⟨t + 1, HT.out, by go_num, by rw [HF.out, HW.out]; exact hT7, (hx5.trans hx6 (fun q hq e => by have e : q = tb := e; have := HZ5.out; omega)).trans hx7 (fun q hq e => by have e : q = w.heap.size := e; omega)⟩
                case measure => have := HT.out; simp [intOf]; omega
          | false =>
            rw [hsp] at kx9
            cases known with
            | false =>
              have HW := Lib.hid (show Ag.told1 s ((l.take t).foldl (Ag.told1 s) []) x = Ag.tput ((l.take t).foldl (Ag.told1 s) []) x.id (x, 2) by
                have h9 := HKN.out
                rw [Option.isSome_eq_false_iff, Option.isNone_iff_eq_none] at h9
                unfold Ag.told1; rw [if_neg HC.out, h9, hsp]; rfl)
              clear hsp
              go_wp2_with (first | go_skip | go_guarded | ((with_reducible refine isLd 67 rfl ?_); refine wpList_load_blk rfl 67 _ rfl STAllocG xb rfl x.cells.toArray hBx rfl ?_) | ((with_reducible refine isBd 96 rfl ?_); refine wpList_build rfl _ _ rfl (taskCells x 2).toArray (by kernel_rfl) ?_) | ((with_reducible refine isSt 96 rfl ?_); refine wpList_store_blk rfl 96 _ _ rfl STTask tb rfl (taskCells x 2).toArray rfl hBt rfl rfl rfl ?_; intro w6 hB6 hx6; have q0 : w6.cell? ⟨xb, 0, none⟩ = some (.int .i64 x.id) := hx6.cell kx0 (fun e => hxt e); have hT6 := hT5.ext hx6 (fun e => hnt e)) | ((with_reducible refine isLd 96 rfl ?_); refine wpList_load_blk rfl 96 _ rfl STTask tb rfl (taskCells x 2).toArray hB6 rfl ?_) | ((with_reducible refine isUp 79 rfl ?_); refine wpList_tput rfl _ _ _ rfl hT6 rfl hId9 rfl (x, 2) rfl ?_; intro w7 hT7 hx7))
              go_roundw
              case rel => exact ⟨t + 1, HT.out, by go_num, by rw [HF.out, HW.out]; exact hT7, (hx5.trans hx6 (fun q hq e => by have e : q = tb := e; have := HZ5.out; omega)).trans hx7 (fun q hq e => by have e : q = w.heap.size := e; omega)⟩
              case measure => have := HT.out; simp [intOf]; omega
            | true =>
              have HKY := Lib.hid (show Ag.tfind s.tasks x.id = some (y, st) by
                obtain ⟨v, hv⟩ := Option.isSome_iff_exists.1 HKN.out
                have h8 := HY.out
                rw [hv] at h8
                rw [hv, h8]; rfl)
              have HW := Lib.hid (show Ag.told1 s ((l.take t).foldl (Ag.told1 s) []) x = Ag.tput ((l.take t).foldl (Ag.told1 s) []) x.id (y, st) by
                unfold Ag.told1; rw [if_neg HC.out, HKY.out]; simp only; rw [if_neg (fun e => by rw [hsp] at e; cases e.1)])
              clear hsp
              have hx6 : Ext (fun q => q = tb) w5 w5 := Ext.refl _ _
              have hB6 := hBt
              have hT6 := hT5
              go_wp2_with (first | go_skip | go_guarded | ((with_reducible refine isLd 96 rfl ?_); refine wpList_load_blk rfl 96 _ rfl STTask tb rfl (taskCells y st).toArray hB6 rfl ?_) | ((with_reducible refine isUp 79 rfl ?_); refine wpList_tput rfl _ _ _ rfl hT6 rfl hId9 rfl (y, st) rfl ?_; intro w7 hT7 hx7))
              go_roundw
              case rel => exact ⟨t + 1, HT.out, by go_num, by rw [HF.out, HW.out]; exact hT7, (hx5.trans hx6 (fun q hq e => by have e : q = tb := e; have := HZ5.out; omega)).trans hx7 (fun q hq e => by have e : q = w.heap.size := e; omega)⟩
              case measure => have := HT.out; simp [intOf]; omega
    · have hnl : ¬ ((t : Int) < n) := by omega
      have HE := Lib.hid (show l.take t = l from List.take_of_length_le (by have := hlen.out; omega))
      have hIr := h.keep0 hxr
      have f33 : wr.frozen? ⟨a, 33, none⟩ = false := hIr.blk.frozen 33
      have k33 : wr.cell? ⟨a, 33, none⟩ = some (.map (some mt)) := by rw [hIr.blk.cell]; exact ag_c33 h.beats
      have hBF : Blk (wr.setCell ⟨a, 33, none⟩ (.map (some w.heap.size))) a 84 (s.cells b w.heap.size) := by have h9 := hIr.blk.set_ 33 (.map (some w.heap.size)); rw [ag_s33 h.beats] at h9; exact h9
      have hxF : Ext (fun q => q = a) wr (wr.setCell ⟨a, 33, none⟩ (.map (some w.heap.size))) := Ext.set1 _ _ _ _
      go_wp2_with (first | go_skip | go_guarded)
      go_end0
      rw [HE.out] at hTr
      have hlt := h.blk.lt
      refine ⟨rfl, ?_, (hxr.mono (fun _ _ e => e.elim)).trans hxF (fun q hq e => by have e : q = a := e; subst e; exact ⟨h.ge.1, .inl ⟨_, h.blk⟩⟩)⟩
      exact h.remap (Nat.le_refl _) ((hxr.mono (fun _ _ e => e.elim)).trans hxF (fun _ _ e => e)) hBF (hTr.ext hxF (fun e => by have e : w.heap.size = a := e; omega))
end Go.Proofs.YtockcifkphfnlaaGreatDoor
