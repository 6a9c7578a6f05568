/- The machine's Tick. (printed by wip/gen/agtick.py) -/
import Derived.Test.YtockcifkphfnlaaGreatDoorAg6
import Derived.Test.YtockcifkphfnlaaGreatDoorAgT
namespace Go.Proofs.YtockcifkphfnlaaGreatDoor
set_option linter.unusedVariables false
set_option linter.unusedSimpArgs false
open Go.RowKit

theorem STMsg : StructT Tryz.prog 51 46 := .of (by kernel_rfl)
theorem ZTMsg : ZeroT Tryz.prog 51 46 := .of (by kernel_rfl)
theorem SRMsg : SliceT Tryz.prog 33 51 46 := .of (by kernel_rfl)
theorem STResG : StructT Tryz.prog 28 2 := .of (by kernel_rfl)
theorem SRReport : SliceT Tryz.prog 42 98 2 := .of (by kernel_rfl)
abbrev nodeArr (boot epoch seq : Int) : Array Value := #[.int .i64 2, .int .i64 0, .int .i64 0, .bool false, .bool false, .int .i64 boot, .int .i64 epoch, .int .i64 seq]
abbrev cmdArr (op boot epoch seq : Int) : Array Value := #[.int .i64 op, .int .i64 0, .int .i64 0, .int .i64 0, .int .i64 0, .int .i64 0, .int .i64 0, .slice none 0 0, .int .i64 0, .bool false, .int .i64 2, .int .i64 0, .int .i64 0, .bool false, .bool false, .int .i64 boot, .int .i64 epoch, .int .i64 seq, .slice none 0 0, .int .i64 0, .int .i64 0, .int .i64 0, .slice none 0 0, .slice none 0 0, .bool false, .slice none 0 0, .slice none 0 0]
abbrev mArr (dst ctx op id boot epoch seq : Int) (rep : Value) : Array Value := #[.int .i64 9, .int .i64 102, .int .i64 dst, .int .i64 0, .int .i64 0, .int .i64 0, .int .i64 0, .bool false, .int .i64 ctx, .int .i64 0, .int .i64 0, .int .i64 0, .slice none 0 0, .slice none 0 0, .slice none 0 0, .slice none 0 0,
  .int .i64 op, .int .i64 0, .int .i64 0, .int .i64 0, .int .i64 0, .int .i64 0, .int .i64 0, .slice none 0 0, .int .i64 0, .bool false, .int .i64 id, .int .i64 0, .int .i64 0, .bool false, .bool false, .int .i64 boot, .int .i64 epoch, .int .i64 seq, rep, .int .i64 0, .int .i64 0, .int .i64 0, .slice none 0 0, .slice none 0 0, .bool false, .slice none 0 0, .slice none 0 0, .int .i64 0, .int .i64 0, .slice none 0 0]
/-- the cells of a message, as far as anybody reads them -/
structure MsgIs (cs : Array Value) (m : Ag.MsgD) : Prop where
  size : cs.size = 46
  one : cs.toList.all Value.oneCell' = true
  kind : cs[0]? = some (.int .i64 m.kind)
  frm : cs[1]? = some (.int .i64 m.frm)
  dest : cs[2]? = some (.int .i64 m.dest)
  ctx : cs[8]? = some (.int .i64 m.ctx)
  hint : cs[11]? = some (.int .i64 m.hint)
  op : cs[16]? = some (.int .i64 m.op)
  boot : cs[31]? = some (.int .i64 m.boot)
  epoch : cs[32]? = some (.int .i64 m.epoch)
  code : cs[43]? = some (.int .i64 m.code)
  value : cs[44]? = some (.int .i64 m.value)
def MsgOut (w : World) (v : Value) : Option Ag.MsgD → Prop
  | none => v = .slice none 0 0
  | some m => ∃ g cs, v = .slice (some ⟨g, 0, none⟩) 1 1 ∧ Blk w g 51 cs ∧ MsgIs cs m
theorem run_build_op {P : Program} {o : Oper} {ρ : Operand → Value} {t : TypeId} {ps : Array (Nat × Operand)} {cs : Array Value} {w : World} (ho : o.op = .build t ps) (hb : P.built t (ps.map fun p => (p.1, ρ p.2)).toList = some cs) : (execOp ρ o).run P w = .ok (.value (.agg cs)) w := by
  simp only [execOp, ho, Sem.run_bind]
  rw [show (Instr.build t (ps.map fun (i, x) => (i, ρ x))).run P w = .ok (.agg cs) w from run_build w t _ cs hb]
  rfl
theorem wpOp_store_sized {P : Program} {ops : Array Oper} {Q : Exit → Act → World → Prop} {i : Nat} {o : Oper} {a : Act} {w : World} {K : Act → World → Prop} {t ty : TypeId} {sz g off : Nat} {x y : Operand} {cs0 cs : Array Value} (hi : ops[i]? = some o) (hw : Region.wanted o (yielded ops a.tmps) = true) (ho : o.op = .store ty x y)
    (hs : (P.info? ty).map (·.size) = some sz) (hp : a.eval x = .pointer (some ⟨g, off, none⟩)) (hx : a.eval y = .agg cs) (hB : Blk w g t cs0) (h0 : off + sz ≤ cs0.size) (hcs : cs.size = sz) (h1 : cs.toList.all Value.oneCell' = true)
    (h : ∀ w', Blk w' g t (cs0.toList.take off ++ cs.toList ++ cs0.toList.drop (off + sz)).toArray → Ext (fun q => q = g) w w' → K (a.put o.dst undef) w') : wpOp P ops Q i K a w := by
  obtain ⟨w', hr, h2, h3⟩ := run_store_sized hB h0 hs hcs h1
  exact wpOp_none hi hw (run_store_op ho hp hx hr) (h w' h2 h3)
theorem ag_sent {s : Ag.AgD} {b mt : Nat} (h : s.beats.length = 8) {j : Nat} (hj : j < 8) (x y : Int) : ((s.cells b mt).toList.take (17 + j * 2) ++ (#[.int .i64 x, .int .i64 y] : Array Value).toList ++ (s.cells b mt).toList.drop (17 + j * 2 + 2)).toArray = Ag.AgD.cells { s with beats := s.beats.set j (x, y) } b mt := by
  obtain ⟨p0, p1, p2, p3, p4, p5, p6, p7, e⟩ := beats8 h
  unfold Ag.AgD.cells
  rw [e]
  match j, hj with
  | 0, _ => rfl
  | 1, _ => rfl
  | 2, _ => rfl
  | 3, _ => rfl
  | 4, _ => rfl
  | 5, _ => rfl
  | 6, _ => rfl
  | 7, _ => rfl
theorem field_task (x : AllocD) (st : Int) (W : World) : (Instr.field 96 (.agg (taskCells x st).toArray) 1).run Tryz.prog W = .ok (.int .i64 st) W := by kernel_rfl
theorem AgIs.other {w w' : World} {Ok : Nat → Prop} {B a b mt M t : Nat} {s : Ag.AgD} {d : Dk.DiskD} {cs : Array Value} (h : AgIs w Ok B a b mt s d) (hM : Blk w M t cs) (h1 : t ≠ 84) (h2 : t ≠ 90) (h3 : t ≠ 103) (h4 : t ≠ 5) (h5 : t ≠ 9) (h6 : t ≠ 38) (hx : Ext (fun q => q = M) w w') : AgIs w' Ok B a b mt s d := by
  have hma : a ≠ M := Blk.ne h.blk hM h1.symm
  refine ⟨h.blk.ext hx hma, h.disk.keep hx (fun q cs e hq => ?_) (fun q c e => ⟨fun hq => ?_, fun hq => ?_⟩) (fun q e => ?_), h.tasks.ext hx (fun e => h.tasks.ne hM e), h.good, h.beats, h.ge⟩
  all_goals (have e : q = M := e; subst e)
  · exact absurd rfl (Blk.ne hM hq h4)
  · exact absurd rfl (Blk.ne hM hq h5)
  · exact absurd rfl (Blk.ne hM hq h6)
  · exact DkB.blk hM h2 h3
set_option maxRecDepth 20000 in
set_option maxHeartbeats 16000000 in
theorem agTick {Ok : Nat → Prop} {B a b mt : Nat} {s : Ag.AgD} {d : Dk.DiskD} (w : World) (h : AgIs w Ok B a b mt s d) (htab : HTabB B w) (hb0 : 0 ≤ s.boot) (hb1 : s.boot ≤ 1099511627776) (hdn : d.done.length + 1 < 67108863) (hc0 : 0 ≤ s.clock) (hc1 : s.clock < 1099511627776) (hn0 : 0 ≤ s.count) (hn1 : s.count < 1099511627776) (hq0 : 0 ≤ s.seq) (hq1 : s.seq < 1099511627776) (hs0 : 1 ≤ s.servers) (hs1 : s.servers ≤ 5) (htl : s.tasks.length ≤ 67108863) :
    Calls Tryz.prog 9 #[.pointer (some ⟨a, 0, none⟩)] w fun e w' => ∃ v, e = .returned (.tuple #[v, .int .i64 (Ag.tick s d).2.2.2]) ∧ MsgOut w' v (Ag.tick s d).2.2.1 ∧ AgIs w' (OkN w Ok) B a b mt (Ag.tick s d).1 (Ag.tick s d).2.1 ∧ Ext (AgB B w) w w' := by
  have k12 : w.cell? ⟨a, 12, none⟩ = some (.int .i64 s.clock) := h.blk.cell 12
  have f12 : w.frozen? ⟨a, 12, none⟩ = false := h.blk.frozen 12
  go_enter Tryz.func9, Tryz.ntmps9
  go_upto_region 2 with (first | go_skip | go_guarded)
  have hx1 : Ext (fun q => q = a) w (w.setCell ⟨a, 12, none⟩ (.int .i64 (s.clock + 1))) := Ext.set1 _ _ _ _
  have hB1 : Blk (w.setCell ⟨a, 12, none⟩ (.int .i64 (s.clock + 1))) a 84 (Ag.AgD.cells { s with clock := s.clock + 1 } b mt) := by have h9 := h.blk.set_ 12 (.int .i64 (s.clock + 1)); rw [ag_set] at h9; exact h9
  have hI1 := (h.set (s' := { s with clock := s.clock + 1 }) hx1 hB1 rfl h.beats).mono (Ok' := OkN w Ok) (fun _ _ e => .inl e)
  have hK1 := h.agb hx1
  have htab1 := htab.step hK1
  have hz1 := hx1.size
  clear k12 f12 hx1 hB1
  generalize hW1 : (w.setCell ⟨a, 12, none⟩ (.int .i64 (s.clock + 1))) = w1 at hI1 hK1 htab1 hz1 ⊢
  clear hW1
  have HS := Lib.hid (show True from trivial)
  obtain ⟨s1, hs1d⟩ : ∃ z : Ag.AgD, z = { s with clock := s.clock + 1 } := ⟨_, rfl⟩
  have HS1 := Lib.hid hs1d
  rw [← hs1d] at hI1
  have p1 : s1.boot = s.boot ∧ s1.clock = s.clock + 1 ∧ s1.count = s.count ∧ s1.seq = s.seq ∧ s1.servers = s.servers ∧ s1.tasks = s.tasks := by rw [hs1d]; exact ⟨rfl, rfl, rfl, rfl, rfl, rfl⟩
  obtain ⟨b0, b1⟩ : 0 ≤ s1.boot ∧ s1.boot ≤ 1099511627776 := by rw [p1.1]; exact ⟨hb0, hb1⟩
  have P1 := Lib.hid p1
  clear p1 hs1d
  have k11 : w1.cell? ⟨a, 11, none⟩ = some (.bool s1.down) := hI1.blk.cell 11
  go_upto_if 20 with (first | go_skip | go_guarded)
  go_cut [4] from 20 to 25 (fun e wx => ∃ s2 d2, Ag.tickA s1 d = (s2, d2, 0) ∧ AgIs wx (OkN w Ok) B a b mt s2 d2 ∧ Ext (AgB B w) w wx)
  case first =>
    cases hdw : s1.down with
    | false =>
      rw [hdw] at k11
      have HA := Lib.hid (show Ag.tickA s1 d = (s1, d, 0) by unfold Ag.tickA; rw [hdw]; rfl)
      clear hdw
      go_wp2_with (first | go_skip | go_guarded)
      go_meet
      exact ⟨s1, d, HA.out, hI1, hK1⟩
    | true =>
      rw [hdw] at k11
      have HA := Lib.hid (show Ag.tickA s1 d = Ag.boots s1 d by unfold Ag.tickA; rw [hdw]; rfl)
      have hcall := agBoots w1 hI1 htab1 b0 b1 (by omega)
      generalize hr : Ag.boots s1 d = r at hcall
      have HR := Lib.hid hr
      clear hr hdw
      obtain ⟨s2, d2, e2⟩ := r
      dsimp only at hcall
      cases he2 : (e2 != 0) with
      | true =>
        have HE := Lib.hid (show Ag.tick s d = (s2, d2, none, e2) from Ag.tick_a (by rw [← HS1.out, HA.out, HR.out]) (by simpa using he2))
        go_wp2_with (first | go_skip | go_guarded | (go_at_call 23; (with_reducible refine hcall.mono ?_); rintro e w2 ⟨rfl, hI2, hx2⟩))
        go_ret2
        rw [HE.out]
        exact ⟨_, rfl, rfl, hI2.mono (fun q _ e => by rcases e with (e | e) | e; exact .inl e; exact .inr e; exact .inr (by omega)), AgB.trans hK1 hx2⟩
      | false =>
        have HE := Lib.hid (show e2 = 0 by simpa using he2)
        go_wp2_with (first | go_skip | go_guarded | (go_at_call 23; (with_reducible refine hcall.mono ?_); rintro e w2 ⟨rfl, hI2, hx2⟩))
        go_meet
        exact ⟨s2, d2, by rw [HA.out, HR.out, HE.out], hI2.mono (fun q _ e => by rcases e with (e | e) | e; exact .inl e; exact .inr e; exact .inr (by omega)), AgB.trans hK1 hx2⟩
  case rest =>
    obtain ⟨s2, d2, hA, hI2, hK2⟩ := hcut
    have hkA := Ag.tickA_kept s1 d
    rw [hA] at hkA
    have HA := Lib.hid hA
    clear hA k11 hI1 hK1 htab1
    obtain ⟨q1, q2, q3, q4⟩ := hkA
    have p1 := P1.out
    have r0 : 0 ≤ s2.boot ∧ s2.boot ≤ 1099511627776 := by rcases q1.boot with e | ⟨e, _⟩ <;> (simp only at e; omega)
    obtain ⟨b0', b1'⟩ := r0
    have F2 := Lib.hid (show s2.clock = s.clock + 1 ∧ s2.count = s.count ∧ s2.seq = s.seq ∧ s2.servers = s.servers ∧ s2.tasks = s.tasks ∧ d2.done.length ≤ d.done.length + 1 from ⟨q1.clock.trans p1.2.1, q1.count.trans p1.2.2.1, q3.trans p1.2.2.2.1, q1.servers.trans p1.2.2.2.2.1, q2.trans p1.2.2.2.2.2, q4⟩)
    have hdn2 : d2.done.length < 67108863 := by have := F2.out.2.2.2.2.2; omega
    have htab2 := htab.step hK2
    have hz2 := hK2.size
    clear q1 q2 q3 q4 p1
    go_upto_region 6 with (first | go_skip | go_guarded)
    have k13 : wc.cell? ⟨a, 13, none⟩ = some (.int .i64 s2.epoch) := hI2.blk.cell 13
    have k14 : wc.cell? ⟨a, 14, none⟩ = some (.int .i64 s2.lease) := hI2.blk.cell 14
    have k12 : wc.cell? ⟨a, 12, none⟩ = some (.int .i64 s2.clock) := hI2.blk.cell 12
    obtain ⟨w2, rfl⟩ : ∃ z : World, z = wc := ⟨_, rfl⟩
    go_cut [41] from 26 to 41 (fun e wx => e = .bool (Ag.lapsed s2) ∧ Ext Nothing w2 wx)
    case first =>
      cases e1 : (s2.epoch != 0) with
      | false =>
        have HL := Lib.hid (show Ag.lapsed s2 = false by unfold Ag.lapsed; rw [e1]; rfl)
        go_quiet (fail)
        have hdq := (Ext.refl Nothing w2).drewN nq
        generalize w2.drewN nq = w3 at hdq ⊢
        go_wp2_with (first | go_skip | go_guarded)
        go_meet
        exact ⟨by rw [HL.out], hdq⟩
      | true =>
        cases e2 : decide (s2.lease < s2.clock) with
        | false =>
          have HL := Lib.hid (show Ag.lapsed s2 = false by unfold Ag.lapsed; rw [e1, e2]; rfl)
          go_quiet (fail)
          have hdq := (Ext.refl Nothing w2).drewN nq
          generalize w2.drewN nq = w3 at hdq ⊢
          go_wp2_with (first | go_skip | go_guarded)
          go_meet
          exact ⟨by rw [HL.out], hdq⟩
        | true =>
          have HL := Lib.hid (show Ag.lapsed s2 = true by unfold Ag.lapsed; rw [e1, e2]; rfl)
          go_quiet (fail)
          have hdq := (Ext.refl Nothing w2).drewN nq
          generalize w2.drewN nq = w3 at hdq ⊢
          go_wp2_with (first | go_skip | go_guarded)
          go_meet
          exact ⟨by rw [HL.out], hdq⟩
    case rest =>
      obtain ⟨rfl, hxc⟩ := hcut
      have hI3 := hI2.keep0 hxc
      have hK3 : Ext (AgB B w) w wc := AgB.trans hK2 (hxc.mono (fun _ _ e => e.elim))
      have htab3 := htab.step hK3
      have hz3 := hK3.size
      clear hI2 hK2 htab2 k13 k14 k12 hz2
      go_upto_if 41 with (first | go_skip | go_guarded)
      obtain ⟨w3, rfl⟩ : ∃ z : World, z = wc := ⟨_, rfl⟩
      go_cut [5] from 41 to 46 (fun e wx => ∃ s3 d3, Ag.tickB s2 d2 = (s3, d3, 0) ∧ AgIs wx (OkN w Ok) B a b mt s3 d3 ∧ Ext (AgB B w) w wx)
      case first =>
        cases hdw : Ag.lapsed s2 with
        | false =>
          have HB := Lib.hid (show Ag.tickB s2 d2 = (s2, d2, 0) by unfold Ag.tickB; rw [hdw]; rfl)
          clear hdw
          go_wp2_with (first | go_skip | go_guarded)
          go_meet
          exact ⟨s2, d2, HB.out, hI3, hK3⟩
        | true =>
          have HB := Lib.hid (show Ag.tickB s2 d2 = Ag.yields s2 d2 by unfold Ag.tickB; rw [hdw]; rfl)
          have hcall := agYields w3 hI3 htab3 b0' b1' hdn2
          generalize hr : Ag.yields s2 d2 = r at hcall
          have HR := Lib.hid hr
          clear hr hdw
          obtain ⟨s4, d4, e4⟩ := r
          dsimp only at hcall
          cases he4 : (e4 != 0) with
          | true =>
            have HE := Lib.hid (show Ag.tick s d = (s4, d4, none, e4) from Ag.tick_b (by rw [← HS1.out, HA.out]) (by rw [HB.out, HR.out]) (by simpa using he4))
            go_wp2_with (first | go_skip | go_guarded | (go_at_call 24; (with_reducible refine hcall.mono ?_); rintro e w4 ⟨rfl, hI4, hx4⟩))
            go_ret2
            rw [HE.out]
            exact ⟨_, rfl, rfl, hI4.mono (fun q _ e => by rcases e with (e | e) | e; exact .inl e; exact .inr e; exact .inr (by omega)), AgB.trans hK3 hx4⟩
          | false =>
            have HE := Lib.hid (show e4 = 0 by simpa using he4)
            go_wp2_with (first | go_skip | go_guarded | (go_at_call 24; (with_reducible refine hcall.mono ?_); rintro e w4 ⟨rfl, hI4, hx4⟩))
            go_meet
            exact ⟨s4, d4, by rw [HB.out, HR.out, HE.out], hI4.mono (fun q _ e => by rcases e with (e | e) | e; exact .inl e; exact .inr e; exact .inr (by omega)), AgB.trans hK3 hx4⟩
      case rest =>
        obtain ⟨s3, d3, hBB, hI4, hK4⟩ := hcut
        have hkB := Ag.tickB_kept s2 d2
        rw [hBB] at hkB
        have HBB := Lib.hid hBB
        clear hBB hI3 hK3 htab3 hz3
        obtain ⟨q1, q2, q3⟩ := hkB
        have p1 := F2.out
        have htl3 : s3.tasks.length ≤ 67108863 := by rcases q2 with e | e <;> (rw [show s3.tasks = _ from e]; first | (rw [p1.2.2.2.2.1]; exact htl) | decide)
        have F3 := Lib.hid (show s3.clock = s.clock + 1 ∧ s3.count = s.count ∧ s3.servers = s.servers from ⟨q1.clock.trans p1.1, q1.count.trans p1.2.1, q1.servers.trans p1.2.2.2.1⟩)
        obtain ⟨g0, g1⟩ : 0 ≤ s3.seq ∧ s3.seq < 1099511627776 := by rcases q3 with e | e <;> (rw [show s3.seq = _ from e]; have := p1.2.2.1; omega)
        have p3 := F3.out
        obtain ⟨c0', c1'⟩ : 0 ≤ s3.clock ∧ s3.clock < 1099511627777 := by omega
        obtain ⟨n0', n1'⟩ : 0 ≤ s3.count ∧ s3.count < 1099511627776 := by omega
        obtain ⟨v0', v1'⟩ : 1 ≤ s3.servers ∧ s3.servers ≤ 5 := by omega
        have hz4 := hK4.size
        clear q1 q2 q3 p1 p3 hc0 hc1 hn0 hn1 hq0 hq1 hs0 hs1
        have k12 : wc.cell? ⟨a, 12, none⟩ = some (.int .i64 s3.clock) := hI4.blk.cell 12
        obtain ⟨w4, rfl⟩ : ∃ z : World, z = wc := ⟨_, rfl⟩
        have HWB := Lib.hid (show True from trivial)
        cases hm : (s3.clock % 3 != 0) with
        | true =>
          have HE := Lib.hid (show Ag.tick s d = (s3, d3, none, 0) from Ag.tick_c (by rw [← HS1.out, HA.out]) HBB.out (by simpa using hm))
          go_wp2_with (first | go_skip | go_guarded)
          go_ret2
          rw [HE.out]
          exact ⟨_, rfl, rfl, hI4, hK4⟩
        | false =>
          have HE := Lib.hid (show Ag.tick s d = ((Ag.send s3).1, d3, some (Ag.send s3).2, 0) from Ag.tick_d (by rw [← HS1.out, HA.out]) HBB.out (by simpa using hm))
          go_upto_region 12 with (first | go_skip | go_guarded)
          have k8 : w4.cell? ⟨a, 8, none⟩ = some (.int .i64 s3.servers) := hI4.blk.cell 8
          have k34 : w4.cell? ⟨a, 34, none⟩ = some (.int .i64 s3.count) := by rw [hI4.blk.cell]; exact ag_c34 hI4.beats
          have hne : s3.servers ≠ 0 := by omega
          have ht1 : (0 : Int) ≤ s3.count.tmod s3.servers := Int.tmod_nonneg _ n0'
          have ht2 : s3.count.tmod s3.servers < s3.servers := Int.tmod_lt_of_pos _ (by omega)
          have q8 : IntKind.i64.wrap (s3.count.tmod s3.servers) = s3.count.tmod s3.servers := by rw [IntKind.wrap_i64]; omega
          have Q9 := Lib.hid (show wrap64 (s3.count % s3.servers + 1) = s3.count % s3.servers + 1 by rw [Int.tmod_eq_emod_of_nonneg n0'] at ht1 ht2; unfold wrap64; omega)
          go_cut [6] from 53 to 62 (fun e wx => e = .int .i64 (s3.count % s3.servers + 1) ∧ Ext Nothing w4 wx)
          case first =>
            go_quiet (fail)
            have hdq := (Ext.refl Nothing w4).drewN nq
            generalize w4.drewN nq = w5 at hdq ⊢
            go_wp2_with (first | go_skip | go_guarded)
            go_meet
            exact ⟨by rw [Q9.out], hdq⟩
          case rest =>
            obtain ⟨rfl, hxc⟩ := hcut
            have hI5 := hI4.keep0 hxc
            have hK5 : Ext (AgB B w) w wc := AgB.trans hK4 (hxc.mono (fun _ _ e => e.elim))
            clear k12 k34 k8 hne ht1 ht2 q8 hI4 hK4 hm
            obtain ⟨w5, rfl⟩ : ∃ z : World, z = wc := ⟨_, rfl⟩
            have k8 : w5.cell? ⟨a, 8, none⟩ = some (.int .i64 s3.servers) := hI5.blk.cell 8
            have k35 : w5.cell? ⟨a, 35, none⟩ = some (.int .i64 s3.hint) := by rw [hI5.blk.cell]; exact ag_c35 hI5.beats
            go_upto_region 13 with (first | go_skip | go_guarded)
            go_cut [78] from 63 to 78 (fun e wx => e = .bool (decide (1 ≤ s3.hint) && decide (s3.hint ≤ s3.servers)) ∧ Ext Nothing w5 wx)
            case first =>
              cases e1 : decide (1 ≤ s3.hint) with
              | false =>
                go_quiet (fail)
                have hdq := (Ext.refl Nothing w5).drewN nq
                generalize w5.drewN nq = w6 at hdq ⊢
                go_wp2_with (first | go_skip | go_guarded)
                go_meet
                exact ⟨by rw [e1]; rfl, hdq⟩
              | true =>
                cases e2 : decide (s3.hint ≤ s3.servers) with
                | false =>
                  go_quiet (fail)
                  have hdq := (Ext.refl Nothing w5).drewN nq
                  generalize w5.drewN nq = w6 at hdq ⊢
                  go_wp2_with (first | go_skip | go_guarded)
                  go_meet
                  exact ⟨by rw [e1, e2]; rfl, hdq⟩
                | true =>
                  go_quiet (fail)
                  have hdq := (Ext.refl Nothing w5).drewN nq
                  generalize w5.drewN nq = w6 at hdq ⊢
                  go_wp2_with (first | go_skip | go_guarded)
                  go_meet
                  exact ⟨by rw [e1, e2]; rfl, hdq⟩
            case rest =>
              obtain ⟨rfl, hxc5⟩ := hcut
              have hI6 := hI5.keep0 hxc5
              have hK6 : Ext (AgB B w) w wc := AgB.trans hK5 (hxc5.mono (fun _ _ e => e.elim))
              clear k8 k35 hI5 hK5 hxc
              obtain ⟨w6, rfl⟩ : ∃ z : World, z = wc := ⟨_, rfl⟩
              have k35 : w6.cell? ⟨a, 35, none⟩ = some (.int .i64 s3.hint) := by rw [hI6.blk.cell]; exact ag_c35 hI6.beats
              go_upto_if 78 with (first | go_skip | go_guarded)
              go_cut [6] from 78 to 82 (fun e wx => e = .int .i64 (Ag.to3 s3) ∧ Ext Nothing w6 wx)
              case first =>
                cases e1 : (decide (1 ≤ s3.hint) && decide (s3.hint ≤ s3.servers)) with
                | false =>
                  have HT3 := Lib.hid (show Ag.to3 s3 = s3.count % s3.servers + 1 by unfold Ag.to3;  rw [if_neg (fun e => by rw [decide_eq_true e.1, decide_eq_true e.2] at e1; cases e1)])
                  go_wp2_with (first | go_skip | go_guarded)
                  go_meet
                  exact ⟨by rw [HT3.out], Ext.refl _ _⟩
                | true =>
                  have HT3 := Lib.hid (show Ag.to3 s3 = s3.hint by unfold Ag.to3; rw [Bool.and_eq_true] at e1; rw [if_pos ⟨of_decide_eq_true e1.1, of_decide_eq_true e1.2⟩])
                  go_wp2_with (first | go_skip | go_guarded)
                  go_meet
                  exact ⟨by rw [HT3.out], Ext.refl _ _⟩
              case rest =>
                obtain ⟨rfl, hxc6⟩ := hcut
                have hI7 := hI6.keep0 hxc6
                have hK7 : Ext (AgB B w) w wc := AgB.trans hK6 (hxc6.mono (fun _ _ e => e.elim))
                clear hxc5 hxc6 k35 hI6 hK6
                obtain ⟨w7, rfl⟩ : ∃ z : World, z = wc := ⟨_, rfl⟩
                generalize hto : Ag.to3 s3 = dst
                have HTO := Lib.hid hto
                clear hto
                have k35 : w7.cell? ⟨a, 35, none⟩ = some (.int .i64 s3.hint) := by rw [hI7.blk.cell]; exact ag_c35 hI7.beats
                have f35 : w7.frozen? ⟨a, 35, none⟩ = false := hI7.blk.frozen 35
                have hXa : Ext (fun q => q = a) w7 (w7.setCell ⟨a, 35, none⟩ (.int .i64 0)) := Ext.set1 _ _ _ _
                have hBa : Blk (w7.setCell ⟨a, 35, none⟩ (.int .i64 0)) a 84 (Ag.AgD.cells { s3 with hint := 0 } b mt) := by have h9 := hI7.blk.set_ 35 (.int .i64 0); rw [ag_s35 hI7.beats] at h9; exact h9
                have k34 : (w7.setCell ⟨a, 35, none⟩ (.int .i64 0)).cell? ⟨a, 34, none⟩ = some (.int .i64 s3.count) := by rw [hBa.cell]; exact ag_c34 (s := { s3 with hint := 0 }) hI7.beats
                have f34 : (w7.setCell ⟨a, 35, none⟩ (.int .i64 0)).frozen? ⟨a, 34, none⟩ = false := hBa.frozen 34
                go_upto_region 17 with (first | go_skip | go_guarded)
                have hXb : Ext (fun q => q = a) (w7.setCell ⟨a, 35, none⟩ (.int .i64 0)) ((w7.setCell ⟨a, 35, none⟩ (.int .i64 0)).setCell ⟨a, 34, none⟩ (.int .i64 (s3.count + 1))) := Ext.set1 _ _ _ _
                have hBb : Blk ((w7.setCell ⟨a, 35, none⟩ (.int .i64 0)).setCell ⟨a, 34, none⟩ (.int .i64 (s3.count + 1))) a 84 (Ag.AgD.cells { s3 with hint := 0, count := s3.count + 1 } b mt) := by have h9 := hBa.set_ 34 (.int .i64 (s3.count + 1)); rw [ag_s34 (s := { s3 with hint := 0 }) hI7.beats] at h9; exact h9
                have hI8 := hI7.set (s' := { s3 with hint := 0, count := s3.count + 1 }) (hXa.trans hXb (fun _ _ e => e)) hBb rfl hI7.beats
                have hK8 : Ext (AgB B w) w _ := AgB.trans hK7 (hI7.agb (hXa.trans hXb (fun _ _ e => e)))
                clear k35 f35 k34 f34 hXa hBa hXb hBb hI7 hK7
                generalize ((w7.setCell ⟨a, 35, none⟩ (.int .i64 0)).setCell ⟨a, 34, none⟩ (.int .i64 (s3.count + 1))) = w8 at hI8 hK8 ⊢
                have k0 : w8.cell? ⟨a, 0, none⟩ = some (.int .i64 2) := hI8.blk.cell 0
                have hza : a < w8.heap.size := hI8.blk.lt
                have HSN : Hid (∀ z, s3.epoch = z → True) := Lib.hid (fun _ _ => trivial)
                obtain ⟨s4, hs4⟩ : ∃ z : Ag.AgD, z = { s3 with hint := 0, count := s3.count + 1 } := ⟨_, rfl⟩
                rw [← hs4] at hI8
                have HS4 := Lib.hid hs4
                have e40 : s4.epoch = s3.epoch := by rw [hs4]
                have e41 : s4.boot = s3.boot := by rw [hs4]
                have e42 : s4.seq = s3.seq := by rw [hs4]
                have e43 : s4.clock = s3.clock := by rw [hs4]
                have e44 : s4.tasks = s3.tasks := by rw [hs4]
                have E4 := Lib.hid (show s4.epoch = s3.epoch ∧ s4.boot = s3.boot ∧ s4.seq = s3.seq ∧ s4.clock = s3.clock ∧ s4.tasks = s3.tasks from ⟨e40, e41, e42, e43, e44⟩)
                clear hs4 e40 e41 e42 e43 e44
                go_upto_region 18 with (first | go_skip | go_guarded | ((with_reducible refine isBd 51 rfl ?_); refine wpList_build rfl _ _ rfl (mArr dst 0 0 0 0 0 0 (.slice none 0 0)) (by kernel_rfl) ?_) | ((with_reducible refine isAl 51 rfl ?_); refine wpList_alloc_any rfl _ rfl ZTMsg ?_; intro z hz9) | ((with_reducible refine isSt 51 rfl ?_); refine wpList_store_new rfl _ _ _ rfl STMsg z hz9 rfl rfl (mArr dst 0 0 0 0 0 0 (.slice none 0 0)) rfl rfl rfl ?_; clear hz9))
                have hBM := Blk.new w8 51 (mArr dst 0 0 0 0 0 0 (.slice none 0 0))
                have hXM : Ext Nothing w8 (w8.alloc (.cells (mArr dst 0 0 0 0 0 0 (.slice none 0 0)) 51)) := Ext.auto
                generalize hMq : w8.heap.size = M at hBM hza ⊢
                have HM := Lib.hid hMq
                have hna : a ≠ M := by omega
                clear hMq k0
                generalize (w8.alloc (.cells (mArr dst 0 0 0 0 0 0 (.slice none 0 0)) 51)) = w9 at hBM hXM ⊢
                have k13 : w9.cell? ⟨a, 13, none⟩ = some (.int .i64 s4.epoch) := (hI8.keep0 hXM).blk.cell 13
                cases he0 : (s4.epoch == 0) with
                | true =>
                  have HSD := Lib.hid (show Ag.send s3 = (s4, ⟨9, 102, dst, s4.boot, 0, 5, s4.boot, 0, 0, 0⟩) by
                    have h9 := E4.out
                    unfold Ag.send
                    rw [if_pos (by rw [← h9.1]; simpa using he0), HTO.out, HS4.out])
                  have hI9 := hI8.keep0 hXM
                  have k10 : w9.cell? ⟨a, 10, none⟩ = some (.int .i64 s4.boot) := hI9.blk.cell 10
                  have g8 : w9.frozen? ⟨M, 8, none⟩ = false := hBM.frozen 8
                  have c8 : w9.cell? ⟨M, 8, none⟩ = some (.int .i64 0) := hBM.cell 8
                  go_upto_region 20 with (first | go_skip | go_guarded)
                  have hx10 : Ext (fun q => q = M) w9 (w9.setCell ⟨M, 8, none⟩ (.int .i64 s4.boot)) := Ext.set1 _ _ _ _
                  have hB10 : Blk (w9.setCell ⟨M, 8, none⟩ (.int .i64 s4.boot)) M 51 (mArr dst s4.boot 0 0 0 0 0 (.slice none 0 0)) := hBM.set_ 8 (.int .i64 s4.boot)
                  have hX10 : Ext Nothing w8 (w9.setCell ⟨M, 8, none⟩ (.int .i64 s4.boot)) := hXM.trans hx10 (fun q hq e => by have e : q = M := e; have := HM.out; omega)
                  clear k10 g8 c8 k13 hI9 hx10 hBM hXM
                  generalize (w9.setCell ⟨M, 8, none⟩ (.int .i64 s4.boot)) = w10 at hB10 hX10 ⊢
                  refine zS (S := fun W' => Ext (fun q => q = M) w10 W') (by kernel_rfl) ?_
                  have hd : Ext Nothing w10 w10.drew := (Ext.refl _ _).drew
                  have hS : Ext (fun q => q = M) w10 w10.drew := (Ext.refl _ _).drew
                  generalize w10.drew = Wd at hd hS ⊢
                  have hI10 := hI8.keep0 hX10
                  have HB9 := hI10.blk
                  have k0 : w10.cell? ⟨a, 0, none⟩ = some (.int .i64 2) := HB9.cell 0
                  have k10 : w10.cell? ⟨a, 10, none⟩ = some (.int .i64 s4.boot) := HB9.cell 10
                  have hcR : ∀ j u, (#[.int .i64 0, .int .i64 0] : Array Value).toList[j]? = some u → w10.cell? ⟨a, 1 + j, none⟩ = some u := fun j u hu => by
                    match j, hu with
                    | 0, hu => cases hu; exact HB9.cell 1
                    | 1, hu => cases hu; exact HB9.cell 2
                    | (j+2), hu => simp at hu
                  refine zT 0 (.pointer (some ⟨a, 0, none⟩)) rfl (by kernel_rfl) (by rfl) hS (fun _ _ _ h => h) (fun W' hS' => by go_simp) ?_
                  refine zT 1 (.pointer (some ⟨a, 0, none⟩)) rfl (by kernel_rfl) (by rfl) hS (fun _ _ _ h => h) (fun W' hS' => by go_simp) ?_
                  refine zT 2 (.pointer (some ⟨a, 0, none⟩)) rfl (by kernel_rfl) (by rfl) hS (fun _ _ _ h => h) (fun W' hS' => by go_simp) ?_
                  refine zT 3 (.pointer (some ⟨a, 0, none⟩)) rfl (by kernel_rfl) (by rfl) hS (fun _ _ _ h => h) (fun W' hS' => by go_simp) ?_
                  refine zT 4 (.int .i64 2) rfl (by kernel_rfl) (by rfl) hS (fun _ _ _ h => h) (fun W' hS' => by have q9 := hS'.cell k0 (fun e => hna e); go_simp) ?_
                  refine zT 5 (.pointer (some ⟨a, 0, none⟩)) rfl (by kernel_rfl) (by rfl) hS (fun _ _ _ h => h) (fun W' hS' => by go_simp) ?_
                  refine zT 6 (.pointer (some ⟨a, 0, none⟩)) rfl (by kernel_rfl) (by rfl) hS (fun _ _ _ h => h) (fun W' hS' => by go_simp) ?_
                  refine zT 7 (.pointer (some ⟨a, 0, none⟩)) rfl (by kernel_rfl) (by rfl) hS (fun _ _ _ h => h) (fun W' hS' => by go_simp) ?_
                  refine zT 8 (.pointer (some ⟨a, 1, none⟩)) rfl (by kernel_rfl) (by rfl) hS (fun _ _ _ h => h) (fun W' hS' => by go_simp) ?_
                  refine zT 9 (.agg #[.int .i64 0, .int .i64 0]) rfl (by kernel_rfl) (by rfl) hS (fun _ _ _ h => h) (fun W' hS' => by exact run_load_struct (sz := 2) (b := a) (off := 1) rfl STResG (by go_simp) (fun j u hu => hS'.cell (hcR j u hu) (fun e => hna e)) rfl) ?_
                  refine zT 10 (.pointer (some ⟨a, 0, none⟩)) rfl (by kernel_rfl) (by rfl) hS (fun _ _ _ h => h) (fun W' hS' => by go_simp) ?_
                  refine zT 11 (.pointer (some ⟨a, 0, none⟩)) rfl (by kernel_rfl) (by rfl) hS (fun _ _ _ h => h) (fun W' hS' => by go_simp) ?_
                  refine zT 12 (.pointer (some ⟨a, 10, none⟩)) rfl (by kernel_rfl) (by rfl) hS (fun _ _ _ h => h) (fun W' hS' => by go_simp) ?_
                  refine zT 13 (.int .i64 s4.boot) rfl (by kernel_rfl) (by rfl) hS (fun _ _ _ h => h) (fun W' hS' => by have q9 := hS'.cell k10 (fun e => hna e); go_simp) ?_
                  refine zT 14 (.agg (nodeArr s4.boot 0 0)) rfl (by kernel_rfl) (by rfl) hS (fun _ _ _ h => h) (fun W' hS' => by exact run_build_op rfl (by kernel_rfl)) ?_
                  refine zT 15 (.agg (cmdArr 5 s4.boot 0 0)) rfl (by kernel_rfl) (by rfl) hS (fun _ _ _ h => h) (fun W' hS' => by exact run_build_op rfl (by kernel_rfl)) ?_
                  refine zT 16 (.pointer (some ⟨M, 16, none⟩)) rfl (by kernel_rfl) (by rfl) hS (fun _ _ _ h => h) (fun W' hS' => by go_simp) ?_
                  (try simp only [Act.put, zA, zB, zC, zD, zE, zF])
                  refine zO 17 (by kernel_rfl) ?_
                  refine wpOp_store_sized (sz := 27) rfl (by rfl) rfl (by kernel_rfl) rfl rfl (hB10.e0 hd) (show 16 + 27 ≤ 46 by decide) rfl rfl (fun w11 hB11 hx11 => ?_)
                  have hB11 : Blk w11 M 51 (mArr dst s4.boot 5 2 s4.boot 0 0 (.slice none 0 0)) := hB11
                  refine ⟨hS.trans hx11 (fun _ _ e => e), wpAnyH_done (by kernel_rfl) ?_ _⟩
                  (try simp only [Act.put, zA, zB, zC, zD, zE, zF])
                  have hX11 : Ext Nothing w8 w11 := (hX10.tr hd).trans hx11 (fun q hq e => by have e : q = M := e; have := HM.out; omega)
                  clear hS hd hx11 k0 k10 HB9 hI10 hB10 hX10
                  have hX12 : Ext Nothing w11 (w11.alloc (.cells (mArr dst s4.boot 5 2 s4.boot 0 0 (.slice none 0 0)) 51)) := Ext.auto
                  go_wp2_with (first | go_skip | go_guarded | ((with_reducible refine isLd 51 rfl ?_); refine wpList_load_blk rfl 51 _ rfl STMsg M rfl (mArr dst s4.boot 5 2 s4.boot 0 0 (.slice none 0 0)) hB11 rfl ?_) | ((with_reducible refine isBs 33 rfl ?_); refine wpList_slice1 rfl 33 _ rfl SRMsg (mArr dst s4.boot 5 2 s4.boot 0 0 (.slice none 0 0)) rfl rfl ?_))
                  go_ret2
                  rw [HE.out, HSD.out]
                  exact ⟨_, rfl, ⟨_, _, rfl, Blk.new _ _ _, ⟨rfl, rfl, rfl, rfl, rfl, rfl, rfl, rfl, rfl, rfl, rfl, rfl⟩⟩, hI8.keep0 (hX11.tr hX12), AgB.trans hK8 ((hX11.tr hX12).mono (fun _ _ e => e.elim))⟩
                | false =>
                  have HE4 := E4.out
                  have hsq : 0 ≤ s4.seq ∧ s4.seq < 1099511627776 := by rw [HE4.2.2.1]; exact ⟨g0, g1⟩
                  have hck4 : 0 ≤ s4.clock ∧ s4.clock < 1099511627777 := by rw [HE4.2.2.2.1]; exact ⟨c0', c1'⟩
                  have HTK4 := Lib.hid (show s4.tasks.length ≤ 67108863 by rw [HE4.2.2.2.2]; exact htl3)
                  obtain ⟨s0, s0'⟩ := hsq
                  have HSD := Lib.hid (show Ag.send s3 = ({ s4 with seq := s4.seq + 1, beats := s4.beats.set ((s4.seq + 1) % 8).toNat (s4.seq + 1, s4.clock) }, ⟨9, 102, dst, s4.seq + 1, 0, 6, 0, s4.epoch, 0, 0⟩) by
                    have h9 := HS4.out
                    unfold Ag.send
                    rw [if_neg (by rw [← HE4.1]; simpa using he0), HTO.out, h9])
                  clear HE4
                  have hZ8 := Lib.hid hK8.size
                  have hI9 := hI8.keep0 hXM
                  have hK9 : Ext (AgB B w) w w9 := AgB.trans hK8 (hXM.mono (fun _ _ e => e.elim))
                  have k15 : w9.cell? ⟨a, 15, none⟩ = some (.int .i64 s4.seq) := hI9.blk.cell 15
                  have f15 : w9.frozen? ⟨a, 15, none⟩ = false := hI9.blk.frozen 15
                  go_upto_region 23 with (first | go_skip | go_guarded)
                  have hXa : Ext (fun q => q = a) w9 (w9.setCell ⟨a, 15, none⟩ (.int .i64 (s4.seq + 1))) := Ext.set1 _ _ _ _
                  have hBa : Blk (w9.setCell ⟨a, 15, none⟩ (.int .i64 (s4.seq + 1))) a 84 (Ag.AgD.cells { s4 with seq := s4.seq + 1 } b mt) := by have h9 := hI9.blk.set_ 15 (.int .i64 (s4.seq + 1)); rw [ag_set] at h9; exact h9
                  have hIa := hI9.set (s' := { s4 with seq := s4.seq + 1 }) hXa hBa rfl hI9.beats
                  have hKa : Ext (AgB B w) w _ := AgB.trans hK9 (hI9.agb hXa)
                  have hMa := hBM.ext hXa (fun e => hna e.symm)
                  clear k13 k15 f15 hXa hBa hI9 hK9 hBM hXM hI8 hK8
                  generalize (w9.setCell ⟨a, 15, none⟩ (.int .i64 (s4.seq + 1))) = wa at hIa hKa hMa ⊢
                  have HJ := Lib.hid (show ((s4.seq + 1) % 8).toNat < 8 ∧ ((((s4.seq + 1) % 8).toNat : Nat) : Int) = (s4.seq + 1) % 8 by omega)
                  generalize hj9 : ((s4.seq + 1) % 8).toNat = j at HJ HSD
                  clear hj9
                  have hj := HJ.out.1
                  have hj2 : (s4.seq + 1) % 8 = (j : Int) := HJ.out.2.symm
                  have hj3 : (s4.seq + 1).tmod 8 = (j : Int) := by rw [Int.tmod_eq_emod_of_nonneg (by omega)]; exact hj2
                  refine zS (S := fun W' => Ext (fun q => q = a) wa W' ∧ W'.cell? ⟨a, 15, none⟩ = some (.int .i64 (s4.seq + 1)) ∧ W'.cell? ⟨a, 12, none⟩ = some (.int .i64 s4.clock)) (by kernel_rfl) ?_
                  have hd : Ext Nothing wa wa.drew := (Ext.refl _ _).drew
                  generalize wa.drew = Wd at hd ⊢
                  have HB9 := hIa.blk
                  have q15 : Wd.cell? ⟨a, 15, none⟩ = some (.int .i64 (s4.seq + 1)) := (HB9.e0 hd).cell 15
                  have q12 : Wd.cell? ⟨a, 12, none⟩ = some (.int .i64 s4.clock) := (HB9.e0 hd).cell 12
                  have hS : Ext (fun q => q = a) wa Wd ∧ Wd.cell? ⟨a, 15, none⟩ = some (.int .i64 (s4.seq + 1)) ∧ Wd.cell? ⟨a, 12, none⟩ = some (.int .i64 s4.clock) := ⟨hd.mono (fun _ _ e => e.elim), q15, q12⟩
                  refine zT 0 (.pointer (some ⟨a, 0, none⟩)) rfl (by kernel_rfl) (by rfl) hS (fun _ _ _ h => h) (fun W' hS' => by go_simp) ?_
                  refine zT 1 (.pointer (some ⟨a, 0, none⟩)) rfl (by kernel_rfl) (by rfl) hS (fun _ _ _ h => h) (fun W' hS' => by go_simp) ?_
                  refine zT 2 (.pointer (some ⟨a, 0, none⟩)) rfl (by kernel_rfl) (by rfl) hS (fun _ _ _ h => h) (fun W' hS' => by go_simp) ?_
                  refine zT 3 (.pointer (some ⟨a, 15, none⟩)) rfl (by kernel_rfl) (by rfl) hS (fun _ _ _ h => h) (fun W' hS' => by go_simp) ?_
                  refine zT 4 (.int .i64 (s4.seq + 1)) rfl (by kernel_rfl) (by rfl) hS (fun _ _ _ h => h) (fun W' hS' => by have q9 := hS'.2.1; go_simp) ?_
                  refine zT 5 (.int .i64 (j : Int)) rfl (by kernel_rfl) (by rfl) hS (fun _ _ _ h => h) (fun W' hS' => by go_simp) ?_
                  refine zT 6 (.pointer (some ⟨a, 0, none⟩)) rfl (by kernel_rfl) (by rfl) hS (fun _ _ _ h => h) (fun W' hS' => by go_simp) ?_
                  refine zT 7 (.pointer (some ⟨a, 0, none⟩)) rfl (by kernel_rfl) (by rfl) hS (fun _ _ _ h => h) (fun W' hS' => by go_simp) ?_
                  refine zT 8 (.pointer (some ⟨a, 15, none⟩)) rfl (by kernel_rfl) (by rfl) hS (fun _ _ _ h => h) (fun W' hS' => by go_simp) ?_
                  refine zT 9 (.int .i64 (s4.seq + 1)) rfl (by kernel_rfl) (by rfl) hS (fun _ _ _ h => h) (fun W' hS' => by have q9 := hS'.2.1; go_simp) ?_
                  refine zT 10 (.pointer (some ⟨a, 0, none⟩)) rfl (by kernel_rfl) (by rfl) hS (fun _ _ _ h => h) (fun W' hS' => by go_simp) ?_
                  refine zT 11 (.pointer (some ⟨a, 0, none⟩)) rfl (by kernel_rfl) (by rfl) hS (fun _ _ _ h => h) (fun W' hS' => by go_simp) ?_
                  refine zT 12 (.pointer (some ⟨a, 12, none⟩)) rfl (by kernel_rfl) (by rfl) hS (fun _ _ _ h => h) (fun W' hS' => by go_simp) ?_
                  refine zT 13 (.int .i64 s4.clock) rfl (by kernel_rfl) (by rfl) hS (fun _ _ _ h => h) (fun W' hS' => by have q9 := hS'.2.2; go_simp) ?_
                  refine zT 14 (.agg #[.int .i64 (s4.seq + 1), .int .i64 s4.clock]) rfl (by kernel_rfl) (by rfl) hS (fun _ _ _ h => h) (fun W' hS' => by exact run_build_op rfl (by kernel_rfl)) ?_
                  refine zT 15 (.pointer (some ⟨a, 0, none⟩)) rfl (by kernel_rfl) (by rfl) hS (fun _ _ _ h => h) (fun W' hS' => by go_simp) ?_
                  refine zT 16 (.pointer (some ⟨a, 17, none⟩)) rfl (by kernel_rfl) (by rfl) hS (fun _ _ _ h => h) (fun W' hS' => by go_simp) ?_
                  refine zT 17 (.pointer (some ⟨a, 17 + j * 2, none⟩)) rfl (by kernel_rfl) (by rfl) hS (fun _ _ _ h => h) (fun W' hS' => by go_simp; all_goals (intro h9; exfalso; omega)) ?_
                  (try simp only [Act.put, zA, zB, zC, zD, zE, zF])
                  refine zO 18 (by kernel_rfl) ?_
                  refine wpOp_store_sized (sz := 2) rfl (by rfl) rfl (by kernel_rfl) rfl rfl (HB9.e0 hd) (by rw [ag_size hIa.beats]; omega) rfl rfl (fun w11 hB11 hx11 => ?_)
                  rw [ag_sent hIa.beats hj] at hB11
                  refine ⟨⟨hS.1.trans hx11 (fun _ _ e => e), hB11.cell 15, hB11.cell 12⟩, wpAnyH_done (by kernel_rfl) ?_ _⟩
                  (try simp only [Act.put, zA, zB, zC, zD, zE, zF])
                  have hX11 : Ext (fun q => q = a) wa w11 := hS.1.trans hx11 (fun _ _ e => e)
                  have hI11 := hIa.set hX11 hB11 rfl (by rw [show (Ag.AgD.beats _) = _ from rfl, List.length_set]; exact hIa.beats)
                  have hK11 : Ext (AgB B w) w w11 := AgB.trans hKa (hIa.agb hX11)
                  have hM11 := hMa.ext hX11 (fun e => hna e.symm)
                  clear hX11 hS hd hx11 q15 q12 HB9 hB11 hIa hKa hMa
                  obtain ⟨s5, hs5⟩ : ∃ z : Ag.AgD, z = { s4 with seq := s4.seq + 1, beats := s4.beats.set j (s4.seq + 1, s4.clock) } := ⟨_, rfl⟩
                  replace hI11 : AgIs w11 (OkN w Ok) B a b mt s5 d3 := by rw [hs5]; exact hI11
                  rw [← hs5] at HSD
                  have HS5 := Lib.hid (show s5.seq = s4.seq + 1 ∧ s5.epoch = s4.epoch ∧ s5.tasks = s4.tasks from by rw [hs5]; exact ⟨rfl, rfl, rfl⟩)
                  clear hs5
                  have r15 : w11.cell? ⟨a, 15, none⟩ = some (.int .i64 (s4.seq + 1)) := by have h9 : w11.cell? ⟨a, 15, none⟩ = some (.int .i64 s5.seq) := hI11.blk.cell 15; rw [HS5.out.1] at h9; exact h9
                  have g8 : w11.frozen? ⟨M, 8, none⟩ = false := hM11.frozen 8
                  have c8 : w11.cell? ⟨M, 8, none⟩ = some (.int .i64 0) := hM11.cell 8
                  go_upto_region 25 with (first | go_skip | go_guarded)
                  have hx12 : Ext (fun q => q = M) w11 (w11.setCell ⟨M, 8, none⟩ (.int .i64 (s4.seq + 1))) := Ext.set1 _ _ _ _
                  have hM12 : Blk (w11.setCell ⟨M, 8, none⟩ (.int .i64 (s4.seq + 1))) M 51 (mArr dst (s4.seq + 1) 0 0 0 0 0 (.slice none 0 0)) := hM11.set_ 8 (.int .i64 (s4.seq + 1))
                  have hI12 := hI11.other hM11 (by decide) (by decide) (by decide) (by decide) (by decide) (by decide) hx12
                  have HMW := Lib.hid (show ∀ w' , Ext (fun q => q = M) w11 w' → Ext (AgB B w) w w' from fun w' hx => by
                    have hM : M = w8.heap.size := HM.out.symm
                    have h9 := hZ8.out
                    refine hK11.trans hx (fun q hq e => ?_)
                    have e : q = M := e
                    omega)
                  clear r15 g8 c8 hM11
                  generalize (w11.setCell ⟨M, 8, none⟩ (.int .i64 (s4.seq + 1))) = wb at hx12 hM12 hI12 ⊢
                  refine zS (S := fun W' => Ext (fun q => q = M) wb W') (by kernel_rfl) ?_
                  have hd : Ext Nothing wb wb.drew := (Ext.refl _ _).drew
                  have hS : Ext (fun q => q = M) wb wb.drew := (Ext.refl _ _).drew
                  generalize wb.drew = Wd at hd hS ⊢
                  have HB9 := hI12.blk
                  have k0 : wb.cell? ⟨a, 0, none⟩ = some (.int .i64 2) := HB9.cell 0
                  have k13 : wb.cell? ⟨a, 13, none⟩ = some (.int .i64 s4.epoch) := by have h9 : wb.cell? ⟨a, 13, none⟩ = some (.int .i64 s5.epoch) := HB9.cell 13; rw [HS5.out.2.1] at h9; exact h9
                  have k15 : wb.cell? ⟨a, 15, none⟩ = some (.int .i64 (s4.seq + 1)) := by have h9 : wb.cell? ⟨a, 15, none⟩ = some (.int .i64 s5.seq) := HB9.cell 15; rw [HS5.out.1] at h9; exact h9
                  refine zT 0 (.pointer (some ⟨a, 0, none⟩)) rfl (by kernel_rfl) (by rfl) hS (fun _ _ _ h => h) (fun W' hS' => by go_simp) ?_
                  refine zT 1 (.pointer (some ⟨a, 0, none⟩)) rfl (by kernel_rfl) (by rfl) hS (fun _ _ _ h => h) (fun W' hS' => by go_simp) ?_
                  refine zT 2 (.pointer (some ⟨a, 0, none⟩)) rfl (by kernel_rfl) (by rfl) hS (fun _ _ _ h => h) (fun W' hS' => by go_simp) ?_
                  refine zT 3 (.pointer (some ⟨a, 0, none⟩)) rfl (by kernel_rfl) (by rfl) hS (fun _ _ _ h => h) (fun W' hS' => by go_simp) ?_
                  refine zT 4 (.int .i64 2) rfl (by kernel_rfl) (by rfl) hS (fun _ _ _ h => h) (fun W' hS' => by have q9 := hS'.cell k0 (fun e => hna e); go_simp) ?_
                  refine zT 5 (.pointer (some ⟨a, 0, none⟩)) rfl (by kernel_rfl) (by rfl) hS (fun _ _ _ h => h) (fun W' hS' => by go_simp) ?_
                  refine zT 6 (.pointer (some ⟨a, 0, none⟩)) rfl (by kernel_rfl) (by rfl) hS (fun _ _ _ h => h) (fun W' hS' => by go_simp) ?_
                  refine zT 7 (.pointer (some ⟨a, 13, none⟩)) rfl (by kernel_rfl) (by rfl) hS (fun _ _ _ h => h) (fun W' hS' => by go_simp) ?_
                  refine zT 8 (.int .i64 s4.epoch) rfl (by kernel_rfl) (by rfl) hS (fun _ _ _ h => h) (fun W' hS' => by have q9 := hS'.cell k13 (fun e => hna e); go_simp) ?_
                  refine zT 9 (.pointer (some ⟨a, 0, none⟩)) rfl (by kernel_rfl) (by rfl) hS (fun _ _ _ h => h) (fun W' hS' => by go_simp) ?_
                  refine zT 10 (.pointer (some ⟨a, 0, none⟩)) rfl (by kernel_rfl) (by rfl) hS (fun _ _ _ h => h) (fun W' hS' => by go_simp) ?_
                  refine zT 11 (.pointer (some ⟨a, 15, none⟩)) rfl (by kernel_rfl) (by rfl) hS (fun _ _ _ h => h) (fun W' hS' => by go_simp) ?_
                  refine zT 12 (.int .i64 (s4.seq + 1)) rfl (by kernel_rfl) (by rfl) hS (fun _ _ _ h => h) (fun W' hS' => by have q9 := hS'.cell k15 (fun e => hna e); go_simp) ?_
                  refine zT 13 (.agg (nodeArr 0 s4.epoch (s4.seq + 1))) rfl (by kernel_rfl) (by rfl) hS (fun _ _ _ h => h) (fun W' hS' => by exact run_build_op rfl (by kernel_rfl)) ?_
                  refine zT 14 (.agg (cmdArr 6 0 s4.epoch (s4.seq + 1))) rfl (by kernel_rfl) (by rfl) hS (fun _ _ _ h => h) (fun W' hS' => by exact run_build_op rfl (by kernel_rfl)) ?_
                  refine zT 15 (.pointer (some ⟨M, 16, none⟩)) rfl (by kernel_rfl) (by rfl) hS (fun _ _ _ h => h) (fun W' hS' => by go_simp) ?_
                  (try simp only [Act.put, zA, zB, zC, zD, zE, zF])
                  refine zO 16 (by kernel_rfl) ?_
                  refine wpOp_store_sized (sz := 27) rfl (by rfl) rfl (by kernel_rfl) rfl rfl (hM12.e0 hd) (show 16 + 27 ≤ 46 by decide) rfl rfl (fun w13 hB13 hx13 => ?_)
                  have hM13 : Blk w13 M 51 (mArr dst (s4.seq + 1) 6 2 0 s4.epoch (s4.seq + 1) (.slice none 0 0)) := hB13
                  refine ⟨hS.trans hx13 (fun _ _ e => e), wpAnyH_done (by kernel_rfl) ?_ _⟩
                  (try simp only [Act.put, zA, zB, zC, zD, zE, zF])
                  have hx14 : Ext (fun q => q = M) wb w13 := (hd.mono (fun _ _ e => e.elim) : Ext (fun q => q = M) wb Wd).trans hx13 (fun q hq e => e)
                  have hI13 := hI12.other hM12 (by decide) (by decide) (by decide) (by decide) (by decide) (by decide) hx14
                  have hx15 : Ext (fun q => q = M) w11 w13 := hx12.trans hx14 (fun _ _ e => e)
                  clear hB13 hd hS hx13 HB9 k0 k13 k15 hI12 hM12 hx12 hx14
                  have k33 : w13.cell? ⟨a, 33, none⟩ = some (.map (some mt)) := by rw [hI13.blk.cell]; exact ag_c33 hI13.beats
                  have hs := tSorted w13 hI13.tasks (by have := HTK4.out; rw [HS5.out.2.2]; omega)
                  have hta := hI13.tasks
                  go_upto_region 27 with (first | go_skip | go_guarded | (go_at_call 26; (with_reducible refine (tKeys (some mt) w13).mono ?_); rintro e w' ⟨rfl, rfl⟩) | (go_at_call 25; (with_reducible refine hs.mono ?_); rintro e w2 ⟨v, rfl, ho, hx⟩; obtain ⟨A, c, rfl⟩ := own_slice ho))
                  have hl : Sl w2 1 A s5.tasks.length ((s5.tasks.map (·.1)).map fun k => [Value.int .i64 k]) := Sl.of_own (f := fun k : Int => [Value.int .i64 k]) (fun _ => rfl) (by have e : (s5.tasks.map (·.1)).flatMap (fun k : Int => [Value.int .i64 k]) = (s5.tasks.map (·.1)).map (Value.int .i64) := (by generalize s5.tasks.map (·.1) = l; induction l with | nil => rfl | cons y r ih => rw [List.flatMap_cons, ih]; rfl); rw [e]; exact ho) (by simp)
                  have hM2 := hM13.e0 hx
                  have hI14 := hI13.keep0 hx
                  have hx16 : Ext (fun q => q = M) w11 w2 := hx15.trans hx (fun _ _ e => e.elim)
                  have hMlt := hM2.lt
                  have HQ := Lib.hid (show ∀ q off, A = some ⟨q, off, none⟩ → q ≠ M from fun q off e h9 => by
                    have h8 := (ho.lt q (by rw [e]; rfl)).1
                    have h7 := hM13.lt
                    omega)
                  generalize hn : s5.tasks.length = n at hl
                  have hn0 : n ≤ 67108863 := by have := HTK4.out; have := HS5.out.2.2; rw [← hn, this]; omega
                  have HN := Lib.hid hn
                  clear hn ho k33 hs hx hx15 hI13 hM13
                  go_loopw [183] (fun ki wr => ∃ t : Nat, t ≤ n ∧ ki = .int .i64 t ∧ ∃ A' m' c' xs, m' ≤ 64 ∧ Blk wr M 51 (mArr dst (s4.seq + 1) 6 2 0 s4.epoch (s4.seq + 1) (.slice A' m' c')) ∧ wr.ownsRow w2.heap.size 98 2 (.slice A' m' c') m' xs ∧ Ext (fun q => q = M) w2 wr) (fun ki _ => n - (intOf ki).toNat)
                  case atStart => exact ⟨0, Nat.zero_le _, rfl, none, 0, 0, [], by omega, hM2, World.ownsRow_nil _ _ _ _, Ext.refl _ _⟩
                  case round =>
                    obtain ⟨t, ht, rfl, A', m', c', xs, hm', hMr, hown, hxr⟩ := hrel
                    have hnM : ∀ q, q ≠ M → ¬ (fun q => q = M) q := fun q e h => e h
                    have c34 : wr.cell? ⟨M, 34, none⟩ = some (.slice A' m' c') := hMr.cell 34
                    by_cases hlt : t < n
                    · obtain ⟨hjn, q, off, hAe, hce⟩ := hl.get (Ext.refl Nothing w2) hlt
                      have hqM : q ≠ M := HQ.out q off hAe
                      have hjn2 : t < s5.tasks.length := by simpa using hjn
                      have hat : s5.tasks[t]? = some s5.tasks[t] := List.getElem?_eq_getElem hjn2
                      have hkey : (s5.tasks.map (·.1))[t] = s5.tasks[t].1 := by rw [List.getElem_map]
                      rw [hkey] at hce
                      have hI64 := hta.keys _ (List.mem_of_getElem? hat)
                      have hfd : Ag.tfind s5.tasks s5.tasks[t].1 = some s5.tasks[t].2 := (Ag.tfind_mem hta.asc).2 (List.mem_of_getElem? hat)
                      have hmt : mt < w2.heap.size ∧ mt ≠ M := ⟨hI14.tasks.lt, hI14.tasks.ne hM2⟩
                      have hTr := hI14.tasks.ext hxr (fun e => hmt.2 e)
                      have hlk : ∀ W', Ext (fun q => q = M ∨ w2.heap.size ≤ q) wr W' → (Instr.lookup 79 (.map (some mt)) (.int .i64 s5.tasks[t].1) false).run Tryz.prog W' = .ok (taskV s5.tasks[t].2) W' := by
                        intro W' hx
                        have h9 := tm_look (hTr.ext hx (fun e => by rcases e with e | e; exact hmt.2 e; omega)) hI64 false
                        rw [hfd] at h9
                        exact h9
                      generalize s5.tasks[t] = p at hce hlk hfd
                      obtain ⟨k, x, st⟩ := p
                      replace hlk : ∀ W', Ext (fun q => q = M ∨ w2.heap.size ≤ q) wr W' → (Instr.lookup 79 (.map (some mt)) (.int .i64 k) false).run Tryz.prog W' = .ok (.agg (taskCells x st).toArray) W' := hlk
                      have HLK := Lib.hid hlk
                      subst hAe
                      have c0 : wr.cell? ⟨q, off + t, none⟩ = some (.int .i64 k) := by have h9 := hxr.cell (hce 0 _ rfl) (fun e => hqM e); simpa using h9
                      have hk0 : (0 : Int) ≤ (t : Int) := by omega
                      have hk1 : (t : Int) < n := by omega
                      have HT := Lib.hid hlt
                      have h33 : wr.cell? ⟨a, 33, none⟩ = some (.map (some mt)) := by have h9 := hxr.cell (show w2.cell? ⟨a, 33, none⟩ = some (.map (some mt)) by rw [hI14.blk.cell]; exact ag_c33 hI14.beats) (fun e => hna e); exact h9
                      have haw : a < w2.heap.size := hI14.blk.lt
                      have hnS : ¬ (a = M ∨ w2.heap.size ≤ a) := by rintro (e | e); exact hna e; omega
                      have hbw : w2.heap.size ≤ wr.heap.size := hxr.size
                      clear hce hlt hfd hat hkey hTr hI64 hlk hmt
                      by_cases hm9 : m' < 64
                      · have hm8 : (m' : Int) < 64 := by omega
                        have HM9 := Lib.hid hm9
                        clear hm9
                        go_upto_region 30 with (first | go_skip | go_guarded)
                        clear hm8
                        have hm9 : m' < 67108864 := by have := HM9.out; omega
                        refine zS (S := fun W' => Ext (fun q => q = M ∨ w2.heap.size ≤ q) wr W') (by kernel_rfl) ?_
                        have hd : Ext Nothing wr wr.drew := (Ext.refl _ _).drew
                        have hS : Ext (fun q => q = M ∨ w2.heap.size ≤ q) wr wr.drew := (Ext.refl _ _).drew
                        generalize wr.drew = Wd at hd hS ⊢
                        have hbw : w2.heap.size ≤ (Wd.alloc (.cells #[.int .i64 k, .int .i64 st] 98)).heap.size := Nat.le_trans hbw (hd.alloc (.cells #[.int .i64 k, .int .i64 st] 98)).size
                        have ha : Ext Nothing wr (Wd.alloc (.cells #[.int .i64 k, .int .i64 st] 98)) := hd.alloc _
                        refine zT 0 (.pointer (some ⟨M, 16, none⟩)) rfl (by kernel_rfl) (by rfl) hS (fun _ _ _ h => h) (fun W' hS' => by go_simp) ?_
                        refine zT 1 (.pointer (some ⟨M, 34, none⟩)) rfl (by kernel_rfl) (by rfl) hS (fun _ _ _ h => h) (fun W' hS' => by go_simp) ?_
                        refine zT 3 (.int .i64 k) rfl (by kernel_rfl) (by rfl) hS (fun _ _ _ h => h) (fun W' hS' => by go_simp) ?_
                        refine zT 4 (.pointer (some ⟨a, 0, none⟩)) rfl (by kernel_rfl) (by rfl) hS (fun _ _ _ h => h) (fun W' hS' => by go_simp) ?_
                        refine zT 5 (.pointer (some ⟨a, 0, none⟩)) rfl (by kernel_rfl) (by rfl) hS (fun _ _ _ h => h) (fun W' hS' => by go_simp) ?_
                        refine zT 6 (.pointer (some ⟨a, 33, none⟩)) rfl (by kernel_rfl) (by rfl) hS (fun _ _ _ h => h) (fun W' hS' => by go_simp) ?_
                        refine zT 7 (.map (some mt)) rfl (by kernel_rfl) (by rfl) hS (fun _ _ _ h => h) (fun W' hS' => by have q9 := hS'.cell h33 hnS; go_simp) ?_
                        refine zT 8 (.int .i64 k) rfl (by kernel_rfl) (by rfl) hS (fun _ _ _ h => h) (fun W' hS' => by go_simp) ?_
                        refine zT 9 (.agg (taskCells x st).toArray) rfl (by kernel_rfl) (by rfl) hS (fun _ _ _ h => h) (fun W' hS' => by have q9 := HLK.out W' hS'; go_simp) ?_
                        refine zT 10 (.int .i64 st) rfl (by kernel_rfl) (by rfl) hS (fun _ _ _ h => h) (fun W' hS' => by have q9 := field_task x st W'; go_simp) ?_
                        refine zT 11 (.agg #[.int .i64 k, .int .i64 st]) rfl (by kernel_rfl) (by rfl) hS (fun _ _ _ h => h) (fun W' hS' => by exact run_build_op rfl (by kernel_rfl)) ?_
                        (try simp only [Act.put, zA, zB, zC, zD, zE, zF])
                        refine wpAnyH_all (rs := [2, 12]) (by kernel_rfl) (by simp) (List.forall_mem_cons.2 ⟨?_, List.forall_mem_cons.2 ⟨?_, fun _ h => absurd h (by simp)⟩⟩)
                        · refine wpOp_val (v := .slice A' m' c') rfl (by rfl) (by have q9 := hd.c0 c34; go_simp) ⟨hS, ?_⟩
                          (try simp only [Act.put, zA, zB, zC, zD, zE, zF])
                          refine zO 12 (by kernel_rfl) ?_
                          refine wpOp_slice1 rfl (by rfl) 42 _ rfl SRReport #[.int .i64 k, .int .i64 st] rfl rfl ⟨hS.alloc _, ?_⟩
                          (try simp only [Act.put, zA, zB, zC, zD, zE, zF])
                          refine zO 13 (by kernel_rfl) ?_
                          refine wpOp_app1 rfl (by rfl) _ _ 42 rfl w2.heap.size SRReport (.slice A' m' c') m' _ rfl (own_ext hown ha (fun g hg e => e)) Wd.heap.size 1 #[.int .i64 k, .int .i64 st] rfl (Blk.new _ _ _) rfl rfl hm9 hbw (fun A8 c8 w8' hown8 hgr8 => ⟨(hS.alloc _).grown hgr8 (fun g hg => .inr (.inr (hown.lt g hg).1)), ?_⟩)
                          (try simp only [Act.put, zA, zB, zC, zD, zE, zF])
                          have hx8 : Ext (fun g => (Value.slice A' m' c').ownBlock = some g) wr w8' := (ha.mono (fun _ _ e => e.elim) : Ext (fun g => (Value.slice A' m' c').ownBlock = some g) wr _).grown hgr8 (fun g hg => .inr hg)
                          have hB8 := hMr.ext hx8 (fun e => by have h9 := (hown.lt M e).1; omega)
                          have k8 : w8'.cell? ⟨M, 34, none⟩ = some (.slice A' m' c') := hB8.cell 34
                          have f8 : w8'.frozen? ⟨M, 34, none⟩ = false := hB8.frozen 34
                          have hS8 : Ext (fun q => q = M ∨ w2.heap.size ≤ q) wr w8' := hx8.mono (fun q _ e => .inr (hown.lt q e).1)
                          refine zO 14 (by kernel_rfl) ?_
                          refine wpOp_val (v := .pointer (some ⟨M, 16, none⟩)) rfl (by rfl) (by go_simp) ⟨hS8, ?_⟩
                          (try simp only [Act.put, zA, zB, zC, zD, zE, zF])
                          refine zO 15 (by kernel_rfl) ?_
                          refine wpOp_val (v := .pointer (some ⟨M, 34, none⟩)) rfl (by rfl) (by go_simp) ⟨hS8, ?_⟩
                          (try simp only [Act.put, zA, zB, zC, zD, zE, zF])
                          refine zO 16 (by kernel_rfl) ?_
                          have hx9 : Ext (fun q => q = M) w8' (w8'.setCell ⟨M, 34, none⟩ (.slice A8 (m' + 1) c8)) := Ext.set1 _ _ _ _
                          have hS9 : Ext (fun q => q = M ∨ w2.heap.size ≤ q) wr (w8'.setCell ⟨M, 34, none⟩ (.slice A8 (m' + 1) c8)) := hS8.trans hx9 (fun q hq e => .inl e)
                          refine wpOp_none (w' := w8'.setCell ⟨M, 34, none⟩ (.slice A8 (m' + 1) c8)) rfl (by rfl) (by go_simp) ⟨hS9, wpAnyH_done (by kernel_rfl) ?_ _⟩
                          (try simp only [Act.put, zA, zB, zC, zD, zE, zF])
                          have hM9 : Blk (w8'.setCell ⟨M, 34, none⟩ (.slice A8 (m' + 1) c8)) M 51 (mArr dst (s4.seq + 1) 6 2 0 s4.epoch (s4.seq + 1) (.slice A8 (m' + 1) c8)) := hB8.set_ 34 _
                          have hown9 := own_ext hown8 hx9 (fun g hg e => by have e : g = M := e; have h9 := (hown8.lt g hg).1; omega)
                          have hX9 : Ext (fun q => q = M) w2 (w8'.setCell ⟨M, 34, none⟩ (.slice A8 (m' + 1) c8)) := (hxr.trans hx8 (fun q hq e => by have h9 := (hown.lt q e).1; omega)).trans hx9 (fun _ _ e => e)
                          clear hx8 hB8 k8 f8 hS8 hx9 hS9 hown8 hgr8 ha hS hd hown hMr hxr c34
                          generalize (w8'.setCell ⟨M, 34, none⟩ (.slice A8 (m' + 1) c8)) = w9' at hM9 hown9 hX9 ⊢
                          go_wp2_with (first | go_skip | go_guarded)
                          go_roundw
                          case rel => exact ⟨t + 1, HT.out, by go_num, A8, m' + 1, c8, _, by have h9 := HM9.out; omega, hM9, hown9, hX9⟩
                          case measure => have := HT.out; simp [intOf]; omega
                        · refine wpOp_slice1 rfl (by rfl) 42 _ rfl SRReport #[.int .i64 k, .int .i64 st] rfl rfl ⟨hS.alloc _, ?_⟩
                          (try simp only [Act.put, zA, zB, zC, zD, zE, zF])
                          refine zO 2 (by kernel_rfl) ?_
                          refine wpOp_val (v := .slice A' m' c') (w' := (Wd.alloc (.cells #[.int .i64 k, .int .i64 st] 98))) rfl (by rfl) (by have q9 := ha.c0 c34; go_simp) ⟨hS.alloc _, ?_⟩
                          (try simp only [Act.put, zA, zB, zC, zD, zE, zF])
                          refine zO 13 (by kernel_rfl) ?_
                          refine wpOp_app1 rfl (by rfl) _ _ 42 rfl w2.heap.size SRReport (.slice A' m' c') m' _ rfl (own_ext hown ha (fun g hg e => e)) Wd.heap.size 1 #[.int .i64 k, .int .i64 st] rfl (Blk.new _ _ _) rfl rfl hm9 hbw (fun A8 c8 w8' hown8 hgr8 => ⟨(hS.alloc _).grown hgr8 (fun g hg => .inr (.inr (hown.lt g hg).1)), ?_⟩)
                          (try simp only [Act.put, zA, zB, zC, zD, zE, zF])
                          have hx8 : Ext (fun g => (Value.slice A' m' c').ownBlock = some g) wr w8' := (ha.mono (fun _ _ e => e.elim) : Ext (fun g => (Value.slice A' m' c').ownBlock = some g) wr _).grown hgr8 (fun g hg => .inr hg)
                          have hB8 := hMr.ext hx8 (fun e => by have h9 := (hown.lt M e).1; omega)
                          have k8 : w8'.cell? ⟨M, 34, none⟩ = some (.slice A' m' c') := hB8.cell 34
                          have f8 : w8'.frozen? ⟨M, 34, none⟩ = false := hB8.frozen 34
                          have hS8 : Ext (fun q => q = M ∨ w2.heap.size ≤ q) wr w8' := hx8.mono (fun q _ e => .inr (hown.lt q e).1)
                          refine zO 14 (by kernel_rfl) ?_
                          refine wpOp_val (v := .pointer (some ⟨M, 16, none⟩)) rfl (by rfl) (by go_simp) ⟨hS8, ?_⟩
                          (try simp only [Act.put, zA, zB, zC, zD, zE, zF])
                          refine zO 15 (by kernel_rfl) ?_
                          refine wpOp_val (v := .pointer (some ⟨M, 34, none⟩)) rfl (by rfl) (by go_simp) ⟨hS8, ?_⟩
                          (try simp only [Act.put, zA, zB, zC, zD, zE, zF])
                          refine zO 16 (by kernel_rfl) ?_
                          have hx9 : Ext (fun q => q = M) w8' (w8'.setCell ⟨M, 34, none⟩ (.slice A8 (m' + 1) c8)) := Ext.set1 _ _ _ _
                          have hS9 : Ext (fun q => q = M ∨ w2.heap.size ≤ q) wr (w8'.setCell ⟨M, 34, none⟩ (.slice A8 (m' + 1) c8)) := hS8.trans hx9 (fun q hq e => .inl e)
                          refine wpOp_none (w' := w8'.setCell ⟨M, 34, none⟩ (.slice A8 (m' + 1) c8)) rfl (by rfl) (by go_simp) ⟨hS9, wpAnyH_done (by kernel_rfl) ?_ _⟩
                          (try simp only [Act.put, zA, zB, zC, zD, zE, zF])
                          have hM9 : Blk (w8'.setCell ⟨M, 34, none⟩ (.slice A8 (m' + 1) c8)) M 51 (mArr dst (s4.seq + 1) 6 2 0 s4.epoch (s4.seq + 1) (.slice A8 (m' + 1) c8)) := hB8.set_ 34 _
                          have hown9 := own_ext hown8 hx9 (fun g hg e => by have e : g = M := e; have h9 := (hown8.lt g hg).1; omega)
                          have hX9 : Ext (fun q => q = M) w2 (w8'.setCell ⟨M, 34, none⟩ (.slice A8 (m' + 1) c8)) := (hxr.trans hx8 (fun q hq e => by have h9 := (hown.lt q e).1; omega)).trans hx9 (fun _ _ e => e)
                          clear hx8 hB8 k8 f8 hS8 hx9 hS9 hown8 hgr8 ha hS hd hown hMr hxr c34
                          generalize (w8'.setCell ⟨M, 34, none⟩ (.slice A8 (m' + 1) c8)) = w9' at hM9 hown9 hX9 ⊢
                          go_wp2_with (first | go_skip | go_guarded)
                          go_roundw
                          case rel => exact ⟨t + 1, HT.out, by go_num, A8, m' + 1, c8, _, by have h9 := HM9.out; omega, hM9, hown9, hX9⟩
                          case measure => have := HT.out; simp [intOf]; omega
                      · have hm8 : ¬ ((m' : Int) < 64) := by omega
                        have HM9 := Lib.hid hm'
                        clear hm9 hm'
                        go_wp2_with (first | go_skip | go_guarded)
                        go_roundw
                        case rel => exact ⟨t + 1, HT.out, by go_num, A', m', c', xs, HM9.out, hMr, hown, hxr⟩
                        case measure => have := HT.out; simp [intOf]; omega
                    · have hnl : ¬ ((t : Int) < n) := by omega
                      have hXf : Ext (fun q => q = M) w11 wr := hx16.trans hxr (fun _ _ e => e)
                      clear c34
                      have hXL : Ext Nothing wr (wr.alloc (.cells (mArr dst (s4.seq + 1) 6 2 0 s4.epoch (s4.seq + 1) (.slice A' m' c')) 51)) := Ext.auto
                      go_wp2_with (first | go_skip | go_guarded | ((with_reducible refine isLd 51 rfl ?_); refine wpList_load_blk rfl 51 _ rfl STMsg M rfl (mArr dst (s4.seq + 1) 6 2 0 s4.epoch (s4.seq + 1) (.slice A' m' c')) hMr rfl ?_) | ((with_reducible refine isBs 33 rfl ?_); refine wpList_slice1 rfl 33 _ rfl SRMsg (mArr dst (s4.seq + 1) 6 2 0 s4.epoch (s4.seq + 1) (.slice A' m' c')) rfl rfl ?_))
                      go_ret2
                      rw [HE.out, HSD.out]
                      have hIf := (hI14.other hM2 (by decide) (by decide) (by decide) (by decide) (by decide) (by decide) hxr).keep0 hXL
                      exact ⟨_, rfl, ⟨_, _, rfl, Blk.new _ _ _, ⟨rfl, rfl, rfl, rfl, rfl, rfl, rfl, rfl, rfl, rfl, rfl, rfl⟩⟩, hIf, HMW.out _ (hXf.trans hXL (fun _ _ e => e.elim))⟩



end Go.Proofs.YtockcifkphfnlaaGreatDoor
