/- The machine's boots. (printed by wip/gen/agboots.py) -/
import Derived.Test.YtockcifkphfnlaaGreatDoorAgM
import Derived.Shelf.Strconv.AppendIntPublic10
namespace Go.Proofs.YtockcifkphfnlaaGreatDoor
set_option linter.unusedVariables false
set_option linter.unusedSimpArgs false
open Go.RowKit

/-- the library's table of tens -/
abbrev HTab (w : World) : Prop := Lib.TabIs Tryz.prog w "internal/strconv.uint64pow10" .u64 Lib.pow10Tab
theorem HTab.ext {w w' : World} (h : HTab w) (hx : Ext Nothing w w') : HTab w' := (Lib.tabBelow_of_tabIs h).on hx.below0 |>.here
/-- the table lies where the machine's methods do not write -/
def HTabB (B : Nat) (w : World) : Prop := ∃ w0, HTab w0 ∧ w0.heap.size + 2 ≤ B ∧ Ext Nothing w0 w
theorem HTabB.here {B : Nat} {w : World} (h : HTabB B w) : HTab w := by
  obtain ⟨w0, h1, _, h3⟩ := h
  exact h1.ext h3
theorem HTabB.step {B : Nat} {w w' : World} (h : HTabB B w) (hx : Ext (AgB B w) w w') : HTabB B w' := by
  obtain ⟨w0, h1, h2, h3⟩ := h
  exact ⟨w0, h1, h2, AgB.fresh h2 h3 hx⟩
theorem HTabB.e0 {B : Nat} {w w' : World} (h : HTabB B w) (hx : Ext Nothing w w') : HTabB B w' := h.step (hx.mono (fun _ _ e => e.elim))
theorem zS {P : Program} {ops : Array Oper} {Q : Exit → Act → World → Prop} {a : Act} {w : World} {S : World → Prop} {id : Nat} (hf : P.follows Departure.mixedOrders = true) (h : wpAnyH P .any ops Q S ops.size (Array.replicate ops.size false) a w.drew) : Code.wp P (Code.region id ops true) Q a w :=
  wp_region_held (S := S) hf h
theorem flat_byteCells (l : List UInt8) : Lib.byteCells l = l.flatMap bCell := by
  unfold Lib.byteCells
  induction l with
  | nil => rfl
  | cons x r ih => rw [List.map_cons, List.flatMap_cons, ih]; rfl
theorem agAppend (i : Int) (w : World) (hi : In64 i) (htab : HTab w) : Calls Tryz.prog 35 #[.slice none 0 0, .int .i64 i, .int .i64 10] w fun e w' => ∃ A c, e = .returned (.slice A (Lib.itoa i).length c) ∧ Sl w' 1 A (Lib.itoa i).length ((Lib.itoa i).map bCell) ∧ Ext Nothing w w' := by
  unfold In64 at hi
  refine (Any.strconv_AppendInt_10 Tryz.laysM176 w.heap.size 0 i hi.1 hi.2 (.slice none 0 0) [] w (World.ownsRow_nil _ _ _ _) (Nat.le_refl _) (by omega) (Lib.tabBelow_of_tabIs htab)).mono ?_
  rintro e w' ⟨v', rfl, ho, hb, _⟩
  rw [Nat.zero_add, List.nil_append, flat_byteCells] at ho
  obtain ⟨A, c, rfl⟩ := own_slice ho
  exact ⟨A, c, rfl, Sl.of_own (f := bCell) (fun _ => rfl) ho rfl, Ext.of_below' hb⟩
section
variable {w w' : World} {Ok : Nat → Prop} {B a b mt : Nat} {s s' : Ag.AgD} {d : Dk.DiskD}
theorem AgIs.keep0 (h : AgIs w Ok B a b mt s d) (hx : Ext Nothing w w') : AgIs w' Ok B a b mt s d := ⟨h.blk.e0 hx, h.disk.keep0 hx, h.tasks.ext hx (fun e => e), h.good, h.beats, h.ge⟩
theorem AgIs.mono {Ok' : Nat → Prop} (h : AgIs w Ok B a b mt s d) (hok : ∀ q, q < w.heap.size → Ok q → Ok' q) : AgIs w Ok' B a b mt s d := ⟨h.blk, h.disk.mono hok, h.tasks, h.good, h.beats, h.ge⟩
/-- a write to the machine's own block -/
theorem AgIs.set (h : AgIs w Ok B a b mt s d) (hx : Ext (fun q => q = a) w w') (hb : Blk w' a 84 (s'.cells b mt)) (ht : s'.tasks = s.tasks) (hl : s'.beats.length = 8) : AgIs w' Ok B a b mt s' d := by
  refine ⟨hb, h.disk.keep hx (fun q cs e hq => ?_) (fun q c e => ⟨fun hq => ?_, fun hq => ?_⟩) (fun q e => ?_), by rw [ht]; exact h.tasks.ext hx (fun e => h.tasks.ne h.blk e), h.good, hl, h.ge⟩
  all_goals (have e : q = a := e; subst e)
  · exact absurd rfl (Blk.ne h.blk hq (by decide))
  · exact absurd rfl (Blk.ne h.blk hq (by decide))
  · exact absurd rfl (Blk.ne h.blk hq (by decide))
  · exact DkB.blk h.blk (by decide) (by decide)
/-- an operation of the disk -/
theorem AgIs.dk {d' : Dk.DiskD} {Ok' : Nat → Prop} (h : AgIs w Ok B a b mt s d) (hx : Ext (DkB (fun q => q = mt) b w) w w') (hd : DiskIs (fun q => q = mt) w' Ok' b d') (hg : Dk.Good d') : AgIs w' Ok' B a b mt s d' := by
  refine ⟨h.blk.ext hx (DkB.blk h.blk (by decide) (by decide)), hd, h.tasks.ext hx (fun e => ?_), hg, h.beats, h.ge⟩
  obtain ⟨es, c, hm⟩ := h.tasks.isMap
  rcases e.2 with ⟨cs, h1⟩ | ⟨cs, h1⟩ | ⟨_, h1⟩
  · exact h.tasks.ne h1 rfl
  · exact h.tasks.ne h1 rfl
  · exact h1 rfl
theorem AgIs.agb (h : AgIs w Ok B a b mt s d) (hx : Ext (fun q => q = a) w w') : Ext (AgB B w) w w' := hx.mono (fun q _ e => by have e : q = a := e; subst e; exact ⟨h.ge.1, .inl ⟨_, h.blk⟩⟩)
theorem ag_set (s : Ag.AgD) (b mt i : Nat) (v : Value) : (s.cells b mt).setIfInBounds i v = (((([.int .i64 2, .int .i64 0, .int .i64 0, .bool false, .bool false, .int .i64 0, .int .i64 0, .int .i64 0, .int .i64 s.servers, .pointer (some ⟨b, 0, none⟩), .int .i64 s.boot, .bool s.down, .int .i64 s.clock, .int .i64 s.epoch, .int .i64 s.lease, .int .i64 s.seq, .int .i64 s.taken] : List Value) ++ (beatCells s.beats ++ ([.map (some mt), .int .i64 s.count, .int .i64 s.hint] : List Value))).set i v)).toArray := List.setIfInBounds_toArray _ _ _
end
set_option maxRecDepth 20000 in
set_option maxHeartbeats 16000000 in
theorem agBoots {Ok : Nat → Prop} {B a b mt : Nat} {s : Ag.AgD} {d : Dk.DiskD} (w : World) (h : AgIs w Ok B a b mt s d) (htab : HTabB B w) (hb0 : 0 ≤ s.boot) (hb1 : s.boot ≤ 1099511627776) (hdn : d.done.length < 67108863) :
    Calls Tryz.prog 23 #[.pointer (some ⟨a, 0, none⟩)] w fun e w' => e = .returned (.int .i64 (Ag.boots s d).2.2) ∧ AgIs w' (OkN w Ok) B a b mt (Ag.boots s d).1 (Ag.boots s d).2.1 ∧ Ext (AgB B w) w w' := by
  have hlt9 := h.tasks.lt
  have k11 : w.cell? ⟨a, 11, none⟩ = some (.bool s.down) := h.blk.cell 11
  have f11 : w.frozen? ⟨a, 11, none⟩ = false := h.blk.frozen 11
  go_enter Tryz.func23, Tryz.ntmps23
  go_upto_region 2 with (first | go_skip | go_guarded)
  have hx1 : Ext (fun q => q = a) w (w.setCell ⟨a, 11, none⟩ (.bool true)) := Ext.set1 _ _ _ _
  have hB1 : Blk (w.setCell ⟨a, 11, none⟩ (.bool true)) a 84 (Ag.AgD.cells { s with down := true } b mt) := by have h9 := h.blk.set_ 11 (.bool true); rw [ag_set] at h9; exact h9
  have hI1 := h.set (s' := { s with down := true }) hx1 hB1 rfl h.beats
  have hK1 := h.agb hx1
  have htab1 := htab.step hK1
  have hz1 := hx1.size
  clear k11 f11 hx1 hB1 htab
  generalize hW1 : (w.setCell ⟨a, 11, none⟩ (.bool true)) = w1 at hI1 hK1 htab1 hz1 ⊢
  clear hW1
  have k10 : w1.cell? ⟨a, 10, none⟩ = some (.int .i64 s.boot) := hI1.blk.cell 10
  have k9 : w1.cell? ⟨a, 9, none⟩ = some (.pointer (some ⟨b, 0, none⟩)) := hI1.blk.cell 9
  by_cases hbig : 1099511627776 ≤ s.boot
  · have HR := Lib.hid (show Ag.boots s d = ({ s with down := true }, d, 2) by unfold Ag.boots; rw [if_pos hbig])
    go_wp2_with (first | go_skip | go_guarded)
    go_ret
    rw [HR.out]
    exact ⟨rfl, hI1.mono (fun _ _ e => .inl e), hK1⟩
  · have HBG := Lib.hid hbig
    go_upto_region 4 with (first | go_skip | go_guarded)
    clear hbig
    have hd : Ext Nothing w1 w1.drew := (Ext.refl _ _).drew
    refine zS (S := fun W' => Ext (DkB (fun q => q = mt) b w1) w1 W') (by kernel_rfl) ?_
    have hS : Ext (DkB (fun q => q = mt) b w1) w1 w1.drew := hd.mono (fun _ _ e => e.elim)
    generalize w1.drew = Wd at hd hS ⊢
    have hna : ¬ DkB (fun q => q = mt) b w1 a := DkB.blk hI1.blk (by decide) (by decide)
    refine zT 0 (.pointer (some ⟨a, 0, none⟩)) rfl (by kernel_rfl) (by rfl) hS (fun _ _ _ h => h) (fun W' hS' => by go_simp) ?_
    refine zT 1 (.pointer (some ⟨a, 0, none⟩)) rfl (by kernel_rfl) (by rfl) hS (fun _ _ _ h => h) (fun W' hS' => by go_simp) ?_
    refine zT 2 (.pointer (some ⟨a, 9, none⟩)) rfl (by kernel_rfl) (by rfl) hS (fun _ _ _ h => h) (fun W' hS' => by go_simp) ?_
    refine zT 3 (.pointer (some ⟨b, 0, none⟩)) rfl (by kernel_rfl) (by rfl) hS (fun _ _ _ h => h) (fun W' hS' => by have q9 := hS'.cell k9 (fun e => hna e); go_simp) ?_
    refine zT 4 (.pointer (some ⟨a, 0, none⟩)) rfl (by kernel_rfl) (by rfl) hS (fun _ _ _ h => h) (fun W' hS' => by go_simp) ?_
    refine zT 5 (.pointer (some ⟨a, 0, none⟩)) rfl (by kernel_rfl) (by rfl) hS (fun _ _ _ h => h) (fun W' hS' => by go_simp) ?_
    refine zT 6 (.pointer (some ⟨a, 10, none⟩)) rfl (by kernel_rfl) (by rfl) hS (fun _ _ _ h => h) (fun W' hS' => by go_simp) ?_
    refine zT 7 (.int .i64 s.boot) rfl (by kernel_rfl) (by rfl) hS (fun _ _ _ h => h) (fun W' hS' => by have q9 := hS'.cell k10 (fun e => hna e); go_simp) ?_
    refine zT 8 (.int .i64 (s.boot + 1)) rfl (by kernel_rfl) (by rfl) hS (fun _ _ _ h => h) (fun W' hS' => by have q8 : IntKind.i64.wrap (s.boot + 1) = s.boot + 1 := (by rw [IntKind.wrap_i64]; omega); go_simp) ?_
    (try simp only [Act.put, zA, zB, zC, zD, zE, zF])
    refine zO 9 (by kernel_rfl) ?_
    refine wpOp_call rfl (by rfl) ?_ ((agAppend (s.boot + 1) Wd (by unfold In64; omega) (htab1.e0 hd).here).mono ?_)
    · go_simp
    rintro e w2 ⟨A2, c2, rfl, hs2, hx2⟩
    have hd2 := hd.tr hx2
    have hS2 : Ext (DkB (fun q => q = mt) b w1) w1 w2 := hd2.mono (fun _ _ e => e.elim)
    refine ⟨_, rfl, hS2, ?_⟩
    (try simp only [Act.put, zA, zB, zC, zD, zE, zF])
    have hil := Lib.itoa_length_le (s.boot + 1) (by omega) (by omega)
    generalize hit : Lib.itoa (s.boot + 1) = it at hs2 hil ⊢
    have HIT := Lib.hid hit
    clear hit
    have hI2 := hI1.keep0 hd2
    refine zO 10 (by kernel_rfl) ?_
    have hcall := dkPut Ag.bootName A2 it.length c2 it w2 hI2.disk hI2.good (by omega) (by decide) hs2 (by omega)
    have hcall : Calls Tryz.prog 34 #[.pointer (some ⟨b, 0, none⟩), .string ⟨#[98, 111, 111, 116]⟩, .slice A2 it.length c2] w2 _ := hcall
    refine wpOp_call rfl (by rfl) ?_ (hcall.mono ?_)
    · go_simp
    rintro e w3 ⟨rfl, h3, hx3⟩
    have hS3 := DkB.trans hS2 hx3
    refine ⟨_, rfl, hS3, ?_⟩
    (try simp only [Act.put, zA, zB, zC, zD, zE, zF])
    have hI3 := hI2.dk hx3 h3 (Dk.good_write hI2.good (by omega) _ _)
    have hdl3 := Dk.write_len d 1 Ag.bootName it
    generalize hr1 : d.write 1 Ag.bootName it = r1 at hI3 hdl3 ⊢
    have HR1 := Lib.hid hr1
    clear hr1 hcall
    obtain ⟨d1, e1⟩ := r1
    dsimp only at hI3 hdl3 ⊢
    refine zO 11 (by kernel_rfl) ?_
    refine wpOp_val (v := .int .i64 e1) rfl (by rfl) (by go_simp) ⟨hS3, wpAnyH_done (by kernel_rfl) ?_ _⟩
    (try simp only [Act.put, zA, zB, zC, zD, zE, zF])
    have hK3 := AgB.trans hK1 (AgB.ofd hI1.ge.2.1 hS3)
    have hz3 := hS3.size
    have hok3 : ∀ q, OkN w2 Ok q → OkN w Ok q := fun q e => by have := hd2.size; rcases e with e | e; exact .inl e; exact .inr (by omega)
    clear hd hd2 hS hS2 hS3 hI1 hI2 h3 hx2 hx3 hs2 k9 k10 hna hil htab1
    cases he1 : (e1 != 0) with
    | true =>
      have HR := Lib.hid (show Ag.boots s d = ({ s with down := true }, d1, e1) by unfold Ag.boots; rw [if_neg (by have := HBG.out; omega), HIT.out, HR1.out, if_pos (by simpa using he1)])
      go_wp2_with (first | go_skip | go_guarded)
      go_ret
      rw [HR.out]
      exact ⟨rfl, hI3.mono (fun q _ e => hok3 q e), hK3⟩
    | false =>
      have HE1 := Lib.hid (show ¬ (e1 ≠ 0) by simpa using he1)
      have k9 : w3.cell? ⟨a, 9, none⟩ = some (.pointer (some ⟨b, 0, none⟩)) := hI3.blk.cell 9
      have hM3 : ∀ q, q = mt → q < w3.heap.size := fun q e => by omega
      go_upto_region 8 with (first | go_skip | go_guarded | (go_at_call 36; (with_reducible refine (dkSync w3 hI3.disk hM3).mono ?_); rintro e w4 ⟨rfl, h4, hx4⟩))
      have hI4 := hI3.dk hx4 h4 (Dk.good_sync hI3.good)
      have hK4 := AgB.trans hK3 (AgB.ofd hI3.ge.2.1 hx4)
      generalize hr2 : d1.sync = r2 at hI4 ⊢
      have HR2 := Lib.hid hr2
      clear hr2
      obtain ⟨d2, e2⟩ := r2
      dsimp only at hI4 ⊢
      clear hI3 h4 hx4 k9 hM3 he1
      cases he2 : (e2 != 0) with
      | true =>
        have HR := Lib.hid (show Ag.boots s d = ({ s with down := true }, d2, e2) by unfold Ag.boots; rw [if_neg (by have := HBG.out; omega), HIT.out, HR1.out, if_neg (by have h9 := HE1.out; simpa using h9), HR2.out, if_pos (by simpa using he2)])
        go_wp2_with (first | go_skip | go_guarded)
        go_ret
        rw [HR.out]
        exact ⟨rfl, hI4.mono (fun q _ e => hok3 q e), hK4⟩
      | false =>
        have HE2 := Lib.hid (show ¬ (e2 ≠ 0) by simpa using he2)
        have HR := Lib.hid (show Ag.boots s d = ({ s with boot := s.boot + 1, down := false }, d2, 0) by unfold Ag.boots; rw [if_neg (by have := HBG.out; omega), HIT.out, HR1.out, if_neg (by have h9 := HE1.out; simpa using h9), HR2.out, if_neg (by have h9 := HE2.out; simpa using h9)])
        have k10 : w4.cell? ⟨a, 10, none⟩ = some (.int .i64 s.boot) := hI4.blk.cell 10
        have f10 : w4.frozen? ⟨a, 10, none⟩ = false := hI4.blk.frozen 10
        have k11 : w4.cell? ⟨a, 11, none⟩ = some (.bool true) := hI4.blk.cell 11
        have f11 : w4.frozen? ⟨a, 11, none⟩ = false := hI4.blk.frozen 11
        go_wp2_with (first | go_skip | go_guarded)
        go_ret
        rw [HR.out]
        have hx5 : Ext (fun q => q = a) w4 (w4.setCell ⟨a, 10, none⟩ (.int .i64 (s.boot + 1))) := Ext.set1 _ _ _ _
        have hB5 : Blk (w4.setCell ⟨a, 10, none⟩ (.int .i64 (s.boot + 1))) a 84 (Ag.AgD.cells { s with boot := s.boot + 1, down := true } b mt) := by have h9 := hI4.blk.set_ 10 (.int .i64 (s.boot + 1)); rw [ag_set] at h9; exact h9
        have hI5 := hI4.set (s' := { s with boot := s.boot + 1, down := true }) hx5 hB5 rfl hI4.beats
        have hx6 : Ext (fun q => q = a) (w4.setCell ⟨a, 10, none⟩ (.int .i64 (s.boot + 1))) ((w4.setCell ⟨a, 10, none⟩ (.int .i64 (s.boot + 1))).setCell ⟨a, 11, none⟩ (.bool false)) := Ext.set1 _ _ _ _
        have hB6 : Blk ((w4.setCell ⟨a, 10, none⟩ (.int .i64 (s.boot + 1))).setCell ⟨a, 11, none⟩ (.bool false)) a 84 (Ag.AgD.cells { s with boot := s.boot + 1, down := false } b mt) := by have h9 := hI5.blk.set_ 11 (.bool false); rw [ag_set] at h9; exact h9
        have hI6 := hI5.set (s' := { s with boot := s.boot + 1, down := false }) hx6 hB6 rfl hI4.beats
        exact ⟨rfl, hI6.mono (fun q _ e => hok3 q e), AgB.trans (AgB.trans hK4 (hI4.agb hx5)) (hI5.agb hx6)⟩
end Go.Proofs.YtockcifkphfnlaaGreatDoor
