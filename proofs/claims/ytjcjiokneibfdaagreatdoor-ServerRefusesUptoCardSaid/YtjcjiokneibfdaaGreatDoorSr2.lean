/- A new server that knows no leader refuses each call and each read. -/
import Derived.Test.YtjcjiokneibfdaaGreatDoorSr1
import Derived.Test.YtjcjiokneibfdaaGreatDoorEj
namespace Go.Proofs.YtjcjiokneibfdaaGreatDoor
set_option linter.unusedVariables false
set_option linter.unusedSimpArgs false
open Go.RowKit

section
variable {vA vB : Value} {HA HB HC HS HD HE HF HG : Hp} {vR vS vD vG : Value} {sid a1 c1 a2 c2 : Nat} {B : Nat} {L : List Nat} {E : En}
theorem srRead (R : Scr vA vB HA HB HC HS HD HE HF HG vR vS vD vG sid a1 c1 a2 c2) (w : World) (h : EvL B L E HE w) (hs : good E (sPtr sid)) (client req : Int) (hB : B ≤ w.heap.size) :
    Calls Tryz.prog 8 #[.pointer (some ⟨E.blk sid, 0, none⟩), .int .i64 client, .int .i64 req] w fun e w' => ∃ (E' : En) (c' : Nat), e = .returned (.agg #[.slice none 0 0, .slice (some ⟨E'.blk a2, 0, none⟩) 1 c', .slice none 0 0]) ∧ E.le E' ∧ EvL B L E' HF w' ∧ Un E' HE.nx client ∧ Un E' (HE.nx + 1) req ∧ (∀ l ∈ L, w'.heap[l]? = w.heap[l]?) ∧ Ext (fun b => B ≤ b) w w' := by
  obtain ⟨hG1, le1, u1, g1⟩ := h.ghost client
  obtain ⟨hG2, le2, u2, g2⟩ := hG1.ghost req
  have U1 := (Un.mk u1 g1).le le2
  have U2 := Un.mk u2 g2
  have hle := En.le_trans le1 le2
  obtain ⟨hp, hgp⟩ := ptr_le hs hle
  generalize ((E.int HE.nx client).int _ req) = E3 at *
  have hr : callE evExt (fnsM evMask) evHook 100 8 [sPtr sid, unk HE.nx, unk (HE.nx + 1)] ⟨HE.nx + 1 + 1, HE.t⟩ = some (.agg ⟨[.slice none 0 0, .slice (some ⟨a2, 0, none⟩) 1 c2, .slice none 0 0]⟩, HF) := R.read
  have hA := EvL.call evGlobals evMixed evAll evExt_ok hr hG2 (by
    intro a ha
    simp only [List.mem_cons, List.not_mem_nil, or_false] at ha
    rcases ha with rfl | rfl | rfl
    · exact hgp
    · exact U1.ok
    · exact U2.ok) hB
  have harg : (⟨[sPtr sid, unk HE.nx, unk (HE.nx + 1)].map (conc E3)⟩ : Array Value) = #[.pointer (some ⟨E.blk sid, 0, none⟩), .int .i64 client, .int .i64 req] := by
    simp only [List.map_cons, List.map_nil, conc_ptr, hp, U1.val, U2.val]
  rw [harg] at hA
  refine hA.mono fun e w' he => ?_
  obtain ⟨E', rfl, g1, g2, g3, g4, g5⟩ := he
  exact ⟨E', cCap E' ⟨a2, 0, none⟩ c2, by simp [conc, concA_mk, cAddr], En.le_trans hle g2, g3, U1.le g2, U2.le g2, g4, g5⟩
theorem srStore (R : Scr vA vB HA HB HC HS HD HE HF HG vR vS vD vG sid a1 c1 a2 c2) (w : World) (h : EvL B L E HF w) (hs : good E (sPtr sid)) (hB : B ≤ w.heap.size) :
    Calls Tryz.prog 9 #[.pointer (some ⟨E.blk sid, 0, none⟩)] w fun e w' => (∃ x1 x2 x3 x4 x5 x6 x7 x8, e = .returned (.agg #[.int .i64 0, x1, x2, x3, x4, x5, x6, x7, x8])) ∧ Ext (fun b => B ≤ b) w w' := by
  have hA := EvL.call evGlobals evMixed evAll evExt_ok R.store h (by intro a ha; obtain rfl := List.mem_singleton.1 ha; exact hs) hB
  have harg : (⟨[sPtr sid].map (conc E)⟩ : Array Value) = #[.pointer (some ⟨E.blk sid, 0, none⟩)] := by simp only [List.map_cons, List.map_nil, conc_ptr]
  rw [harg] at hA
  refine hA.mono fun e w' he => ?_
  obtain ⟨E', rfl, g1, g2, g3, g4, g5⟩ := he
  obtain ⟨a, b, c, d, e, f, g, i, rfl⟩ := R.index
  exact ⟨⟨_, _, _, _, _, _, _, _, by simp only [conc, concA_mk, List.map_cons, List.map_nil]; rfl⟩, g5⟩
theorem srNew (R : Scr vA vB HA HB HC HS HD HE HF HG vR vS vD vG sid a1 c1 a2 c2) (w : World) (h : EvL B L E HB w) (hA : good E vA) (hV : good E vB) (hB : B ≤ w.heap.size) :
    Calls Tryz.prog 4 #[.int .i64 1, conc E vA, conc E vB] w fun e w' => ∃ E', e = .returned (.tuple #[.pointer (some ⟨E'.blk sid, 0, none⟩), .int .i64 0]) ∧ good E' (sPtr sid) ∧ EvL B L E' HC w' ∧ (∀ l ∈ L, w'.heap[l]? = w.heap[l]?) ∧ Ext (fun b => B ≤ b) w w' := by
  have hC := EvL.call evGlobals evMixed evAll evExt_ok R.new h (by
    intro a ha
    simp only [List.mem_cons, List.not_mem_nil, or_false] at ha
    rcases ha with rfl | rfl | rfl
    · simp [good]
    · exact hA
    · exact hV) hB
  have harg : (⟨[.int .i64 1, vA, vB].map (conc E)⟩ : Array Value) = #[.int .i64 1, conc E vA, conc E vB] := by simp [conc]
  rw [harg] at hC
  refine hC.mono fun e w' he => ?_
  obtain ⟨E', rfl, g1, g2, g3, g4, g5⟩ := he
  refine ⟨E', by simp [conc, concA_mk, sPtr, cAddr], ?_, g3, g4, g5⟩
  simp only [good, goodA, goodL] at g1
  exact g1.1
end
theorem six {w : World} {b : Nat} {v0 v1 v2 v3 v4 v5 : Value} (h0 : w.cell? ⟨b, 0, none⟩ = some v0) (h1 : w.cell? ⟨b, 1, none⟩ = some v1) (h2 : w.cell? ⟨b, 2, none⟩ = some v2) (h3 : w.cell? ⟨b, 3, none⟩ = some v3) (h4 : w.cell? ⟨b, 4, none⟩ = some v4) (h5 : w.cell? ⟨b, 5, none⟩ = some v5) :
    ∀ (j : Nat) (u : Value), (#[v0, v1, v2, v3, v4, v5] : Array Value).toList[j]? = some u → w.cell? ⟨b, 0 + j, none⟩ = some u := fun j u hu => by
  rw [Nat.zero_add]
  match j, hu with
  | 0, hu => obtain rfl := Option.some.inj hu; exact h0
  | 1, hu => obtain rfl := Option.some.inj hu; exact h1
  | 2, hu => obtain rfl := Option.some.inj hu; exact h2
  | 3, hu => obtain rfl := Option.some.inj hu; exact h3
  | 4, hu => obtain rfl := Option.some.inj hu; exact h4
  | 5, hu => obtain rfl := Option.some.inj hu; exact h5
  | (n + 6), hu => simp at hu
theorem conc_int (E : En) (k : IntKind) (n : Int) : conc E (.int k n) = .int k n := by simp [conc]
theorem conc_nil (E : En) : conc E (.slice none 0 0) = .slice none 0 0 := by simp [conc]
theorem field_index (z1 z2 z3 z4 z5 z6 z7 z8 : Value) (W : World) : (Instr.field 62 (.agg #[.int .i64 0, z1, z2, z3, z4, z5, z6, z7, z8]) 0).run Tryz.prog W = .ok (.int .i64 0) W := by kernel_rfl
theorem STAnswer : StructT Tryz.prog 55 6 := .of (by kernel_rfl)
set_option maxRecDepth 20000 in
set_option maxHeartbeats 8000000 in
theorem refuses_law {cs : Array Value} {op cl rq client req : Int} (w : World) (hc : CmdOk w.heap.size w cs) (h0 : cs[0]? = some (.int .i64 op)) (h1 : cs[1]? = some (.int .i64 cl)) (h2 : cs[2]? = some (.int .i64 rq)) :
    Calls Tryz.prog 3 #[.agg cs, .int .i64 client, .int .i64 req] w fun e w' => e = .returned (.bool true) ∧ Ext Nothing w w' := by
  obtain ⟨vA, vB, HA, HB, HC, HS, HD, HE, HF, HG, vR, vS, vD, vG, sid, a1, c1, a2, c2, R⟩ := scr_ok
  go_enter Tryz.func3, Tryz.ntmps3
  go_upto_region 1 with (first | go_skip | go_guarded)
  have hx1 : Ext Nothing w (w.alloc (.cells cs 37)) := Ext.auto
  have hb1 := Blk.new w 37 cs
  have hE1 : EvL w.heap.size [w.heap.size] (e0 3) ⟨3, .e⟩ (w.alloc (.cells cs 37)) := ⟨Ev.sim0 evGlobals _ hx1.size, fun l hm => by
    obtain rfl := List.mem_singleton.1 hm
    exact ⟨hb1.lt, fun ⟨id, o, c, e, _⟩ => by cases e⟩⟩
  have hc1 := hc.e0 hx1
  have hxa : Ext (fun b => w.heap.size ≤ b) w (w.alloc (.cells cs 37)) := hx1.mono (fun _ _ e => e.elim)
  have hB1 := hx1.size
  have HCB := Lib.hid (Nat.le_refl w.heap.size)
  generalize hcb : w.heap.size = cb at hb1 hE1 hc1 hxa hB1 HCB ⊢
  have HCB := Lib.hid hcb
  clear hcb
  generalize (w.alloc (.cells cs 37)) = wa at hb1 hE1 hc1 hxa hB1 ⊢
  clear hx1 hc
  have hT := EvL.call evGlobals evMixed evAll evExt_ok R.three hE1 (by intro a ha; cases ha) hB1
  have hT : Calls Tryz.prog 5 #[] wa _ := hT
  go_upto_region 4 with (first | go_skip | go_guarded | (go_at_call 5; (with_reducible refine hT.mono ?_); rintro e w1 ⟨E1, rfl, g1, l1, hE2, hL2, hx2⟩; have hD := EvL.call evGlobals evMixed evAll evExt_ok R.disk hE2 (by intro a ha; cases ha) (Nat.le_trans hB1 hx2.size); have hD : Calls Tryz.prog 6 #[] w1 _ := hD) |
    (go_at_call 6; (with_reducible refine hD.mono ?_); rintro e w2 ⟨E2, rfl, g2, l2, hE3, hL3, hx3⟩; have hN := srNew R w2 hE3 (conc_le l2 vA g1).2 g2 (Nat.le_trans hB1 (Nat.le_trans hx2.size hx3.size)); rw [(conc_le l2 vA g1).1] at hN) |
    (go_at_call 4; (with_reducible refine hN.mono ?_); rintro e w3 ⟨E3, rfl, hs3, hE4, hL4, hx4⟩))
  have hb1 : Blk w3 cb 37 cs := (hL4 cb (by simp)).trans ((hL3 cb (by simp)).trans ((hL2 cb (by simp)).trans hb1))
  have hxb := ((hxa.tr hx2).tr hx3).tr hx4
  have hc3 := ((hc1.ext hx2 (fun _ e => e)).ext hx3 (fun _ e => e)).ext hx4 (fun _ e => e)
  have hB3 : cb ≤ w3.heap.size := by have := hx2.size; have := hx3.size; have := hx4.size; omega
  clear hT hD hN hE1 hE2 hE3 hL2 hL3 hL4 hx2 hx3 hx4 hxa hc1 hB1 g1 g2 l1 l2
  have hC := srCall R w3 hE4 hs3 hc3 h0 h1 h2 hB3
  go_upto_region 5 with (first | go_skip | go_guarded | ((with_reducible refine cLd 37 rfl ?_); refine wpList_load_blk rfl 37 _ rfl STcfCmd cb rfl cs hb1 hc3.size ?_) | (go_at_call 7; (with_reducible refine hC.mono ?_); rintro e w4 ⟨E4, k4, code, rfl, l4, hE5, ⟨U1, U2, U3, ga1⟩, hcode, hL4, hx4⟩))
  clear hC
  have hb1 : Blk w4 cb 37 cs := (hL4 cb (by simp)).trans hb1
  have hx5 : Ext Nothing w4 (w4.alloc (.cells #[.slice none 0 0, .slice (some ⟨E4.blk a1, 0, none⟩) 1 k4, .slice none 0 0] 49)) := Ext.auto
  have hb2 := Blk.new w4 49 #[.slice none 0 0, .slice (some ⟨E4.blk a1, 0, none⟩) 1 k4, .slice none 0 0]
  have hE6 := hE5.add hx5 (Nat.le_refl _) hb2.lt
  have hb1 := hb1.e0 hx5
  have hxc := (hxb.tr hx4).t0 hx5
  have hB5 : cb ≤ (w4.alloc (.cells #[.slice none 0 0, .slice (some ⟨E4.blk a1, 0, none⟩) 1 k4, .slice none 0 0] 49)).heap.size := by have := hx4.size; have := hx5.size; omega
  generalize w4.heap.size = ab at hb2 hE6 ⊢
  generalize (w4.alloc (.cells #[.slice none 0 0, .slice (some ⟨E4.blk a1, 0, none⟩) 1 k4, .slice none 0 0] 49)) = w5 at hb1 hb2 hE6 hxc hB5 hx5 ⊢
  have hp4 := ptr_le hs3 l4
  have hR := srRead R w5 hE6 hp4.2 client req hB5
  rw [hp4.1] at hR
  clear hE5 hx4 hx5 hc3 hE4 hL4 hxb hB3
  go_upto_region 6 with (first | go_skip | go_guarded | (go_at_call 8; (with_reducible refine hR.mono ?_); rintro e w6 ⟨E5, k5, rfl, l5, hE7, V1, V2, hL6, hx6⟩))
  clear hR
  have hb1 : Blk w6 cb 37 cs := (hL6 cb (by simp)).trans hb1
  have hb2 : Blk w6 ab 49 _ := (hL6 ab (by simp)).trans hb2
  have hx7 : Ext Nothing w6 (w6.alloc (.cells #[.slice none 0 0, .slice (some ⟨E5.blk a2, 0, none⟩) 1 k5, .slice none 0 0] 49)) := Ext.auto
  have hb3 := Blk.new w6 49 #[.slice none 0 0, .slice (some ⟨E5.blk a2, 0, none⟩) 1 k5, .slice none 0 0]
  have hE8 := hE7.add hx7 (Nat.le_refl _) hb3.lt
  have hb1 := hb1.e0 hx7
  have hb2 := hb2.e0 hx7
  have hxd := (hxc.tr hx6).t0 hx7
  have hB7 : cb ≤ (w6.alloc (.cells #[.slice none 0 0, .slice (some ⟨E5.blk a2, 0, none⟩) 1 k5, .slice none 0 0] 49)).heap.size := by have := hx6.size; have := hx7.size; omega
  generalize w6.heap.size = bb at hb3 hE8 ⊢
  generalize (w6.alloc (.cells #[.slice none 0 0, .slice (some ⟨E5.blk a2, 0, none⟩) 1 k5, .slice none 0 0] 49)) = w7 at hb1 hb2 hb3 hE8 hxd hB7 ⊢
  have hp5 := ptr_le hp4.2 l5
  have hX : ∀ (j : Nat) (u : Value), (#[.int .i64 cl, .int .i64 rq, .int .i64 0, .int .i64 code, .int .i64 0, .slice none 0 0] : Array Value).toList[j]? = some u → w7.cell? ⟨E4.blk a1, 0 + j, none⟩ = some u := by
    rw [← (ptr_le ga1 l5).1]
    exact six (((hE8.ev.cell R.p0).1).trans (by rw [(U1.le l5).val])) (((hE8.ev.cell R.p1).1).trans (by rw [(U2.le l5).val])) (((hE8.ev.cell R.p2).1).trans (by rw [conc_int])) (((hE8.ev.cell R.p3).1).trans (by rw [(U3.le l5).val])) (((hE8.ev.cell R.p4).1).trans (by rw [conc_int])) (((hE8.ev.cell R.p5).1).trans (by rw [conc_nil]))
  have hY : ∀ (j : Nat) (u : Value), (#[.int .i64 client, .int .i64 req, .int .i64 0, .int .i64 20, .int .i64 0, .slice none 0 0] : Array Value).toList[j]? = some u → w7.cell? ⟨E5.blk a2, 0 + j, none⟩ = some u :=
    six (((hE8.ev.cell R.q0).1).trans (by rw [V1.val])) (((hE8.ev.cell R.q1).1).trans (by rw [V2.val])) (((hE8.ev.cell R.q2).1).trans (by rw [conc_int])) (((hE8.ev.cell R.q3).1).trans (by rw [conc_int])) (((hE8.ev.cell R.q4).1).trans (by rw [conc_int])) (((hE8.ev.cell R.q5).1).trans (by rw [conc_nil]))
  clear hE7 hE6 hx6 hx7 hxc hL6 hB5 U1 U2 U3 V1 V2 ga1
  have q0 : w7.cell? ⟨cb, 0, none⟩ = some (.int .i64 op) := by rw [hb1.cell]; exact h0
  go_cut [11] from 33 to 51 (fun e wx => e = .bool (isAsked op) ∧ wx = w7)
  case first =>
    by_cases h3 : op = 3
    · subst h3
      go_wp2_with (first | go_skip | go_guarded)
      go_meet
      exact ⟨rfl, rfl⟩
    have e3 : (op == 3) = false := by simp [h3]
    by_cases h4 : op = 4
    · subst h4
      go_wp2_with (first | go_skip | go_guarded)
      go_meet
      exact ⟨rfl, rfl⟩
    have e4 : (op == 4) = false := by simp [h4]
    by_cases h8 : op = 8
    · subst h8
      go_wp2_with (first | go_skip | go_guarded)
      go_meet
      exact ⟨rfl, rfl⟩
    have e8 : (op == 8) = false := by simp [h8]
    by_cases h9 : op = 2
    · subst h9
      go_wp2_with (first | go_skip | go_guarded)
      go_meet
      exact ⟨rfl, rfl⟩
    have e2 : (op == 2) = false := by simp [h9]
    have HE := Lib.hid (show isAsked op = false by simp [isAsked, e3, e4, e8, e2])
    go_wp2_with (first | go_skip | go_guarded)
    go_meet
    exact ⟨by rw [HE.out], rfl⟩
  case rest =>
    obtain ⟨rfl, rfl⟩ := hcut
    obtain ⟨w7, rfl⟩ : ∃ z : World, z = wc := ⟨_, rfl⟩
    have a0 : w7.cell? ⟨ab, 0, none⟩ = some (.slice none 0 0) := by rw [hb2.cell]; rfl
    have a1' : w7.cell? ⟨ab, 1, none⟩ = some (.slice (some ⟨E4.blk a1, 0, none⟩) 1 k4) := by rw [hb2.cell]; rfl
    have a2' : w7.cell? ⟨ab, 2, none⟩ = some (.slice none 0 0) := by rw [hb2.cell]; rfl
    have b0 : w7.cell? ⟨bb, 0, none⟩ = some (.slice none 0 0) := by rw [hb3.cell]; rfl
    have b1' : w7.cell? ⟨bb, 1, none⟩ = some (.slice (some ⟨E5.blk a2, 0, none⟩) 1 k5) := by rw [hb3.cell]; rfl
    have hpS : E5.blk sid = E3.blk sid := hp5.1.trans hp4.1
    have HPS := Lib.hid hpS
    clear hpS q0
    generalize E4.blk a1 = xa at hX a1' ⊢
    generalize E5.blk a2 = ya at hY b1' ⊢
    go_upto_region 10 with (first | go_skip | go_guarded | ((with_reducible refine cLd 55 rfl ?_); refine wpList_load_at rfl 55 _ rfl STAnswer xa 0 rfl #[.int .i64 cl, .int .i64 rq, .int .i64 0, .int .i64 code, .int .i64 0, .slice none 0 0] hX rfl ?_))
    have hx8 : Ext Nothing w7 (w7.alloc (.cells #[.int .i64 cl, .int .i64 rq, .int .i64 0, .int .i64 code, .int .i64 0, .slice none 0 0] 55)) := Ext.auto
    have hbx := Blk.new w7 55 #[.int .i64 cl, .int .i64 rq, .int .i64 0, .int .i64 code, .int .i64 0, .slice none 0 0]
    have hY8 : ∀ (j : Nat) (u : Value), (#[.int .i64 client, .int .i64 req, .int .i64 0, .int .i64 20, .int .i64 0, .slice none 0 0] : Array Value).toList[j]? = some u → (w7.alloc (.cells #[.int .i64 cl, .int .i64 rq, .int .i64 0, .int .i64 code, .int .i64 0, .slice none 0 0] 55)).cell? ⟨ya, 0 + j, none⟩ = some u := fun j u hu => hx8.c0 (hY j u hu)
    have hb1 := hb1.e0 hx8
    have b1'' := hx8.c0 b1'
    have hE9 := hE8.ext0 hx8
    have hxe := hxd.t0 hx8
    have hB8 := Nat.le_trans hB7 hx8.size
    clear hX hY a0 a1' a2' b0 b1' hE8 hxd hB7 hb2 hb3
    generalize w7.heap.size = xb at hbx ⊢
    generalize (w7.alloc (.cells #[.int .i64 cl, .int .i64 rq, .int .i64 0, .int .i64 code, .int .i64 0, .slice none 0 0] 55)) = w8 at hbx hY8 hb1 b1'' hE9 hxe hB8 ⊢
    clear hx8
    go_upto_region 11 with (first | go_skip | go_guarded | ((with_reducible refine cLd 55 rfl ?_); refine wpList_load_at rfl 55 _ rfl STAnswer ya 0 rfl #[.int .i64 client, .int .i64 req, .int .i64 0, .int .i64 20, .int .i64 0, .slice none 0 0] hY8 rfl ?_))
    have hx9 : Ext Nothing w8 (w8.alloc (.cells #[.int .i64 client, .int .i64 req, .int .i64 0, .int .i64 20, .int .i64 0, .slice none 0 0] 55)) := Ext.auto
    have hby := Blk.new w8 55 #[.int .i64 client, .int .i64 req, .int .i64 0, .int .i64 20, .int .i64 0, .slice none 0 0]
    have hb1 := hb1.e0 hx9
    have hbx := hbx.e0 hx9
    have hE10 := hE9.ext0 hx9
    have hxf := hxe.t0 hx9
    have hB9 := Nat.le_trans hB8 hx9.size
    clear hY8 b1'' hE9 hxe hB8
    generalize w8.heap.size = yb at hby ⊢
    generalize (w8.alloc (.cells #[.int .i64 client, .int .i64 req, .int .i64 0, .int .i64 20, .int .i64 0, .slice none 0 0] 55)) = w9 at hby hbx hb1 hE10 hxf hB9 ⊢
    clear hx9
    have hSt := srStore R w9 hE10 hp5.2 hB9
    rw [HPS.out] at hSt
    have c1' : w9.cell? ⟨cb, 1, none⟩ = some (.int .i64 cl) := by rw [hb1.cell]; exact h1
    have c2' : w9.cell? ⟨cb, 2, none⟩ = some (.int .i64 rq) := by rw [hb1.cell]; exact h2
    have x0 : w9.cell? ⟨xb, 0, none⟩ = some (.int .i64 cl) := by rw [hbx.cell]; rfl
    have x1 : w9.cell? ⟨xb, 1, none⟩ = some (.int .i64 rq) := by rw [hbx.cell]; rfl
    have x2 : w9.cell? ⟨xb, 2, none⟩ = some (.int .i64 0) := by rw [hbx.cell]; rfl
    have x3 : w9.cell? ⟨xb, 3, none⟩ = some (.int .i64 code) := by rw [hbx.cell]; rfl
    have y0 : w9.cell? ⟨yb, 0, none⟩ = some (.int .i64 client) := by rw [hby.cell]; rfl
    have y1 : w9.cell? ⟨yb, 1, none⟩ = some (.int .i64 req) := by rw [hby.cell]; rfl
    have y3 : w9.cell? ⟨yb, 3, none⟩ = some (.int .i64 20) := by rw [hby.cell]; rfl
    clear hby hbx hb1 hE10 hB9
    generalize E3.blk sid = sb at hSt ⊢
    rcases hcode with ⟨hq, rfl | rfl⟩ | ⟨hq, rfl⟩
    all_goals (
      rw [hq]
      have HQ := Lib.hid hq
      clear hq
      go_wp2_with (first | go_skip | go_guarded | (go_at_call 9; (with_reducible refine hSt.mono ?_); rintro e wx ⟨⟨z1, z2, z3, z4, z5, z6, z7, z8, rfl⟩, hxx⟩; have hfd := field_index z1 z2 z3 z4 z5 z6 z7 z8) | (go_at_call 10; (with_reducible refine (lives19 _).mono ?_); rintro e wy ⟨rfl, g1, g2, g3, g4, g5⟩))
      go_ret
      refine ⟨rfl, ?_⟩
      have hxy : Ext (fun b => cb ≤ b) w wy := (hxf.tr hxx).tr ⟨g1, g2, g3, g4, fun k hk _ => g5 k hk⟩
      exact hxy.trans (Ext.refl Nothing _) (fun b hb e => e.elim) |>.mono (fun b hb e => by have := HCB.out; omega))
end Go.Proofs.YtjcjiokneibfdaaGreatDoor
