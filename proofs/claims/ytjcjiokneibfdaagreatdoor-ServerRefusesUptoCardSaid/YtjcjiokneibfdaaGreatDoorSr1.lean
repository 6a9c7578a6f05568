/- A server that knows no leader answers a call with an error: the call's walk. -/
import Derived.Test.YtjcjiokneibfdaaGreatDoorUb
import Derived.Test.YtjcjiokneibfdaaGreatDoorCf7
import Derived.Test.YtjcjiokneibfdaaGreatDoorOpL
namespace Go.Proofs.YtjcjiokneibfdaaGreatDoor
set_option linter.unusedVariables false
set_option linter.unusedSimpArgs false
open Go.RowKit

section
variable {P : Program} {w : World} {ops : Array Oper} {rest : List Oper} {o : Oper} {a : Act} {Q : Exit → Act → World → Prop}
theorem sBd (ty : TypeId) {ps : Array (Nat × Operand)} (h0 : o.op = .build ty ps) (h : wpList P ops Q (o :: rest) a w) : wpList P ops Q (o :: rest) a w := h
theorem sAl (ty : TypeId) (h0 : o.op = .alloc ty) (h : wpList P ops Q (o :: rest) a w) : wpList P ops Q (o :: rest) a w := h
theorem sSt (ty : TypeId) {p x : Operand} (h0 : o.op = .store ty p x) (h : wpList P ops Q (o :: rest) a w) : wpList P ops Q (o :: rest) a w := h
theorem wpList_buildS (hgd : o.guard = none) (t : TypeId) (ps : Array (Nat × Operand)) (ho : o.op = .build t ps) (cs : Array Value) (hb : P.built t (ps.map fun p => (p.1, a.eval p.2)).toList = some cs) (h : wpList P ops Q rest (a.put o.dst (.agg cs)) w) : wpList P ops Q (o :: rest) a w := by
  refine wpList_plain hgd fun K hK => ?_
  unfold Oper.wp
  simp only [execOp, ho]
  simp only [Sem.run_bind]
  rw [show (Instr.build t (ps.map fun (i, x) => (i, a.eval x))).run P w = .ok (.agg cs) w from run_build w t _ cs hb]
  exact hK _ _ h
end
def whoA (c r : Int) : Array Value := ⟨whoL (.int .i64 c) (.int .i64 r)⟩
def isAsked (op : Int) : Bool := op == 3 || op == 4 || op == 8 || op == 2
theorem srAsked (op : Int) (w : World) : Calls Tryz.prog 20 #[.int .i64 op] w fun e w' => e = .returned (.bool (isAsked op)) ∧ w' = w := by
  go_enter Tryz.func20, Tryz.ntmps20
  by_cases h3 : op = 3
  · subst h3
    go_wp2_with (first | go_skip | go_guarded)
    go_ret
    exact ⟨rfl, rfl⟩
  have e3 : (op == 3) = false := by simp [h3]
  by_cases h4 : op = 4
  · subst h4
    go_wp2_with (first | go_skip | go_guarded)
    go_ret
    exact ⟨rfl, rfl⟩
  have e4 : (op == 4) = false := by simp [h4]
  by_cases h8 : op = 8
  · subst h8
    go_wp2_with (first | go_skip | go_guarded)
    go_ret
    exact ⟨rfl, rfl⟩
  have e8 : (op == 8) = false := by simp [h8]
  by_cases h2 : op = 2
  · subst h2
    go_wp2_with (first | go_skip | go_guarded)
    go_ret
    exact ⟨rfl, rfl⟩
  have e2 : (op == 2) = false := by simp [h2]
  have HE := Lib.hid (show isAsked op = false by simp [isAsked, e3, e4, e8, e2])
  go_wp2_with (first | go_skip | go_guarded)
  go_ret
  exact ⟨(by rw [HE.out]; rfl), rfl⟩
theorem STOut : StructT Tryz.prog 49 3 := .of (by kernel_rfl)
theorem ZTWho : ZeroT Tryz.prog 99 31 := .of (by kernel_rfl)
theorem ZTStatus : ZeroT Tryz.prog 103 9 := .of (by kernel_rfl)
theorem STStatus : StructT Tryz.prog 103 9 := .of (by kernel_rfl)
theorem STWho : StructT Tryz.prog 99 31 := .of (by kernel_rfl)
theorem conc_st (E : En) (l : List Value) : conc E (.agg ⟨.int .i64 0 :: .int .i64 0 :: l⟩) = .agg ⟨.int .i64 0 :: .int .i64 0 :: l.map (conc E)⟩ := by simp [conc, concA_mk]
theorem conc_false (E : En) : conc E (.bool false) = .bool false := by simp [conc]
/-- names that stand for ints -/
structure Un (E : En) (k : Nat) (i : Int) : Prop where
  val : conc E (unk k) = .int .i64 i
  ok : good E (unk k)
theorem Un.le {E E' : En} {k : Nat} {i : Int} (h : Un E k i) (hE : E.le E') : Un E' k i := ⟨by rw [(conc_le hE _ h.ok).1]; exact h.val, (conc_le hE _ h.ok).2⟩
/-- what a call leaves -/
structure SrC (B : Nat) (L : List Nat) (E : En) (HE : Hp) (a1 k1 k2 k3 : Nat) (op client req : Int) (w : World) (e : Ending) (w' : World) : Prop where
  out : ∃ E' c' code, e = .returned (.agg #[.slice none 0 0, .slice (some ⟨E'.blk a1, 0, none⟩) 1 c', .slice none 0 0]) ∧ E.le E' ∧ EvL B L E' HE w' ∧ (Un E' k1 client ∧ Un E' k2 req ∧ Un E' k3 code ∧ good E' (sPtr a1)) ∧
    ((isAsked op = true ∧ (code = 1 ∨ code = 20)) ∨ (isAsked op = false ∧ code = 50)) ∧ (∀ l ∈ L, w'.heap[l]? = w.heap[l]?) ∧ Ext (fun b => B ≤ b) w w'
theorem conc_ptr (E : En) (id : Nat) : conc E (sPtr id) = .pointer (some ⟨E.blk id, 0, none⟩) := by simp [sPtr, conc, cAddr]
theorem ptr_le {E E' : En} {id : Nat} (h : good E (sPtr id)) (hE : E.le E') : E'.blk id = E.blk id ∧ good E' (sPtr id) := by
  have h' : (E id).isSome = true := by simpa [sPtr, good] using h
  exact ⟨En.blk_le hE h', (conc_le hE _ h).2⟩
theorem conc_who {E : En} {k1 k2 : Nat} {i1 i2 : Int} (h1 : Un E k1 i1) (h2 : Un E k2 i2) : conc E (.agg ⟨whoL (unk k1) (unk k2)⟩) = .agg (whoA i1 i2) := by
  simp only [whoA, whoL, zCmd, conc, concA_mk, List.map_cons, List.map_nil, h1.val, h2.val]
theorem good_who {E : En} {k1 k2 : Nat} (h1 : good E (unk k1)) (h2 : good E (unk k2)) : good E (.agg ⟨whoL (unk k1) (unk k2)⟩) := by
  simp only [whoL, zCmd, good, goodA, goodL, and_true, true_and]
  refine ⟨h1, h2, ?_⟩
  simp only [HALF]
  decide
theorem srAnswer {vA vB : Value} {HA HB HC HS HD HE HF HG : Hp} {vR vS vD vG : Value} {sid a1 c1 a2 c2 : Nat} (R : Scr vA vB HA HB HC HS HD HE HF HG vR vS vD vG sid a1 c1 a2 c2) {B : Nat} {L : List Nat} {E : En} (w : World) (h : EvL B L E HS w) (hs : good E (sPtr sid)) (client req code : Int) (hB : B ≤ w.heap.size) :
    Calls Tryz.prog 21 #[.pointer (some ⟨E.blk sid, 0, none⟩), .agg (whoA client req), .int .i64 0, .agg #[.int .i64 code, .int .i64 0, .slice none 0 0]] w fun e w' => ∃ (E' : En) (r : Value), e = .returned r ∧ E.le E' ∧ EvL B L E' HD w' ∧ Un E' HS.nx client ∧ Un E' (HS.nx + 1) req ∧ Un E' (HS.nx + 2) code ∧ (∀ l ∈ L, w'.heap[l]? = w.heap[l]?) ∧ Ext (fun b => B ≤ b) w w' := by
  obtain ⟨hG1, le1, u1, g1⟩ := h.ghost client
  obtain ⟨hG2, le2, u2, g2⟩ := hG1.ghost req
  obtain ⟨hG3, le3, u3, g3⟩ := hG2.ghost code
  have U1 := (Un.mk u1 g1).le (En.le_trans le2 le3)
  have U2 := (Un.mk u2 g2).le le3
  have U3 := Un.mk u3 g3
  have hle := En.le_trans le1 (En.le_trans le2 le3)
  obtain ⟨hp, hgp⟩ := ptr_le hs hle
  generalize (((E.int HS.nx client).int _ req).int _ code) = E3 at *
  have hr : callE evExt (fnsM evMask) evHook 100 21 [sPtr sid, .agg ⟨whoL (unk HS.nx) (unk (HS.nx + 1))⟩, .int .i64 0, .agg ⟨resL (unk (HS.nx + 2))⟩] ⟨HS.nx + 1 + 1 + 1, HS.t⟩ = some (vD, HD) := R.answer
  have hA := EvL.call evGlobals evMixed evAll evExt_ok hr hG3 (by
    intro a ha
    simp only [List.mem_cons, List.not_mem_nil, or_false] at ha
    rcases ha with rfl | rfl | rfl | rfl
    · exact hgp
    · exact good_who U1.ok U2.ok
    · simp [good]
    · simp only [resL, good, goodA, goodL, and_true]
      exact ⟨U3.ok, by simp only [HALF]; decide⟩) hB
  have harg : (⟨[sPtr sid, .agg ⟨whoL (unk HS.nx) (unk (HS.nx + 1))⟩, .int .i64 0, .agg ⟨resL (unk (HS.nx + 2))⟩].map (conc E3)⟩ : Array Value) = #[.pointer (some ⟨E.blk sid, 0, none⟩), .agg (whoA client req), .int .i64 0, .agg #[.int .i64 code, .int .i64 0, .slice none 0 0]] := by
    simp only [List.map_cons, List.map_nil, conc_ptr, hp, conc_who U1 U2]
    simp [resL, conc, concA_mk, U3.val]
  rw [harg] at hA
  refine hA.mono fun e w' he => ?_
  obtain ⟨E', rfl, g1, g2, g3, g4, g5⟩ := he
  exact ⟨E', _, rfl, En.le_trans hle g2, g3, U1.le g2, U2.le g2, U3.le g2, g4, g5⟩
theorem srEnd {vA vB : Value} {HA HB HC HS HD HE HF HG : Hp} {vR vS vD vG : Value} {sid a1 c1 a2 c2 : Nat} (R : Scr vA vB HA HB HC HS HD HE HF HG vR vS vD vG sid a1 c1 a2 c2) {B : Nat} {L : List Nat} {E : En} (w : World) (h : EvL B L E HD w) (hs : good E (sPtr sid)) (hB : B ≤ w.heap.size) :
    Calls Tryz.prog 24 #[.pointer (some ⟨E.blk sid, 0, none⟩)] w fun e w' => ∃ (E' : En) (c' : Nat), e = .returned (.agg #[.slice none 0 0, .slice (some ⟨E'.blk a1, 0, none⟩) 1 c', .slice none 0 0]) ∧ E.le E' ∧ EvL B L E' HE w' ∧ good E' (sPtr a1) ∧ (∀ l ∈ L, w'.heap[l]? = w.heap[l]?) ∧ Ext (fun b => B ≤ b) w w' := by
  have hA := EvL.call evGlobals evMixed evAll evExt_ok R.done h (by intro a ha; obtain rfl := List.mem_singleton.1 ha; exact hs) hB
  have harg : (⟨[sPtr sid].map (conc E)⟩ : Array Value) = #[.pointer (some ⟨E.blk sid, 0, none⟩)] := by simp only [List.map_cons, List.map_nil, conc_ptr]
  rw [harg] at hA
  refine hA.mono fun e w' he => ?_
  obtain ⟨E', rfl, g1, g2, g3, g4, g5⟩ := he
  refine ⟨E', cCap E' ⟨a1, 0, none⟩ c1, by simp [conc, concA_mk, cAddr], g2, g3, ?_, g4, g5⟩
  simp only [good, goodA, goodL] at g1
  simp only [sPtr, good]
  exact g1.2.1.1
set_option maxRecDepth 20000 in
set_option maxHeartbeats 8000000 in
theorem srCall {vA vB : Value} {HA HB HC HS HD HE HF HG : Hp} {vR vS vD vG : Value} {sid a1 c1 a2 c2 : Nat} (R : Scr vA vB HA HB HC HS HD HE HF HG vR vS vD vG sid a1 c1 a2 c2) {B : Nat} {L : List Nat} {E : En} {cs : Array Value} {op client req : Int} (w : World)
    (h : EvL B L E HC w) (hs : good E (sPtr sid)) (hc : CmdOk B w cs) (h0 : cs[0]? = some (.int .i64 op)) (h1 : cs[1]? = some (.int .i64 client)) (h2 : cs[2]? = some (.int .i64 req)) (hB : B ≤ w.heap.size) :
    Calls Tryz.prog 7 #[.pointer (some ⟨E.blk sid, 0, none⟩), .agg cs] w (SrC B L E HE a1 HS.nx (HS.nx + 1) (HS.nx + 2) op client req w) := by
  go_enter Tryz.func7, Tryz.ntmps7
  go_upto_region 1 with (first | go_skip | go_guarded)
  have hx1 : Ext Nothing w (w.alloc (.cells cs 37)) := Ext.auto
  have hb1 := Blk.new w 37 cs
  have hE1 := h.add hx1 (Nat.le_refl _) hb1.lt
  have hx2 : Ext Nothing (w.alloc (.cells cs 37)) ((w.alloc (.cells cs 37)).alloc (.cells #[.slice none 0 0, .slice none 0 0, .slice none 0 0] 49)) := Ext.auto
  have hb2 := Blk.new (w.alloc (.cells cs 37)) 49 #[.slice none 0 0, .slice none 0 0, .slice none 0 0]
  have hE2 := hE1.add hx2 (Nat.le_refl _) hb2.lt
  have hc2 := hc.e0 (hx1.tr hx2)
  have hxa := hx1.tr hx2
  have hb1 := hb1.e0 hx2
  have hz1 : (w.alloc (.cells cs 37)).heap.size = w.heap.size + 1 := by simp
  rw [hz1] at hb2 hE2
  have hle := Nat.le_refl w.heap.size
  generalize hcb : w.heap.size = cb at hb1 hb2 hE2 ⊢
  generalize ((w.alloc (.cells cs 37)).alloc (.cells #[.slice none 0 0, .slice none 0 0, .slice none 0 0] 49)) = wa at hb1 hb2 hE2 hc2 hxa ⊢
  have hlt : ∀ l ∈ L, l < w.heap.size := fun l hm => (h.av l hm).1
  clear hx1 hx2 hE1 hz1 h hc
  generalize hob : cb + 1 = ob at hb2 hE2 ⊢
  have HOB := Lib.hid (show w.heap.size ≤ ob by omega)
  have HLT := Lib.hid hlt
  clear hlt hle
  have hBa : B ≤ wa.heap.size := by have := hxa.size; omega
  have cd := (hE2.ev.cell R.down).1
  rw [conc_false] at cd
  have q1 : wa.cell? ⟨cb, 1, none⟩ = some (.int .i64 client) := by rw [hb1.cell]; exact h1
  have q2 : wa.cell? ⟨cb, 2, none⟩ = some (.int .i64 req) := by rw [hb1.cell]; exact h2
  clear hcb hob
  go_upto_region 4 with (first | go_skip | go_guarded | ((with_reducible refine sBd 99 rfl ?_); refine wpList_buildS rfl _ _ rfl (whoA client req) (by kernel_rfl) ?_) | ((with_reducible refine sAl 99 rfl ?_); refine wpList_alloc_any rfl 99 rfl ZTWho ?_; intro z hz) | ((with_reducible refine sSt 99 rfl ?_); refine wpList_store_new (w0 := wa) rfl 99 _ _ rfl STWho z hz rfl rfl (whoA client req) rfl rfl rfl ?_))
  have hx3 : Ext Nothing wa (wa.alloc (.cells (whoA client req) 99)) := Ext.auto
  have hb3 := Blk.new wa 99 (whoA client req)
  have hE3 := hE2.add hx3 (Nat.le_refl _) hb3.lt
  have hc3 := hc2.e0 hx3
  have hb1 := hb1.e0 hx3
  have hb2 := hb2.e0 hx3
  have hxb := hxa.tr hx3
  generalize wa.heap.size = wk at hb3 hE3 ⊢
  generalize (wa.alloc (.cells (whoA client req) 99)) = wb at hb1 hb2 hb3 hE3 hc3 hx3 hxb ⊢
  have hBb : B ≤ wb.heap.size := by have := hx3.size; omega
  have hcall := cfPutCmd wb hc3 hBb
  clear hE2 hc2 cd q1 q2 hxa hx3
  go_upto_region 5 with (first | go_skip | go_guarded | ((with_reducible refine cLd 37 rfl ?_); refine wpList_load_blk rfl 37 _ rfl STcfCmd cb rfl cs hb1 hc3.size ?_) | (go_at_call 18; (with_reducible refine hcall.mono ?_); rintro e wc ⟨v, ec, rfl, hec, hx4⟩))
  clear hcall
  have hE4 := hE3.ext0 hx4
  have hc4 := hc3.e0 hx4
  have hb1 := hb1.e0 hx4
  have hb2 := hb2.e0 hx4
  have hb3 := hb3.e0 hx4
  have hxc := hxb.tr hx4
  have hBc : B ≤ wc.heap.size := by have := hx4.size; omega
  clear hE3 hc3 hx4 hxb
  have cr := (hE4.ev.cell R.raft).1
  have hS := EvL.call evGlobals evMixed evAll evExt_ok R.status hE4 (by intro a ha; obtain rfl := List.mem_singleton.1 ha; exact (hE4.ev.cell R.raft).2) hBc
  obtain ⟨l, hvS, hl7, hl1⟩ := R.st
  rw [hvS] at hS
  have hS : Calls Tryz.prog 19 #[conc E vR] wc (fun e w' => ∃ (E' : En) (sa : Array Value), e = .returned (.agg sa) ∧ sa.size = 9 ∧ sa.toList.all Value.oneCell' = true ∧ sa[0]? = some (.int .i64 0) ∧ sa[1]? = some (.int .i64 0) ∧ E.le E' ∧ EvL B (wk :: ob :: cb :: L) E' HS w' ∧ (∀ l ∈ wk :: ob :: cb :: L, w'.heap[l]? = wc.heap[l]?) ∧ Ext (fun b => B ≤ b) wc w') := by
    have hS9 : Calls Tryz.prog 19 #[conc E vR] wc _ := hS
    refine hS9.mono fun e w' he => ?_
    obtain ⟨E', rfl, g1, g2, g3, g4, g5⟩ := he
    rw [conc_st]
    refine ⟨E', _, rfl, by simp [hl7], ?_, rfl, rfl, g2, g3, g4, g5⟩
    simp only [List.all_cons, Value.oneCell', Bool.true_and, List.all_map]
    refine List.all_eq_true.2 fun x hx => ?_
    rw [Function.comp_apply, one1_cell, conc_one1]
    exact hl1 x hx
  generalize conc E vR = rV at cr hS ⊢
  clear hl1 hl7 hvS
  go_upto_region 10 with (first | go_skip | go_guarded | ((with_reducible refine sAl 103 rfl ?_); refine wpList_alloc_any rfl 103 rfl ZTStatus ?_; intro z5 hz5) | ((with_reducible refine sSt 103 rfl ?_); refine wpList_store_new (w0 := wd) rfl 103 _ _ rfl STStatus z5 hz5 rfl rfl sa rfl hs5 hone5 ?_) | (go_at_call 19; (with_reducible refine hS.mono ?_); rintro e wd ⟨E5, sa, rfl, hs5, hone5, sa0, sa1, hle5, hE5, hL5, hx5⟩))
  clear hS cr
  have hb1 : Blk wd cb 37 cs := (hL5 cb (by simp)).trans hb1
  have hb2 : Blk wd ob 49 _ := (hL5 ob (by simp)).trans hb2
  have hb3 : Blk wd wk 99 _ := (hL5 wk (by simp)).trans hb3
  have hx6 : Ext Nothing wd (wd.alloc (.cells sa 103)) := Ext.auto
  have hb4 := Blk.new wd 103 sa
  have hE6 := hE5.add hx6 (Nat.le_refl _) hb4.lt
  have hb1 := hb1.e0 hx6
  have hb2 := hb2.e0 hx6
  have hb3 := hb3.e0 hx6
  have hxd : Ext (fun b => B ≤ b) w (wd.alloc (.cells sa 103)) := ((hxc.mono (fun _ _ e => e.elim) : Ext (fun b => B ≤ b) w wc).tr hx5).t0 hx6
  have hLd : ∀ l ∈ L, l < w.heap.size → wd.heap[l]? = w.heap[l]? := fun l hm hlt => (hL5 l (by simp [hm])).trans (hxc.block l hlt (fun e => e))
  have hp5 := ptr_le hs hle5
  have HLE := Lib.hid hle5
  have hBe : B ≤ (wd.alloc (.cells sa 103)).heap.size := by have := hx5.size; have := hx6.size; omega
  generalize wd.heap.size = tb at hb4 hE6 ⊢
  generalize (wd.alloc (.cells sa 103)) = we at hb1 hb2 hb3 hb4 hE6 hxd hBe hx6 ⊢
  have hLe : ∀ l ∈ L, we.heap[l]? = w.heap[l]? := fun l hm => by
    have h9 := HLT.out l hm
    rw [← hLd l hm h9]
    exact hx6.block l (by have := (hE5.av l (by simp [hm])).1; exact this) (fun e => e)
  have q0 : we.cell? ⟨cb, 0, none⟩ = some (.int .i64 op) := by rw [hb1.cell]; exact h0
  have s0 : we.cell? ⟨tb, 0, none⟩ = some (.int .i64 0) := by rw [hb4.cell]; exact sa0
  have s1 : we.cell? ⟨tb, 1, none⟩ = some (.int .i64 0) := by rw [hb4.cell]; exact sa1
  have hAs := srAsked op we
  have HB := Lib.hid hB
  clear hE5 hL5 hx5 hx6 hLd hE4 hc4 hxc hB hBa hBb hBc sa0 sa1 hs5 hone5 hle5 h0 h1 h2
  cases hq : isAsked op with
  | false =>
    rw [hq] at hAs
    have HQ := Lib.hid hq
    clear hq
    have hAn := srAnswer R we hE6 hp5.2 client req 50 hBe
    rw [hp5.1] at hAn
    go_upto_region 18 with (first | go_skip | go_guarded | ((with_reducible refine cLd 99 rfl ?_); refine wpList_load_blk rfl 99 _ rfl STWho wk rfl (whoA client req) hb3 rfl ?_) | (go_at_call 20; (with_reducible refine hAs.mono ?_); rintro e wz ⟨rfl, hwz⟩; (obtain rfl : we = wz := hwz.symm)) | (go_at_call 21; (with_reducible refine hAn.mono ?_); rintro e wf ⟨E7, r7, rfl, hle7, hE7, U1, U2, U3, hL7, hx7⟩))
    have hp7 := ptr_le hp5.2 hle7
    have hEn := srEnd R wf hE7 hp7.2 (by have := hx7.size; omega)
    rw [hp7.1, hp5.1] at hEn
    have hb2 : Blk wf ob 49 _ := (hL7 ob (by simp)).trans hb2
    clear hAn hAs q0 s0 s1
    go_wp2_with (first | go_skip | go_guarded | (go_at_call 24; (with_reducible refine hEn.mono ?_); rintro e wg ⟨E8, c8, rfl, hle8, hE8, hga1, hL8, hx8⟩; have hb2 : Blk wg ob 49 _ := (hL8 ob (by simp)).trans hb2) | ((with_reducible refine sSt 49 rfl ?_); refine wpList_store_blk rfl 49 _ _ rfl STOut ob rfl #[.slice none 0 0, .slice (some ⟨E8.blk a1, 0, none⟩) 1 c8, .slice none 0 0] rfl hb2 rfl rfl rfl ?_; intro wh hBo hxh))
    refine bodyPost_ret (results_cell rfl STOut (g := ob) rfl hBo rfl) rfl ⟨E8, c8, 50, rfl, En.le_trans HLE.out (En.le_trans hle7 hle8), (hE8.ext1 (l := ob) (by simp) hxh).sub (fun l hm => by simp [hm]), ⟨U1.le hle8, U2.le hle8, U3.le hle8, hga1⟩, .inr ⟨HQ.out, rfl⟩, fun l hm => ?_, ?_⟩
    · rw [hxh.block l (by have := (hE8.av l (by simp [hm])).1; exact this) (fun e => by have h9 := HLT.out l hm; have h8 := HOB.out; have : l = ob := e; omega), hL8 l (by simp [hm]), hL7 l (by simp [hm])]
      exact hLe l hm
    · exact ((hxd.tr hx7).tr hx8).trans hxh (fun b hb e => by have h8 := HOB.out; have h9 := HB.out; have : b = ob := e; omega)
  | true =>
    rw [hq] at hAs
    have HQ := Lib.hid hq
    clear hq
    rcases hec with rfl | rfl
    · have hAn := srAnswer R we hE6 hp5.2 client req 20 hBe
      rw [hp5.1] at hAn
      go_upto_region 18 with (first | go_skip | go_guarded | ((with_reducible refine cLd 99 rfl ?_); refine wpList_load_blk rfl 99 _ rfl STWho wk rfl (whoA client req) hb3 rfl ?_) | (go_at_call 20; (with_reducible refine hAs.mono ?_); rintro e wz ⟨rfl, hwz⟩; (obtain rfl : we = wz := hwz.symm)) | (go_at_call 21; (with_reducible refine hAn.mono ?_); rintro e wf ⟨E7, r7, rfl, hle7, hE7, U1, U2, U3, hL7, hx7⟩))
      have hp7 := ptr_le hp5.2 hle7
      have hEn := srEnd R wf hE7 hp7.2 (by have := hx7.size; omega)
      rw [hp7.1, hp5.1] at hEn
      have hb2 : Blk wf ob 49 _ := (hL7 ob (by simp)).trans hb2
      clear hAn hAs q0 s0 s1
      go_wp2_with (first | go_skip | go_guarded | (go_at_call 24; (with_reducible refine hEn.mono ?_); rintro e wg ⟨E8, c8, rfl, hle8, hE8, hga1, hL8, hx8⟩; have hb2 : Blk wg ob 49 _ := (hL8 ob (by simp)).trans hb2) | ((with_reducible refine sSt 49 rfl ?_); refine wpList_store_blk rfl 49 _ _ rfl STOut ob rfl #[.slice none 0 0, .slice (some ⟨E8.blk a1, 0, none⟩) 1 c8, .slice none 0 0] rfl hb2 rfl rfl rfl ?_; intro wh hBo hxh))
      refine bodyPost_ret (results_cell rfl STOut (g := ob) rfl hBo rfl) rfl ⟨E8, c8, 20, rfl, En.le_trans HLE.out (En.le_trans hle7 hle8), (hE8.ext1 (l := ob) (by simp) hxh).sub (fun l hm => by simp [hm]), ⟨U1.le hle8, U2.le hle8, U3.le hle8, hga1⟩, .inl ⟨HQ.out, .inr rfl⟩, fun l hm => ?_, ?_⟩
      · rw [hxh.block l (by have := (hE8.av l (by simp [hm])).1; exact this) (fun e => by have h9 := HLT.out l hm; have h8 := HOB.out; have : l = ob := e; omega), hL8 l (by simp [hm]), hL7 l (by simp [hm])]
        exact hLe l hm
      · exact ((hxd.tr hx7).tr hx8).trans hxh (fun b hb e => by have h8 := HOB.out; have h9 := HB.out; have : b = ob := e; omega)
    · have hAn := srAnswer R we hE6 hp5.2 client req 1 hBe
      rw [hp5.1] at hAn
      go_upto_region 18 with (first | go_skip | go_guarded | ((with_reducible refine cLd 99 rfl ?_); refine wpList_load_blk rfl 99 _ rfl STWho wk rfl (whoA client req) hb3 rfl ?_) | (go_at_call 20; (with_reducible refine hAs.mono ?_); rintro e wz ⟨rfl, hwz⟩; (obtain rfl : we = wz := hwz.symm)) | (go_at_call 21; (with_reducible refine hAn.mono ?_); rintro e wf ⟨E7, r7, rfl, hle7, hE7, U1, U2, U3, hL7, hx7⟩))
      have hp7 := ptr_le hp5.2 hle7
      have hEn := srEnd R wf hE7 hp7.2 (by have := hx7.size; omega)
      rw [hp7.1, hp5.1] at hEn
      have hb2 : Blk wf ob 49 _ := (hL7 ob (by simp)).trans hb2
      clear hAn hAs q0 s0 s1
      go_wp2_with (first | go_skip | go_guarded | (go_at_call 24; (with_reducible refine hEn.mono ?_); rintro e wg ⟨E8, c8, rfl, hle8, hE8, hga1, hL8, hx8⟩; have hb2 : Blk wg ob 49 _ := (hL8 ob (by simp)).trans hb2) | ((with_reducible refine sSt 49 rfl ?_); refine wpList_store_blk rfl 49 _ _ rfl STOut ob rfl #[.slice none 0 0, .slice (some ⟨E8.blk a1, 0, none⟩) 1 c8, .slice none 0 0] rfl hb2 rfl rfl rfl ?_; intro wh hBo hxh))
      refine bodyPost_ret (results_cell rfl STOut (g := ob) rfl hBo rfl) rfl ⟨E8, c8, 1, rfl, En.le_trans HLE.out (En.le_trans hle7 hle8), (hE8.ext1 (l := ob) (by simp) hxh).sub (fun l hm => by simp [hm]), ⟨U1.le hle8, U2.le hle8, U3.le hle8, hga1⟩, .inl ⟨HQ.out, .inl rfl⟩, fun l hm => ?_, ?_⟩
      · rw [hxh.block l (by have := (hE8.av l (by simp [hm])).1; exact this) (fun e => by have h9 := HLT.out l hm; have h8 := HOB.out; have : l = ob := e; omega), hL8 l (by simp [hm]), hL7 l (by simp [hm])]
        exact hLe l hm
      · exact ((hxd.tr hx7).tr hx8).trans hxh (fun b hb e => by have h8 := HOB.out; have h9 := HB.out; have : b = ob := e; omega)
end Go.Proofs.YtjcjiokneibfdaaGreatDoor
