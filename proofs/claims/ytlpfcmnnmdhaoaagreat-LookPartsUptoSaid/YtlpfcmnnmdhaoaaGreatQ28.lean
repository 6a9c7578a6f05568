/- Parts of the proof: RefApply -/
import Derived.Test.YtlpfcmnnmdhaoaaGreatQ27
import Derived.Test.YtlpfcmnnmdhaoaaGreatQ08
import Derived.Test.YtlpfcmnnmdhaoaaGreatQ06
namespace Go.Proofs.YtlpfcmnnmdhaoaaGreat
set_option linter.unusedVariables false
set_option linter.unusedSimpArgs false
set_option linter.unusedSectionVars false
open Go.RowKit
abbrev CmdV.ent (c : CmdV) (ix term : Int) : Array Value := #[.int .i64 ix, .int .i64 term, .int .i64 c.op, .int .i64 c.client, .int .i64 c.req, .int .i64 c.job.id, .int .i64 c.job.ty, .int .i64 c.job.prio, .int .i64 c.job.par, .slice c.GA c.gn c.gc, .int .i64 c.job.ver, .bool c.job.stopped,
 .int .i64 c.node.id, .int .i64 c.node.cap.cpu, .int .i64 c.node.cap.mem, .bool c.node.up, .bool c.node.drain, .int .i64 c.node.boot, .int .i64 c.node.epoch, .int .i64 c.node.seq, .slice c.RA c.rn c.rc,
 .int .i64 c.pj, .int .i64 c.pv, .int .i64 c.pi, .slice c.SA c.sn c.sc, .slice c.PA c.pn c.pc, .bool c.blocked, c.v25, c.v26]
theorem CmdV.ecell (c : CmdV) (ix term : Int) : ∀ (j : Nat) (u : Value), c.arr.toList[j]? = some u → (c.ent ix term)[2 + j]? = some u := fun j u hu => by
 match j, hu with
 | 0, hu => exact hu
 | 1, hu => exact hu
 | 2, hu => exact hu
 | 3, hu => exact hu
 | 4, hu => exact hu
 | 5, hu => exact hu
 | 6, hu => exact hu
 | 7, hu => exact hu
 | 8, hu => exact hu
 | 9, hu => exact hu
 | 10, hu => exact hu
 | 11, hu => exact hu
 | 12, hu => exact hu
 | 13, hu => exact hu
 | 14, hu => exact hu
 | 15, hu => exact hu
 | 16, hu => exact hu
 | 17, hu => exact hu
 | 18, hu => exact hu
 | 19, hu => exact hu
 | 20, hu => exact hu
 | 21, hu => exact hu
 | 22, hu => exact hu
 | 23, hu => exact hu
 | 24, hu => exact hu
 | 25, hu => exact hu
 | 26, hu => exact hu
 | (n + 27), hu => simp at hu
theorem ZTCmd : ZeroT Tryz.prog 51 27 := .of (by kernel_rfl)
section
variable {P : Program} {w : World} {ops : Array Oper} {rest : List Oper} {o : Oper} {a : Act} {Q : Exit → Act → World → Prop}
theorem wpList_allocZ (hgd : o.guard = none) (ty : TypeId) (ho : o.op = .alloc ty) {sz : Nat} (E : ZeroT P ty sz)
  (h : ∀ (z : Array Value) (w' : World), z.size = sz → Blk w' w.heap.size ty z → Ext Nothing w w' → wpList P ops Q rest (a.put o.dst (.pointer (some ⟨w.heap.size, 0, none⟩))) w') : wpList P ops Q (o :: rest) a w := by
 refine wpList_plain hgd fun K hK => ?_
 obtain ⟨z, hz, hr⟩ := run_alloc_any (ρ := a.eval) ho E w
 unfold Oper.wp
 rw [hr]
 exact hK _ _ (h z _ hz (Blk.new w _ _) ((Ext.refl _ _).alloc _))
end
theorem OwnS.base {b b' : Nat} {w : World} {s : StoreV} (h : OwnS b' w s) (hb : b ≤ b') : OwnS b w s :=
 ⟨h.j.base hb, h.jl, h.t.base hb, h.tl, own_base h.n hb, h.nl, own_base h.a hb, h.al, own_base h.e hb, h.el, own_base h.d hb, h.dl, own_base h.x hb, h.xl, h.xa, h.sep⟩
theorem CmdI.base {b b' : Nat} {w : World} {c : CmdV} (h : CmdI b w c) (hb : b ≤ b') : CmdI b' w c :=
 ⟨h.g, h.gl, fun q e ne => Nat.lt_of_lt_of_le (h.gb q e ne) hb, h.r, h.rl, fun q e ne => Nat.lt_of_lt_of_le (h.rb q e ne) hb, h.s, h.sl, fun q e ne => Nat.lt_of_lt_of_le (h.sb q e ne) hb, h.p, h.pl, fun q e ne => Nat.lt_of_lt_of_le (h.pb q e ne) hb, h.o25, h.o26⟩
theorem Copied.own {base : Nat} {W : World} {s s' : StoreV} (C : Copied base W s s') (hx : ∀ y ∈ s.seen, y.1.answer.allocs = []) : OwnS base W s' := by
 refine ⟨C.j, C.jl, C.t, C.tl, C.n, C.nl, C.a, C.al, C.e, C.el, C.d, C.dl, C.x.own, C.xl, fun y hy => ?_, C.sep⟩
 obtain ⟨x, hx1, e⟩ := mem_map_fst C.xm hy
 have h0 : y.1.answer.allocs = [] := e ▸ hx x hx1
 obtain ⟨A, n, c, h1, _, h3, _⟩ := C.x.ans y hy
 rw [h0] at h3
 exact ⟨A, c, by rw [h1, h3]; rfl, h0⟩
theorem Copied.data {base : Nat} {W : World} {s s' : StoreV} (C : Copied base W s s') : s'.data = s.data := by
 unfold StoreV.data
 rw [C.index, C.next, C.jm, C.tm, C.nm, C.am, C.em, C.dm, C.xm]
namespace Fsm
theorem apply_plain {s : StoreD} {ix : Int} {c : CmdD} (h : (((c.op != 3) && (c.op != 4) && (c.op != 8)) || (c.client == 0)) = true) : apply s ix c = command { s with index := ix } c := by
 unfold apply
 simp only []
 rw [if_pos (by cases a : (c.op == 3) <;> cases b : (c.op == 4) <;> cases d : (c.op == 8) <;> simp_all [bne])]
theorem ask_no {c : CmdD} (h : (((c.op != 3) && (c.op != 4) && (c.op != 8)) || (c.client == 0)) = false) : ¬ (!(c.op == 3 || c.op == 4 || c.op == 8) || c.client == 0) = true := by
 cases a : (c.op == 3) <;> cases b : (c.op == 4) <;> cases d : (c.op == 8) <;> simp_all [bne]
section
variable {s : StoreD} {ix : Int} {c : CmdD} (h : (((c.op != 3) && (c.op != 4) && (c.op != 8)) || (c.client == 0)) = false)
include h
theorem apply_arg (ha : (decide (c.client < 1) || decide (4 < c.client) || decide (c.req < 1) || decide (1099511627776 < c.req)) = true) : apply s ix c = ({ s with index := ix }, ⟨1, 0, []⟩) := by
 unfold apply; simp only []; rw [if_neg (ask_no h), if_pos (by simp at ha; unfold big40; omega)]; rfl
variable (ha : (decide (c.client < 1) || decide (4 < c.client) || decide (c.req < 1) || decide (1099511627776 < c.req)) = false)
include ha
theorem arg_no : ¬ (c.client < 1 ∨ 4 < c.client ∨ c.req < 1 ∨ big40 < c.req) := by simp at ha; unfold big40; omega
theorem apply_old {x : SeenD} (hf : s.seen.find? (fun x => x.client == c.client && decide (c.req ≤ x.req)) = some x) (hr : c.req < x.req) : apply s ix c = ({ s with index := ix }, ⟨33, 0, []⟩) := by
 unfold apply; simp only []; rw [if_neg (ask_no h), if_neg (arg_no h ha), hf]; simp only []; rw [if_pos hr]; rfl
theorem apply_same {x : SeenD} (hf : s.seen.find? (fun x => x.client == c.client && decide (c.req ≤ x.req)) = some x) (hr : ¬ c.req < x.req) : apply s ix c = ({ s with index := ix }, x.answer) := by
 unfold apply; simp only []; rw [if_neg (ask_no h), if_neg (arg_no h ha), hf]; simp only []; rw [if_neg hr]
theorem apply_new (hf : s.seen.find? (fun x => x.client == c.client && decide (c.req ≤ x.req)) = none) {z : StoreD × ResultD} (hz : command { s with index := ix } c = z) : apply s ix c = ({ z.1 with seen := putL SeenD.client ⟨c.client, c.req, z.2⟩ z.1.seen }, z.2) := by
 subst hz
 unfold apply; simp only []; rw [if_neg (ask_no h), if_neg (arg_no h ha), hf]
end
theorem command_none {s : StoreD} {c : CmdD} (h : (((c.op != 3) && (c.op != 4) && (c.op != 8)) || (c.client == 0)) = false) {z : StoreD × ResultD} (hz : command s c = z) : z.2.allocs = [] := by
 subst hz
 have h3 : c.op = 3 ∨ c.op = 4 ∨ c.op = 8 := by
  simp at h
  omega
 unfold command
 rcases h3 with h3 | h3 | h3
 ·simp only [h3]; simp; unfold submit; repeat' split
  all_goals rfl
 ·simp only [h3]; simp; unfold cancel; split <;> rfl
 ·simp only [h3]; simp; unfold drain; split <;> rfl
theorem command_seen {s : StoreD} {c : CmdD} {t : StoreD} {r : ResultD} (hz : command s c = (t, r)) : t.seen.length ≤ s.seen.length := by
 have h := (command_few s c).x
 rw [hz] at h
 exact h
theorem find_first {α : Type} {p : α → Bool} {l : List α} {t : Nat} {y : α} (hno : (l.take t).find? p = none) (hy : l[t]? = some y) (hp : p y = true) : l.find? p = some y := by
 obtain ⟨ht, rfl⟩ := List.getElem?_eq_some_iff.1 hy
 conv => lhs; rw [← List.take_append_drop t l]
 rw [List.find?_append, hno, List.drop_eq_getElem_cons ht, List.find?_cons_of_pos hp]; rfl
end Fsm
theorem putL_mapX (x : SeenV) : ∀ l : List SeenV, (Fsm.putL (fun x : SeenV => x.1.client) x l).map (·.1) = Fsm.putL SeenD.client x.1 (l.map (·.1))
 | [] => rfl
 | y :: r => by
  simp only [Fsm.putL, List.map_cons]
  by_cases h : x.1.client ≤ y.1.client
  ·rw [if_pos h, if_pos h, List.map_cons]
   congr 1
   rw [← List.map_cons, List.filter_map]
   rfl
  ·rw [if_neg h, if_neg h, List.map_cons, putL_mapX x r]
theorem seen_put {s5 : StoreV} {d : StoreD} {ix : Int} {c : CmdV} {r : ResultD} {Av : Option Addr} {cv n cX : Nat} {AX : Option Addr} {l : List SeenV} (h : Fsm.apply d ix c.d = ({ s5.data with seen := Fsm.putL SeenD.client ⟨c.client, c.req, r⟩ s5.data.seen }, r)) (hr : r.allocs = [])
  (hl : Fsm.putL (fun x : SeenV => x.1.client) (⟨⟨c.client, c.req, ⟨r.code, r.value, []⟩⟩, .slice Av 0 cv⟩ : SeenV) s5.seen = l) : Fsm.apply d ix c.d = (({ s5 with AX := AX, nX := n, cX := cX, seen := l } : StoreV).data, r) := by
 rw [h]
 obtain ⟨a, b, q⟩ := r
 change q = [] at hr
 subst hr
 have e := putL_mapX (⟨⟨c.client, c.req, ⟨a, b, []⟩⟩, .slice Av 0 cv⟩ : SeenV) s5.seen
 rw [hl] at e
 unfold StoreV.data
 simp only []
 rw [e]
set_option maxRecDepth 20000 in
set_option maxHeartbeats 16000000 in
theorem refApply (s : StoreV) (c : CmdV) (ix term : Int) (w : World) (hs : s.Ok w) (hsx : ∀ y ∈ s.seen, y.1.answer.allocs = []) (hc : CmdI w.heap.size w c) (hJ : s.jobs.length ≤ 1048575) (hN : s.nodes.length ≤ 1048575) (hA : s.allocs.length ≤ 1048576) (hDl : s.deploys.length ≤ 1048575) (hS : s.stable.length ≤ 33554432) (hE : s.evals.length ≤ 16777216) (hX : s.seen.length ≤ 1048576) :
  Calls Tryz.prog 6 #[.agg s.arr, .agg (c.ent ix term)] w fun e w' => ∃ s' r rv, e = .returned (.tuple #[.agg s'.arr, .agg #[.int .i64 r.code, .int .i64 r.value, rv]]) ∧ OwnS w.heap.size w' s' ∧ Fsm.apply s.data ix c.d = (s'.data, r) ∧ ResI w.heap.size w' rv r.allocs ∧ Ext Nothing w w' := by
 have hxW : Ext Nothing w ((((w.alloc (.cells s.arr 30)).alloc (.cells (c.ent ix term) 53)).alloc (.cells #[.int .i64 0, .int .i64 0, .slice none 0 0, .slice none 0 0, .slice none 0 0, .slice none 0 0, .slice none 0 0, .slice none 0 0, .slice none 0 0] 30)).alloc (.cells #[.int .i64 0, .int .i64 0, .slice none 0 0] 34)) := Ext.auto
 have hBW : Blk ((((w.alloc (.cells s.arr 30)).alloc (.cells (c.ent ix term) 53)).alloc (.cells #[.int .i64 0, .int .i64 0, .slice none 0 0, .slice none 0 0, .slice none 0 0, .slice none 0 0, .slice none 0 0, .slice none 0 0, .slice none 0 0] 30)).alloc (.cells #[.int .i64 0, .int .i64 0, .slice none 0 0] 34)) w.heap.size 30 s.arr := (Blk.new w _ _).e0 Ext.auto
 have hXW : Blk ((((w.alloc (.cells s.arr 30)).alloc (.cells (c.ent ix term) 53)).alloc (.cells #[.int .i64 0, .int .i64 0, .slice none 0 0, .slice none 0 0, .slice none 0 0, .slice none 0 0, .slice none 0 0, .slice none 0 0, .slice none 0 0] 30)).alloc (.cells #[.int .i64 0, .int .i64 0, .slice none 0 0] 34)) (w.heap.size + 1) 53 (c.ent ix term) := (Blk.new' (w.alloc (.cells s.arr 30)) _ _ (by simp)).e0 Ext.auto
 have hRW : Blk ((((w.alloc (.cells s.arr 30)).alloc (.cells (c.ent ix term) 53)).alloc (.cells #[.int .i64 0, .int .i64 0, .slice none 0 0, .slice none 0 0, .slice none 0 0, .slice none 0 0, .slice none 0 0, .slice none 0 0, .slice none 0 0] 30)).alloc (.cells #[.int .i64 0, .int .i64 0, .slice none 0 0] 34)) (w.heap.size + 1 + 1) 30 #[.int .i64 0, .int .i64 0, .slice none 0 0, .slice none 0 0, .slice none 0 0, .slice none 0 0, .slice none 0 0, .slice none 0 0, .slice none 0 0] := (Blk.new' ((w.alloc (.cells s.arr 30)).alloc (.cells (c.ent ix term) 53)) _ _ (by simp)).e0 Ext.auto
 have hEW : Blk ((((w.alloc (.cells s.arr 30)).alloc (.cells (c.ent ix term) 53)).alloc (.cells #[.int .i64 0, .int .i64 0, .slice none 0 0, .slice none 0 0, .slice none 0 0, .slice none 0 0, .slice none 0 0, .slice none 0 0, .slice none 0 0] 30)).alloc (.cells #[.int .i64 0, .int .i64 0, .slice none 0 0] 34)) (w.heap.size + 1 + 1 + 1) 34 #[.int .i64 0, .int .i64 0, .slice none 0 0] := Blk.new' _ _ _ (by simp)
 go_enter Tryz.func6, Tryz.ntmps6
 go_upto_region 1 with fail
 generalize ((((w.alloc (.cells s.arr 30)).alloc (.cells (c.ent ix term) 53)).alloc (.cells #[.int .i64 0, .int .i64 0, .slice none 0 0, .slice none 0 0, .slice none 0 0, .slice none 0 0, .slice none 0 0, .slice none 0 0, .slice none 0 0] 30)).alloc (.cells #[.int .i64 0, .int .i64 0, .slice none 0 0] 34)) = W at hxW hBW hXW hRW hEW ⊢
 have hzW : w.heap.size + 1 + 1 + 1 < W.heap.size := hEW.lt
 have hsW := hs.ext0 hxW
 have hbase : w.heap.size ≤ W.heap.size := hxW.size
 go_upto_region 2 with (first | go_skip | go_guarded | ((with_reducible refine isW ?_); refine wpList_load_blk rfl 30 _ rfl STStore w.heap.size rfl s.arr (show Blk _ _ 30 _ from hBW) rfl ?_) | (go_at_call 13; (with_reducible refine (refCopy s W hsW).mono ?_); rintro e w1 ⟨s1, rfl, hC1, hx1⟩; have hB1 := hBW.e0 hx1) | ((with_reducible refine isW ?_); refine wpList_store_blk rfl 30 _ _ rfl STStore w.heap.size rfl s1.arr rfl (show Blk _ _ 30 _ from hB1) rfl rfl rfl ?_; intro w2 hBw2 hxw2))
 have hO1 := hC1.own hsx
 have HDA := Lib.hid hC1.data
 clear hC1
 have hO2 := hO1.keep hxw2 (Apart.one hB1 (by decide))
 have hX2 := (hXW.e0 hx1).ext hxw2 (fun e => absurd (show (w.heap.size + 1) = w.heap.size from e) (by omega))
 have hR2 := (hRW.e0 hx1).ext hxw2 (fun e => absurd (show (w.heap.size + 1 + 1) = w.heap.size from e) (by omega))
 have hE2 := (hEW.e0 hx1).ext hxw2 (fun e => absurd (show (w.heap.size + 1 + 1 + 1) = w.heap.size from e) (by omega))
 have hWw2 : W.heap.size ≤ w2.heap.size := Nat.le_trans hx1.size hxw2.size
 have hx2 : Ext Nothing w w2 := (hxW.tr hx1).trans hxw2 (fun b hb e => absurd (show b = w.heap.size from e) (by omega))
 have x0 : w2.cell? ⟨w.heap.size + 1, 0, none⟩ = some (.int .i64 ix) := hX2.cell 0
 have b0 : w2.cell? ⟨w.heap.size, 0, none⟩ = some (.int .i64 s1.index) := hBw2.cell 0
 have b0f : w2.frozen? ⟨w.heap.size, 0, none⟩ = false := hBw2.frozen 0
 have hs3 : Ext (fun b => b = w.heap.size) w2 (w2.setCell ⟨w.heap.size, 0, none⟩ (.int .i64 ix)) := Ext.set1 _ _ _ _
 have hB3 : Blk (w2.setCell ⟨w.heap.size, 0, none⟩ (.int .i64 ix)) w.heap.size 30 ({ s1 with index := ix } : StoreV).arr := hBw2.set_ 0 _
 go_upto_region 3 with (first | go_skip | go_guarded)
 have hO3 := (hO2.keep hs3 (Apart.one hBw2 (by decide))).index ix
 have hX3 := hX2.ext hs3 (fun e => absurd (show (w.heap.size + 1) = w.heap.size from e) (by omega))
 have hR3 := hR2.ext hs3 (fun e => absurd (show (w.heap.size + 1 + 1) = w.heap.size from e) (by omega))
 have hE3 := hE2.ext hs3 (fun e => absurd (show (w.heap.size + 1 + 1 + 1) = w.heap.size from e) (by omega))
 have hWw3 : W.heap.size ≤ (w2.setCell ⟨w.heap.size, 0, none⟩ (.int .i64 ix)).heap.size := Nat.le_trans hWw2 hs3.size
 have hx3 : Ext Nothing w (w2.setCell ⟨w.heap.size, 0, none⟩ (.int .i64 ix)) := hx2.trans hs3 (fun b hb e => absurd (show b = w.heap.size from e) (by omega))
 clear x0 b0 b0f hs3 hO1 hO2 hX2 hR2 hE2 hx2 hBw2 hxw2 hB1 hx1 hBW hXW hRW hEW hsW
 generalize (w2.setCell ⟨w.heap.size, 0, none⟩ (.int .i64 ix)) = w3 at hB3 hO3 hX3 hR3 hE3 hx3 hWw3 ⊢
 have hce : ∀ j u, c.arr.toList[j]? = some u → w3.cell? ⟨w.heap.size + 1, 2 + j, none⟩ = some u := fun j u hu => by rw [hX3.cell]; exact c.ecell ix term j u hu
 have hone : c.arr.toList.all Value.oneCell' = true := by simp [Value.oneCell']; exact ⟨hc.o25, hc.o26⟩
 go_upto_region 4 with (first | go_skip | go_guarded | ((with_reducible refine isW ?_); refine wpList_load_at rfl 51 _ rfl STCmd (w.heap.size + 1) 2 rfl c.arr hce rfl ?_) | ((with_reducible refine isW ?_); refine wpList_allocZ rfl 51 rfl ZTCmd ?_; intro z wz hz hBz hxz) | ((with_reducible refine isW ?_); refine wpList_store_blk rfl 51 _ _ rfl STCmd w3.heap.size rfl c.arr rfl (show Blk _ _ 51 _ from hBz) hz rfl hone ?_; intro w4 hC4 hx4c))
 have hx4 : Ext Nothing w3 w4 := hxz.trans hx4c (fun b hb e => absurd (show b = w3.heap.size from e) (by omega))
 have hB4 := hB3.e0 hx4
 have hR4 := hR3.e0 hx4
 have hE4 := hE3.e0 hx4
 have hO4 := hO3.keep0 hx4
 have hxw4 := hx3.tr hx4
 have hb4 := Nat.le_trans hWw3 hx4.size
 have hzC : (w.heap.size + 1 + 1 + 1) < w3.heap.size := hE3.lt
 clear hce hX3 hB3 hR3 hE3 hO3 hx3 hx4 hx4c hxz hBz hz
 generalize hcc : w3.heap.size = CC at hC4 hzC ⊢
 clear hcc
 have q0 : w4.cell? ⟨CC, 0, none⟩ = some (.int .i64 c.op) := hC4.cell 0
 have q1 : w4.cell? ⟨CC, 1, none⟩ = some (.int .i64 c.client) := hC4.cell 1
 have q2 : w4.cell? ⟨CC, 2, none⟩ = some (.int .i64 c.req) := hC4.cell 2
 have hc4 := (hc.keep0 hxw4).base hbase
 have lJ : ({ s1 with index := ix } : StoreV).jobs.length ≤ 1048575 := by have e9 := congrArg (fun z : StoreD => z.jobs.length) HDA.out; simp only [StoreV.data, List.length_map] at e9; show s1.jobs.length ≤ _; omega
 have lN : ({ s1 with index := ix } : StoreV).nodes.length ≤ 1048575 := by have e9 := congrArg (fun z : StoreD => z.nodes.length) HDA.out; simp only [StoreV.data] at e9; show s1.nodes.length ≤ _; omega
 have lA : ({ s1 with index := ix } : StoreV).allocs.length ≤ 1048576 := by have e9 := congrArg (fun z : StoreD => z.allocs.length) HDA.out; simp only [StoreV.data] at e9; show s1.allocs.length ≤ _; omega
 have lD : ({ s1 with index := ix } : StoreV).deploys.length ≤ 1048575 := by have e9 := congrArg (fun z : StoreD => z.deploys.length) HDA.out; simp only [StoreV.data] at e9; show s1.deploys.length ≤ _; omega
 have lS : ({ s1 with index := ix } : StoreV).stable.length ≤ 33554432 := by have e9 := congrArg (fun z : StoreD => z.stable.length) HDA.out; simp only [StoreV.data, List.length_map] at e9; show s1.stable.length ≤ _; omega
 have lE : ({ s1 with index := ix } : StoreV).evals.length ≤ 16777216 := by have e9 := congrArg (fun z : StoreD => z.evals.length) HDA.out; simp only [StoreV.data] at e9; show s1.evals.length ≤ _; omega
 have lX : ({ s1 with index := ix } : StoreV).seen.length ≤ 1048576 := by have e9 := congrArg (fun z : StoreD => z.seen.length) HDA.out; simp only [StoreV.data, List.length_map] at e9; show s1.seen.length ≤ _; omega
 have HDV := Lib.hid (show ({ s1 with index := ix } : StoreV).data = ({ s.data with index := ix } : StoreD) by rw [← HDA.out]; rfl)
 clear HDA
 simp only [Act.put, zA, zB, zC, zD, zE, zF]
 go_upto_region 4 with fail
 go_cut [37] from 20 to 36 (fun e wx => e = .bool (((c.op != 3) && (c.op != 4) && (c.op != 8)) || (c.client == 0)) ∧ w4 = wx)
 case first =>
  cases o3 : (c.op != 3) with
  | false =>
   cases cl : (c.client == 0) with
   | true =>
    go_wp2_with (first | go_skip | go_guarded)
    go_meet
    exact ⟨by rw [o3, cl]; rfl, rfl⟩
   | false =>
    go_wp2_with (first | go_skip | go_guarded)
    go_meet
    exact ⟨by rw [o3, cl]; rfl, rfl⟩
  | true =>
   cases o4 : (c.op != 4) with
   | false =>
    cases cl : (c.client == 0) with
    | true =>
     go_wp2_with (first | go_skip | go_guarded)
     go_meet
     exact ⟨by rw [o3, o4, cl]; rfl, rfl⟩
    | false =>
     go_wp2_with (first | go_skip | go_guarded)
     go_meet
     exact ⟨by rw [o3, o4, cl]; rfl, rfl⟩
   | true =>
    cases o8 : (c.op != 8) with
    | false =>
     cases cl : (c.client == 0) with
     | true =>
      go_wp2_with (first | go_skip | go_guarded)
      go_meet
      exact ⟨by rw [o3, o4, o8, cl]; rfl, rfl⟩
     | false =>
      go_wp2_with (first | go_skip | go_guarded)
      go_meet
      exact ⟨by rw [o3, o4, o8, cl]; rfl, rfl⟩
    | true =>
     go_wp2_with (first | go_skip | go_guarded)
     go_meet
     exact ⟨by rw [o3, o4, o8]; rfl, rfl⟩
 case rest =>
  obtain ⟨rfl, rfl⟩ := hcut
  cases ask : (((c.op != 3) && (c.op != 4) && (c.op != 8)) || (c.client == 0)) with
  | true =>
   have HF := Lib.hid (show Fsm.apply s.data ix c.d = Fsm.command ({ s1 with index := ix } : StoreV).data c.d by rw [HDV.out]; exact Fsm.apply_plain ask)
   clear q0 q1 q2
   go_wp2_with (first | go_skip | go_guarded | ((with_reducible refine isW ?_); refine wpList_load_blk rfl 30 _ rfl STStore w.heap.size rfl ({ s1 with index := ix } : StoreV).arr (show Blk _ _ 30 _ from hB4) rfl ?_) | ((with_reducible refine isW ?_); refine wpList_load_blk rfl 51 _ rfl STCmd CC rfl c.arr (show Blk _ _ 51 _ from hC4) rfl ?_) | (go_at_call 15; (with_reducible refine (refCommand W.heap.size ({ s1 with index := ix } : StoreV) c w4 hO4 hc4 hb4 lJ lN lA lD lS lE).mono ?_); rintro e w5 ⟨s5, r5, rv, rfl, hO5, hF5, hres, hx5⟩; have HF5 := Lib.hid hF5; clear hF5; obtain ⟨Av, cv, rfl, hov⟩ := hres; have hres : ResI W.heap.size w5 (.slice Av r5.allocs.length cv) r5.allocs := ⟨Av, cv, rfl, hov⟩; clear hov; have hR5 := hR4.kept hx5 (by decide); have hE5 := hE4.kept hx5 (by decide)) | ((with_reducible refine isW ?_); refine wpList_store_blk rfl 30 _ _ rfl STStore (w.heap.size + 1 + 1) rfl s5.arr rfl (show Blk _ _ 30 _ from hR5) rfl rfl rfl ?_; intro w6 hBw6 hxw6) | ((with_reducible refine isW ?_); refine wpList_store_blk rfl 34 _ _ rfl STResult (w.heap.size + 1 + 1 + 1) rfl #[.int .i64 r5.code, .int .i64 r5.value, .slice Av r5.allocs.length cv] rfl (show Blk _ _ 34 _ from hE5.ext hxw6 (fun e => absurd (show (w.heap.size + 1 + 1 + 1) = (w.heap.size + 1 + 1) from e) (by omega))) rfl rfl rfl ?_; intro w7 hEw7 hxw7))
   have hR7 := hBw6.ext hxw7 (fun e => absurd (show (w.heap.size + 1 + 1) = (w.heap.size + 1 + 1 + 1) from e) (by omega))
   have hx57 : Ext (fun q => q = (w.heap.size + 1 + 1) ∨ q = (w.heap.size + 1 + 1 + 1)) w5 w7 := (hxw6.mono (fun _ _ e => .inl e)).trans hxw7 (fun _ _ e => .inr e)
   have hO7 := hO5.keep hx57 (fun q e => by rcases e with rfl | rfl; exact ⟨_, _, hR5, by decide⟩; exact ⟨_, _, hE5, by decide⟩)
   exact bodyPost_ret (results_cell2 rfl STStore STResult rfl rfl hR7 rfl hEw7 rfl) rfl ⟨s5, r5, .slice Av r5.allocs.length cv, rfl, hO7.base hbase, HF.out.trans HF5.out, (hres.keep hx57 (fun q e => by rcases e with rfl | rfl; exact ⟨_, _, hR5, by decide⟩; exact ⟨_, _, hE5, by decide⟩)).base hbase, (hxw4.trans hx5 (fun b hb e => absurd e.1 (by omega))).trans hx57 (fun b hb e => by omega)⟩
  | false =>
   go_upto_region 6 with fail
   go_cut [60] from 43 to 59 (fun e wx => e = .bool (decide (c.client < 1) || decide (4 < c.client) || decide (c.req < 1) || decide (1099511627776 < c.req)) ∧ w4 = wx)
   case first =>
    cases g1 : (decide (c.client < 1)) with
    | true =>
     go_wp2_with (first | go_skip | go_guarded)
     go_meet
     exact ⟨by rw [g1]; rfl, rfl⟩
    | false =>
     cases g2 : (decide (4 < c.client)) with
     | true =>
      go_wp2_with (first | go_skip | go_guarded)
      go_meet
      exact ⟨by rw [g1, g2]; rfl, rfl⟩
     | false =>
      cases g3 : (decide (c.req < 1)) with
      | true =>
       go_wp2_with (first | go_skip | go_guarded)
       go_meet
       exact ⟨by rw [g1, g2, g3]; rfl, rfl⟩
      | false =>
       cases g4 : (decide (1099511627776 < c.req)) with
       | true =>
        go_wp2_with (first | go_skip | go_guarded)
        go_meet
        exact ⟨by rw [g1, g2, g3, g4]; rfl, rfl⟩
       | false =>
        go_wp2_with (first | go_skip | go_guarded)
        go_meet
        exact ⟨by rw [g1, g2, g3, g4]; rfl, rfl⟩
   case rest =>
    obtain ⟨rfl, rfl⟩ := hcut
    cases arg : (decide (c.client < 1) || decide (4 < c.client) || decide (c.req < 1) || decide (1099511627776 < c.req)) with
    | true =>
     have HF := Lib.hid (show Fsm.apply s.data ix c.d = (({ s1 with index := ix } : StoreV).data, ⟨1, 0, []⟩) by rw [HDV.out]; exact Fsm.apply_arg ask arg)
     go_upto_region 7 with (first | go_skip | go_guarded)
     refine zH (S := fun q => q = (w.heap.size + 1 + 1) ∨ q = (w.heap.size + 1 + 1 + 1)) (by kernel_rfl) (fun Wd hd hd0 => ?_)
     refine zT 0 (.agg ({ s1 with index := ix } : StoreV).arr) rfl (by kernel_rfl) (by rfl) hd (fun _ _ _ h => h) ?_ ?_
     ·intro W' hS'
      exact run_load_blk rfl STStore (by go_simp) (hB4.ext hS' (by omega)) rfl
     simp only [Act.put, zA, zB, zC, zD, zE, zF]
     refine zO 1 (by kernel_rfl) ?_
     refine wpOp_call (f := 16) (args := #[.int .i64 1]) rfl (by rfl) (by go_simp) ((refNo 1 Wd).mono ?_)
     rintro e wn ⟨rfl, hxn⟩
     have hd1 := hd.trans hxn (fun _ _ e => e.elim)
     have hd01 := hd0.tr hxn
     refine ⟨_, rfl, hd1, ?_⟩
     simp only [Act.put, zA, zB, zC, zD, zE, zF]
     refine zO 2 (by kernel_rfl) ?_
     refine wpOp_store (p := (w.heap.size + 1 + 1)) (cs := ({ s1 with index := ix } : StoreV).arr) rfl (by rfl) rfl (by go_simp) (by go_simp) (hR4.e0 hd01) rfl STStore rfl rfl (fun w2 hR2 hx2 => ?_)
     have hd2 := hd1.trans hx2 (fun q hq e => .inl e)
     refine ⟨hd2, ?_⟩
     simp only [Act.put, zA, zB, zC, zD, zE, zF]
     refine zO 3 (by kernel_rfl) ?_
     refine wpOp_store (p := (w.heap.size + 1 + 1 + 1)) (cs := resArr 1 0) rfl (by rfl) rfl (by go_simp) (by go_simp) ((hE4.e0 hd01).ext hx2 (fun e => absurd (show (w.heap.size + 1 + 1 + 1) = (w.heap.size + 1 + 1) from e) (by omega))) rfl STResult rfl rfl (fun w3 hE3 hx3' => ?_)
     have hx3 := hd2.trans hx3' (fun q hq e => .inr e)
     have hR3 := hR2.ext hx3' (fun e => absurd (show (w.heap.size + 1 + 1) = (w.heap.size + 1 + 1 + 1) from e) (by omega))
     refine ⟨hx3, wpAnyH_done (by kernel_rfl) ?_ _⟩
     simp only [Act.put, zA, zB, zC, zD, zE, zF]
     go_wp2
     have hxx : Ext Nothing w w3 := hxw4.trans hx3 (fun b hb e => by omega)
     exact bodyPost_ret (results_cell2 rfl STStore STResult rfl rfl hR3 rfl hE3 rfl) rfl ⟨({ s1 with index := ix } : StoreV), ⟨1, 0, []⟩, .slice none 0 0, rfl, (hO4.keep hx3 (fun q e => by rcases e with rfl | rfl; exact ⟨_, _, hR4, by decide⟩; exact ⟨_, _, hE4, by decide⟩)).base hbase, HF.out, ResI.nil _ _, hxx⟩
    | false =>
     have HASK := Lib.hid ask
     have HARG := Lib.hid arg
     clear ask arg
     have hsx4 : Sl w4 5 s1.AX s1.nX (s1.seen.map SeenV.cells) := hO4.slX
     have hxl := Lib.hid (show s1.nX = s1.seen.length from hO4.xl)
     have hnX : s1.nX ≤ 1048576 := by have := hxl.out; have h9 : s1.seen.length ≤ 1048576 := lX; omega
     have HXA := Lib.hid (show ∀ y ∈ s1.seen, ∃ A c, y.2 = .slice A 0 c ∧ y.1.answer.allocs = [] from hO4.xa)
     go_wp2
     go_loopw [7] (fun ki wr => ∃ t : Nat, t ≤ s1.nX ∧ ki = .int .i64 t ∧ (s1.seen.take t).find? (fun y : SeenV => y.1.client == c.client && decide (c.req ≤ y.1.req)) = none ∧ Ext Nothing w4 wr) (fun ki _ => s1.nX - (intOf ki).toNat)
     case atStart => exact ⟨0, Nat.zero_le _, rfl, rfl, Ext.refl _ _⟩
     case round =>
      obtain ⟨t, ht, rfl, hno, hx⟩ := hrel
      have c8 : wr.cell? ⟨w.heap.size, 8, none⟩ = some (.slice s1.AX s1.nX s1.cX) := (hB4.e0 hx).cell 8
      by_cases hlt : t < s1.nX
      ·obtain ⟨hjn, b, off, hAe, hce⟩ := hsx4.get hx hlt
       have hnx : s1.seen.take (t + 1) = s1.seen.take t ++ [s1.seen[t]] := by rw [List.take_add_one, List.getElem?_eq_getElem hjn]; rfl
       have hya := HXA.out _ (List.getElem_mem hjn)
       have hyt : s1.seen[t]? = some s1.seen[t] := List.getElem?_eq_getElem hjn
       generalize s1.seen[t] = y at hce hnx hya hyt
       obtain ⟨⟨y0, y1, ⟨y2, y3, yl⟩⟩, yv⟩ := y
       obtain ⟨yA, yc, hyv, hyl⟩ := hya
       change yv = _ at hyv
       change yl = _ at hyl
       subst hyv
       subst hyl
       rw [hAe] at c8
       have HA := Lib.hid hAe
       have HT := Lib.hid hlt
       have HNX := Lib.hid hnx
       have HNO := Lib.hid hno
       have HYT := Lib.hid hyt
       clear hAe hnx hno hyt
       have hk0 : (0 : Int) ≤ (t : Int) := by omega
       have hk1 : (t : Int) < s1.nX := by omega
       have k0 : wr.cell? ⟨b, off + t * 5, none⟩ = some (.int .i64 y0) := hce 0 _ rfl
       have k1 : wr.cell? ⟨b, off + t * 5 + 1, none⟩ = some (.int .i64 y1) := hce 1 _ rfl
       have m1 := hx.c0 q1
       have m2 := hx.c0 q2
       have hxq := hx
       have hblt : b < w4.heap.size := own_lt (v := .slice s1.AX s1.nX s1.cX) hO4.x (by rw [HA.out]; rfl)
       have HCE := Lib.hid (show ∀ j u, (#[Value.int .i64 y0, .int .i64 y1, .int .i64 y2, .int .i64 y3, .slice yA 0 yc] : Array Value).toList[j]? = some u → wr.cell? ⟨b, off + t * 5 + j, none⟩ = some u from hce)
       clear hce
       cases z1 : (y0 == c.client) with
       | false =>
        have HN1 := Lib.hid (show (s1.seen.take (t + 1)).find? (fun y : SeenV => y.1.client == c.client && decide (c.req ≤ y.1.req)) = none by rw [HNX.out, List.find?_append, HNO.out]; simp only [Option.none_or]; rw [List.find?_cons_of_neg (by show ¬ (y0 == c.client && _) = true; rw [z1]; simp)]; rfl)
        go_upto_region 11 with (first | go_skip | go_guarded)
        go_quiet (fail)
        have hd := (Ext.refl Nothing wr).drewN nq
        generalize wr.drewN nq = wq at hd ⊢
        have hxq := hxq.tr hd
        have c8 := hd.c0 c8
        have k0 := hd.c0 k0
        have k1 := hd.c0 k1
        have m1 := hd.c0 m1
        have m2 := hd.c0 m2
        clear hd
        go_upto_region 13 with (first | go_skip | go_guarded)
        go_quiet (fail)
        have hd := (Ext.refl Nothing wq).drewN nq
        generalize wq.drewN nq = wv at hd ⊢
        have hxq := hxq.tr hd
        have c8 := hd.c0 c8
        have k0 := hd.c0 k0
        have k1 := hd.c0 k1
        have m1 := hd.c0 m1
        have m2 := hd.c0 m2
        clear hd
        go_wp2_with (first | go_skip | go_guarded)
        go_roundw
        case rel => exact ⟨t + 1, HT.out, by go_num, HN1.out, hxq⟩
        case measure => have := HT.out; simp [intOf]; omega
       | true =>
        cases z2 : decide (c.req < y1) with
        | true =>
         have HFI := Lib.hid (show (s.data.seen).find? (fun x => x.client == c.d.client && decide (c.d.req ≤ x.req)) = some (⟨y0, y1, ⟨y2, y3, []⟩⟩ : SeenD) by rw [show s.data.seen = s1.seen.map (·.1) from (congrArg (fun z : StoreD => z.seen) HDV.out).symm, List.find?_map]; exact congrArg (Option.map (fun x : SeenV => x.1)) (show List.find? (fun y : SeenV => y.1.client == c.client && decide (c.req ≤ y.1.req)) s1.seen = some (⟨⟨y0, y1, ⟨y2, y3, []⟩⟩, .slice yA 0 yc⟩ : SeenV) from Fsm.find_first HNO.out HYT.out (by show (y0 == c.client && decide (c.req ≤ y1)) = true; rw [z1]; simp; have h9 : c.req < y1 := (by simpa using z2); omega)))
         have HF := Lib.hid (show Fsm.apply s.data ix c.d = (({ s1 with index := ix } : StoreV).data, ⟨33, 0, []⟩) by rw [HDV.out]; exact Fsm.apply_old HASK.out HARG.out HFI.out (show c.req < y1 by simpa using z2))
         go_upto_region 11 with (first | go_skip | go_guarded)
         go_quiet (fail)
         have hd := (Ext.refl Nothing wr).drewN nq
         generalize wr.drewN nq = wq at hd ⊢
         have hxq := hxq.tr hd
         have c8 := hd.c0 c8
         have k0 := hd.c0 k0
         have k1 := hd.c0 k1
         have m1 := hd.c0 m1
         have m2 := hd.c0 m2
         clear hd
         go_upto_region 12 with (first | go_skip | go_guarded)
         have hBq := hB4.e0 hxq
         have hRq := hR4.e0 hxq
         have hEq := hE4.e0 hxq
         have hOq := hO4.keep0 hxq
         have hxwq := hxw4.tr hxq
         refine zH (S := fun q => q = (w.heap.size + 1 + 1) ∨ q = (w.heap.size + 1 + 1 + 1)) (by kernel_rfl) (fun Wd hd hd0 => ?_)
         refine zT 0 (.agg ({ s1 with index := ix } : StoreV).arr) rfl (by kernel_rfl) (by rfl) hd (fun _ _ _ h => h) ?_ ?_
         ·intro W' hS'
          exact run_load_blk rfl STStore (by go_simp) (hBq.ext hS' (by omega)) rfl
         simp only [Act.put, zA, zB, zC, zD, zE, zF]
         refine zO 1 (by kernel_rfl) ?_
         refine wpOp_call (f := 16) (args := #[.int .i64 33]) rfl (by rfl) (by go_simp) ((refNo 33 Wd).mono ?_)
         rintro e wn ⟨rfl, hxn⟩
         have hd1 := hd.trans hxn (fun _ _ e => e.elim)
         have hd01 := hd0.tr hxn
         refine ⟨_, rfl, hd1, ?_⟩
         simp only [Act.put, zA, zB, zC, zD, zE, zF]
         refine zO 2 (by kernel_rfl) ?_
         refine wpOp_store (p := (w.heap.size + 1 + 1)) (cs := ({ s1 with index := ix } : StoreV).arr) rfl (by rfl) rfl (by go_simp) (by go_simp) (hRq.e0 hd01) rfl STStore rfl rfl (fun w2 hR2 hx2 => ?_)
         have hd2 := hd1.trans hx2 (fun q hq e => .inl e)
         refine ⟨hd2, ?_⟩
         simp only [Act.put, zA, zB, zC, zD, zE, zF]
         refine zO 3 (by kernel_rfl) ?_
         refine wpOp_store (p := (w.heap.size + 1 + 1 + 1)) (cs := resArr 33 0) rfl (by rfl) rfl (by go_simp) (by go_simp) ((hEq.e0 hd01).ext hx2 (fun e => absurd (show (w.heap.size + 1 + 1 + 1) = (w.heap.size + 1 + 1) from e) (by omega))) rfl STResult rfl rfl (fun w3 hE3 hx3' => ?_)
         have hx3 := hd2.trans hx3' (fun q hq e => .inr e)
         have hR3 := hR2.ext hx3' (fun e => absurd (show (w.heap.size + 1 + 1) = (w.heap.size + 1 + 1 + 1) from e) (by omega))
         refine ⟨hx3, wpAnyH_done (by kernel_rfl) ?_ _⟩
         simp only [Act.put, zA, zB, zC, zD, zE, zF]
         go_wp2
         have hxx : Ext Nothing w w3 := hxwq.trans hx3 (fun b hb e => by omega)
         exact bodyPost_ret (results_cell2 rfl STStore STResult rfl rfl hR3 rfl hE3 rfl) rfl ⟨({ s1 with index := ix } : StoreV), ⟨33, 0, []⟩, .slice none 0 0, rfl, (hOq.keep hx3 (fun q e => by rcases e with rfl | rfl; exact ⟨_, _, hRq, by decide⟩; exact ⟨_, _, hEq, by decide⟩)).base hbase, HF.out, ResI.nil _ _, hxx⟩
        | false =>
         cases z3 : (y1 == c.req) with
         | true =>
          have hxr := Ext.refl Nothing wr
          have HFI := Lib.hid (show (s.data.seen).find? (fun x => x.client == c.d.client && decide (c.d.req ≤ x.req)) = some (⟨y0, y1, ⟨y2, y3, []⟩⟩ : SeenD) by rw [show s.data.seen = s1.seen.map (·.1) from (congrArg (fun z : StoreD => z.seen) HDV.out).symm, List.find?_map]; exact congrArg (Option.map (fun x : SeenV => x.1)) (show List.find? (fun y : SeenV => y.1.client == c.client && decide (c.req ≤ y.1.req)) s1.seen = some (⟨⟨y0, y1, ⟨y2, y3, []⟩⟩, .slice yA 0 yc⟩ : SeenV) from Fsm.find_first HNO.out HYT.out (by show (y0 == c.client && decide (c.req ≤ y1)) = true; rw [z1]; simp; have h9 : y1 = c.req := (by simpa using z3); omega)))
          have HF := Lib.hid (show Fsm.apply s.data ix c.d = (({ s1 with index := ix } : StoreV).data, ⟨y2, y3, []⟩) by rw [HDV.out]; exact Fsm.apply_same HASK.out HARG.out HFI.out (show ¬ c.req < y1 by simpa using z2))
          go_upto_region 11 with (first | go_skip | go_guarded)
          go_quiet (fail)
          have hd := (Ext.refl Nothing wr).drewN nq
          generalize wr.drewN nq = wq at hd ⊢
          have hxq := hxq.tr hd
          have hxr := hxr.tr hd
          have c8 := hd.c0 c8
          have k0 := hd.c0 k0
          have k1 := hd.c0 k1
          have m1 := hd.c0 m1
          have m2 := hd.c0 m2
          clear hd
          go_upto_region 13 with (first | go_skip | go_guarded)
          go_quiet (fail)
          have hd := (Ext.refl Nothing wq).drewN nq
          generalize wq.drewN nq = wv at hd ⊢
          have hxq := hxq.tr hd
          have hxr := hxr.tr hd
          have c8 := hd.c0 c8
          have k0 := hd.c0 k0
          have k1 := hd.c0 k1
          have m1 := hd.c0 m1
          have m2 := hd.c0 m2
          clear hd
          go_upto_region 14 with (first | go_skip | go_guarded)
          have hBq := hB4.e0 hxq
          have hRq := hR4.e0 hxq
          have hEq := hE4.e0 hxq
          have hOq := hO4.keep0 hxq
          have hxwq := hxw4.tr hxq
          have hxqr : Ext Nothing wr wv := hxr
          obtain ⟨cb, hcb⟩ := own_blk (v := .slice s1.AX s1.nX s1.cX) hO4.x (show (Value.slice s1.AX s1.nX s1.cX).ownBlock = some b by rw [HA.out]; rfl)
          have nbR : b ≠ (w.heap.size + 1 + 1) := Blk.ne hcb hR4 (by decide)
          have nbE : b ≠ (w.heap.size + 1 + 1 + 1) := Blk.ne hcb hE4 (by decide)
          have hzv := hxq.size
          have HR5 := Lib.hid (show ∀ j u, (#[.int .i64 y2, .int .i64 y3, .slice yA 0 yc] : Array Value).toList[j]? = some u → wv.cell? ⟨b, off + t * 5 + 2 + j, none⟩ = some u from fun j u hu => by have h9 := HCE.out (2 + j) u (by match j, hu with | 0, hu => exact hu | 1, hu => exact hu | 2, hu => exact hu | (n + 3), hu => simp at hu); rw [Nat.add_assoc (off + t * 5)]; exact hxqr.c0 h9)
          refine zH (S := fun q => q = (w.heap.size + 1 + 1) ∨ q = (w.heap.size + 1 + 1 + 1)) (by kernel_rfl) (fun Wd hd hd0 => ?_)
          refine zT 0 (.agg ({ s1 with index := ix } : StoreV).arr) rfl (by kernel_rfl) (by rfl) hd (fun _ _ _ h => h) ?_ ?_
          ·intro W' hS'
           exact run_load_blk rfl STStore (by go_simp) (hBq.ext hS' (by omega)) rfl
          refine zT 1 (.pointer (some ⟨w.heap.size, 8, none⟩)) rfl (by kernel_rfl) (by rfl) hd (fun _ _ _ h => h) ?_ ?_
          ·intro W' hS'
           go_simp
          refine zT 2 (.slice (some ⟨b, off, none⟩) s1.nX s1.cX) rfl (by kernel_rfl) (by rfl) hd (fun _ _ _ h => h) ?_ ?_
          ·intro W' hS'
           have q3 : W'.cell? ⟨w.heap.size, 8, none⟩ = some (.slice (some ⟨b, off, none⟩) s1.nX s1.cX) := hS'.cell c8 (by show ¬ (w.heap.size = _ ∨ w.heap.size = _); omega)
           go_simp
          refine zT 3 (.int .i64 (t : Int)) rfl (by kernel_rfl) (by rfl) hd (fun _ _ _ h => h) ?_ ?_
          ·intro W' hS'
           go_simp
          refine zT 4 (.pointer (some ⟨b, off + t * 5, none⟩)) rfl (by kernel_rfl) (by rfl) hd (fun _ _ _ h => h) ?_ ?_
          ·intro W' hS'
           go_simp
          refine zT 5 (.pointer (some ⟨b, off + t * 5 + 2, none⟩)) rfl (by kernel_rfl) (by rfl) hd (fun _ _ _ h => h) ?_ ?_
          ·intro W' hS'
           go_simp
          refine zT 6 (.agg #[.int .i64 y2, .int .i64 y3, .slice yA 0 yc]) rfl (by kernel_rfl) (by rfl) hd (fun _ _ _ h => h) ?_ ?_
          ·intro W' hS'
           exact run_load_struct (sz := 3) (b := b) (off := off + t * 5 + 2) rfl STResult (by go_simp) (fun j u hu => hS'.cell (HR5.out j u hu) (fun e => by rcases e with e | e; exact nbR e; exact nbE e)) rfl
          simp only [Act.put, zA, zB, zC, zD, zE, zF]
          refine zO 7 (by kernel_rfl) ?_
          refine wpOp_store (p := (w.heap.size + 1 + 1)) (cs := ({ s1 with index := ix } : StoreV).arr) rfl (by rfl) rfl (by go_simp) (by go_simp) (hRq.e0 hd0) rfl STStore rfl rfl (fun w2 hR2 hx2 => ?_)
          have hd2 := hd.trans hx2 (fun q hq e => .inl e)
          refine ⟨hd2, ?_⟩
          simp only [Act.put, zA, zB, zC, zD, zE, zF]
          refine zO 8 (by kernel_rfl) ?_
          refine wpOp_store (p := (w.heap.size + 1 + 1 + 1)) (cs := #[.int .i64 y2, .int .i64 y3, .slice yA 0 yc]) rfl (by rfl) rfl (by go_simp) (by go_simp) ((hEq.e0 hd0).ext hx2 (fun e => absurd (show (w.heap.size + 1 + 1 + 1) = (w.heap.size + 1 + 1) from e) (by omega))) rfl STResult rfl rfl (fun w3 hE3 hx3' => ?_)
          have hx3 := hd2.trans hx3' (fun q hq e => .inr e)
          have hR3 := hR2.ext hx3' (fun e => absurd (show (w.heap.size + 1 + 1) = (w.heap.size + 1 + 1 + 1) from e) (by omega))
          refine ⟨hx3, wpAnyH_done (by kernel_rfl) ?_ _⟩
          simp only [Act.put, zA, zB, zC, zD, zE, zF]
          go_wp2
          exact bodyPost_ret (results_cell2 rfl STStore STResult rfl rfl hR3 rfl hE3 rfl) rfl ⟨({ s1 with index := ix } : StoreV), ⟨y2, y3, []⟩, .slice yA 0 yc, rfl, (hOq.keep hx3 (fun q e => by rcases e with rfl | rfl; exact ⟨_, _, hRq, by decide⟩; exact ⟨_, _, hEq, by decide⟩)).base hbase, HF.out, ResI.nil' _ _ _ _, hxwq.trans hx3 (fun b hb e => by omega)⟩
         | false =>
          have HN1 := Lib.hid (show (s1.seen.take (t + 1)).find? (fun y : SeenV => y.1.client == c.client && decide (c.req ≤ y.1.req)) = none by rw [HNX.out, List.find?_append, HNO.out]; simp only [Option.none_or]; rw [List.find?_cons_of_neg (by show ¬ (y0 == c.client && decide (c.req ≤ y1)) = true; rw [z1]; simp at z2 z3 ⊢; omega)]; rfl)
          go_upto_region 11 with (first | go_skip | go_guarded)
          go_quiet (fail)
          have hd := (Ext.refl Nothing wr).drewN nq
          generalize wr.drewN nq = wq at hd ⊢
          have hxq := hxq.tr hd
          have c8 := hd.c0 c8
          have k0 := hd.c0 k0
          have k1 := hd.c0 k1
          have m1 := hd.c0 m1
          have m2 := hd.c0 m2
          clear hd
          go_upto_region 13 with (first | go_skip | go_guarded)
          go_quiet (fail)
          have hd := (Ext.refl Nothing wq).drewN nq
          generalize wq.drewN nq = wv at hd ⊢
          have hxq := hxq.tr hd
          have c8 := hd.c0 c8
          have k0 := hd.c0 k0
          have k1 := hd.c0 k1
          have m1 := hd.c0 m1
          have m2 := hd.c0 m2
          clear hd
          go_wp2_with (first | go_skip | go_guarded)
          go_roundw
          case rel => exact ⟨t + 1, HT.out, by go_num, HN1.out, hxq⟩
          case measure => have := HT.out; simp [intOf]; omega
      ·have hnl : ¬ ((t : Int) < s1.nX) := by omega
       have HNO := Lib.hid (show s1.seen.find? (fun y : SeenV => y.1.client == c.client && decide (c.req ≤ y.1.req)) = none by rw [List.take_of_length_le (by have := hxl.out; omega)] at hno; exact hno)
       have HFN := Lib.hid (show (s.data.seen).find? (fun x => x.client == c.d.client && decide (c.d.req ≤ x.req)) = none by rw [show s.data.seen = s1.seen.map (·.1) from (congrArg (fun z : StoreD => z.seen) HDV.out).symm, List.find?_map]; exact congrArg (Option.map (fun x : SeenV => x.1)) HNO.out)
       clear hno
       have hBr := hB4.e0 hx
       have hCr := hC4.e0 hx
       have hRr := hR4.e0 hx
       have hEr := hE4.e0 hx
       have hOr := hO4.keep0 hx
       have hcr := hc4.keep0 hx
       have hbr : W.heap.size ≤ wr.heap.size := Nat.le_trans hb4 hx.size
       have hxr := hxw4.tr hx
       go_upto_region 16 with (first | go_skip | go_guarded | ((with_reducible refine isW ?_); refine wpList_load_blk rfl 30 _ rfl STStore w.heap.size rfl ({ s1 with index := ix } : StoreV).arr (show Blk _ _ 30 _ from hBr) rfl ?_) | ((with_reducible refine isW ?_); refine wpList_load_blk rfl 51 _ rfl STCmd CC rfl c.arr (show Blk _ _ 51 _ from hCr) rfl ?_) | (go_at_call 15; (with_reducible refine (refCommand W.heap.size ({ s1 with index := ix } : StoreV) c wr hOr hcr hbr lJ lN lA lD lS lE).mono ?_); rintro e w5 ⟨s5, r5, rv, rfl, hO5, hF5, hres, hx5⟩; have HF5 := Lib.hid hF5; have hra : r5.allocs = [] := Fsm.command_none HASK.out hF5; (rw [hra] at hres); have HRA := Lib.hid hra; clear hF5 hra; obtain ⟨Av, cv, hrv, _⟩ := hres; (change rv = .slice Av 0 cv at hrv); subst hrv; have hB5 := hBr.kept hx5 (by decide); have hC5 := hCr.kept hx5 (by decide); have hR5 := hRr.kept hx5 (by decide); have hE5 := hEr.kept hx5 (by decide); have hz5 := hE5.lt) | ((with_reducible refine isW ?_); refine wpList_store_blk rfl 30 _ _ rfl STStore w.heap.size rfl s5.arr rfl (show Blk _ _ 30 _ from hB5.ext ((Ext.refl Nothing w5).alloc _) (fun e => e)) rfl rfl rfl ?_; intro w6 hBw6 hxw6) | ((with_reducible refine isW ?_); refine wpList_store_blk rfl 34 _ _ rfl STResult w5.heap.size rfl #[.int .i64 r5.code, .int .i64 r5.value, .slice Av 0 cv] rfl (show Blk _ _ 34 _ from (Blk.new w5 _ _).ext hxw6 (fun e => absurd (show w5.heap.size = w.heap.size from e) (by omega))) rfl rfl rfl ?_; intro w7 hEw7 hxw7))
       have hal5 : Ext Nothing w5 (w5.alloc (.cells #[.int .i64 0, .int .i64 0, .slice none 0 0] 34)) := (Ext.refl Nothing w5).alloc _
       have hT6 : Blk w6 w5.heap.size 34 #[.int .i64 0, .int .i64 0, .slice none 0 0] := (Blk.new w5 _ _).ext hxw6 (fun e => absurd (show w5.heap.size = w.heap.size from e) (by omega))
       have h57 : Ext (fun q => q = w.heap.size) w5 w6 := (hal5.mono (fun _ _ e => e.elim)).trans hxw6 (fun b hb e => e)
       have hO6 := (hO5.keep0 hal5).keep hxw6 (Apart.one (hB5.e0 hal5) (by decide))
       have hO7 := hO6.keep hxw7 (Apart.one hT6 (by decide))
       have hx57 : Ext (fun q => q = w.heap.size) w5 w7 := h57.trans hxw7 (fun b hb e => absurd (show b = w5.heap.size from e) (by omega))
       have hB7 := hBw6.ext hxw7 (fun e => absurd (show w.heap.size = w5.heap.size from e) (by omega))
       have hC7 := hC5.ext hx57 (fun e => absurd (show CC = w.heap.size from e) (by omega))
       have hR7 := hR5.ext hx57 (fun e => absurd (show (w.heap.size + 1 + 1) = w.heap.size from e) (by omega))
       have hE7 := hE5.ext hx57 (fun e => absurd (show (w.heap.size + 1 + 1 + 1) = w.heap.size from e) (by omega))
       have hxw7w : Ext Nothing w w7 := (hxr.trans hx5 (fun b hb e => absurd e.1 (by omega))).trans hx57 (fun b hb e => absurd (show b = w.heap.size from e) (by omega))
       have hz7 : w5.heap.size < w7.heap.size := hEw7.lt
       have hW7 : W.heap.size ≤ w7.heap.size := Nat.le_trans hbr (Nat.le_trans hx5.size hx57.size)
       have hlX := Fsm.command_seen HF5.out
       clear hOr hcr hbr hxr hBr hCr hRr hEr hB5 hC5 hR5 hE5 hx5 hx57 h57 hO5 hO6 hT6 hal5 hBw6 hxw6 hxw7 hB4 hC4 hR4 hE4 hO4 hc4 hb4 hxw4 q0 q1 q2 c8 hx hsx4
       generalize hTT : w5.heap.size = TT at hEw7 hz5 hz7 ⊢
       clear hTT
       have q1 : w7.cell? ⟨CC, 1, none⟩ = some (.int .i64 c.client) := hC7.cell 1
       have q2 : w7.cell? ⟨CC, 2, none⟩ = some (.int .i64 c.req) := hC7.cell 2
       go_upto_region 19 with (first | go_skip | go_guarded | ((with_reducible refine isW ?_); refine wpList_load_blk rfl 34 _ rfl STResult TT rfl #[.int .i64 r5.code, .int .i64 r5.value, .slice Av 0 cv] (show Blk _ _ 34 _ from hEw7) rfl ?_))
       have hx8 : Ext Nothing w7 (w7.alloc (.cells #[.int .i64 c.client, .int .i64 c.req, .int .i64 r5.code, .int .i64 r5.value, .slice Av 0 cv] 67)) := (Ext.refl Nothing w7).alloc _
       have hXW : Blk (w7.alloc (.cells #[.int .i64 c.client, .int .i64 c.req, .int .i64 r5.code, .int .i64 r5.value, .slice Av 0 cv] 67)) w7.heap.size 67 #[.int .i64 c.client, .int .i64 c.req, .int .i64 r5.code, .int .i64 r5.value, .slice Av 0 cv] := Blk.new _ _ _
       have hBW := hB7.e0 hx8
       have hTW := hEw7.e0 hx8
       have hRW := hR7.e0 hx8
       have hEW := hE7.e0 hx8
       have hOW := hO7.keep0 hx8
       have hxWw := hxw7w.tr hx8
       have hkW := hx8.c0 q1
       have hWLs := Nat.le_trans hW7 hx8.size
       clear q1 q2 hB7 hC7 hR7 hE7 hO7 hxw7w hEw7 hx8
       generalize hbx : w7.heap.size = bx at hXW hz7 ⊢
       generalize (w7.alloc (.cells #[.int .i64 c.client, .int .i64 c.req, .int .i64 r5.code, .int .i64 r5.value, .slice Av 0 cv] 67)) = wL at hXW hBW hTW hRW hEW hOW hxWw hkW hWLs ⊢
       clear hbx
       have hseW : Sl wL 5 s5.AX s5.nX (s5.seen.map SeenV.cells) := hOW.slX
       have hel := Lib.hid (show s5.nX = s5.seen.length from hOW.xl)
       have hlX5 : s5.seen.length ≤ 1048577 := by have h9 : s1.seen.length ≤ 1048576 := lX; have h8 : (s5.seen.map (·.1)).length ≤ (s1.seen.map (·.1)).length := hlX; simp only [List.length_map] at h8; omega
       clear hlX
       have HX5 := Lib.hid (show ∀ y ∈ s5.seen, ∃ A c, y.2 = .slice A 0 c ∧ y.1.answer.allocs = [] from hOW.xa)
       go_wp2
       go_loopw [9, 10, 12] (fun v7 v8 ki wr => ∃ t : Nat, t ≤ s5.nX ∧ ki = .int .i64 t ∧ ∃ (out : List SeenV) (pb : Bool) (A : Option Addr) (cc : Nat), (s5.seen.take t).foldl (Fsm.putS (fun x : SeenV => x.1.client) (⟨⟨c.client, c.req, ⟨r5.code, r5.value, []⟩⟩, .slice Av 0 cv⟩ : SeenV)) ([], false) = (out, pb) ∧ out.length ≤ t + 1 ∧ v7 = .slice A out.length cc ∧ v8 = .bool pb ∧ wr.ownsRow wL.heap.size 67 5 (.slice A out.length cc) out.length (out.flatMap SeenV.cells) ∧ Ext Nothing wL wr) (fun _ _ ki _ => s5.nX - (intOf ki).toNat)
       case atStart => exact ⟨0, Nat.zero_le _, rfl, [], false, none, 0, rfl, Nat.zero_le _, rfl, rfl, World.ownsRow_nil _ _ _ _, Ext.refl _ _⟩
       case round =>
        obtain ⟨t, ht, rfl, out, pb, A, cc, hz, hlen, rfl, rfl, hown, hx⟩ := hrel
        have hX := hXW.e0 hx
        have hzr := hx.size
        have c6 : wr.cell? ⟨w.heap.size, 8, none⟩ = some (.slice s5.AX s5.nX s5.cX) := (hBW.e0 hx).cell 8
        by_cases hlt : t < s5.nX
        ·obtain ⟨hjn, b, off, hAe, hce⟩ := hseW.get (Ext.refl Nothing wL) hlt
         have hst := Fsm.putS_take (key := (fun x : SeenV => x.1.client)) (x := (⟨⟨c.client, c.req, ⟨r5.code, r5.value, []⟩⟩, .slice Av 0 cv⟩ : SeenV)) s5.seen t hjn
         have hlen2 := Fsm.putS_len_take (key := (fun x : SeenV => x.1.client)) (x := (⟨⟨c.client, c.req, ⟨r5.code, r5.value, []⟩⟩, .slice Av 0 cv⟩ : SeenV)) s5.seen (t + 1)
         rw [hst, hz] at hlen2
         rw [hz] at hst
         have hyv := HX5.out (s5.seen[t]) (List.getElem_mem hjn)
         generalize s5.seen[t] = y at hce hst hlen2 hyv
         obtain ⟨⟨y0, y1, ⟨y2, y3, yl⟩⟩, yv⟩ := y
         obtain ⟨yA, yc, hyv, hyl⟩ := hyv
         change yv = _ at hyv
         change yl = _ at hyl
         subst hyv
         subst hyl
         rw [hAe] at c6
         have cW6 : wL.cell? ⟨w.heap.size, 8, none⟩ = some (.slice (some ⟨b, off, none⟩) s5.nX s5.cX) := by rw [← hAe]; exact hBW.cell 8
         clear hAe
         have hn1 : out.length < 67108864 := by have := hel.out; omega
         have hn2 : out.length + 1 < 67108864 := by have := hel.out; omega
         have hk0 : (0 : Int) ≤ (t : Int) := by omega
         have hk1 : (t : Int) < s5.nX := by omega
         have HT := Lib.hid hlt
         have HL := Lib.hid hlen2
         have HS := Lib.hid hst
         clear hz hst hlen2 hlen
         have k0 : wr.cell? ⟨b, off + t * 5, none⟩ = some (.int .i64 y0) := hx.cell (hce 0 _ rfl) (fun e => e)
         have hxk : wr.cell? ⟨CC, 1, none⟩ = some (.int .i64 c.client) := hx.c0 hkW
         have hceR : ∀ j u, (SeenV.cells (⟨⟨y0, y1, ⟨y2, y3, []⟩⟩, .slice yA 0 yc⟩ : SeenV))[j]? = some u → wr.cell? ⟨b, off + t * 5 + j, none⟩ = some u := fun j u hu => hx.cell (hce j u hu) (fun e => e)
         cases pb with
         | true =>
          by_cases he : y0 = c.client
          ·have hne : (y0 != c.client) = false := by simpa using he
           go_wp2_with (first | go_skip | go_guarded)
           go_quiet (fail)
           have hd := (Ext.refl Nothing wr).drewN nq
           generalize wr.drewN nq = wq at hd ⊢
           have hx := hx.tr hd
           have hown := own_ext hown hd (fun _ _ e => e)
           have hX := hX.e0 hd
           have hzr := hx.size
           have k0 := hd.c0 k0
           have hxk := hd.c0 hxk
           have hceR : ∀ j u, (SeenV.cells (⟨⟨y0, y1, ⟨y2, y3, []⟩⟩, .slice yA 0 yc⟩ : SeenV))[j]? = some u → wq.cell? ⟨b, off + t * 5 + j, none⟩ = some u := fun j u hu => hd.cell (hceR j u hu) (fun e => e)
           have c6 := hd.c0 c6
           clear hd
           go_wp2_with (first | go_skip | go_guarded)
           go_quiet (fail)
           have hd := (Ext.refl Nothing wq).drewN nq
           generalize wq.drewN nq = wv at hd ⊢
           have hx := hx.tr hd
           have hown := own_ext hown hd (fun _ _ e => e)
           have hX := hX.e0 hd
           have hzr := hx.size
           have k0 := hd.c0 k0
           have hxk := hd.c0 hxk
           have hceR : ∀ j u, (SeenV.cells (⟨⟨y0, y1, ⟨y2, y3, []⟩⟩, .slice yA 0 yc⟩ : SeenV))[j]? = some u → wv.cell? ⟨b, off + t * 5 + j, none⟩ = some u := fun j u hu => hd.cell (hceR j u hu) (fun e => e)
           have c6 := hd.c0 c6
           clear hd
           go_wp2_with (first | go_skip | go_guarded)
           go_roundw
           case rel => exact ⟨t + 1, HT.out, by go_num, out, true, A, cc, HS.out.trans (by simp [Fsm.putS, he]), by have := HL.out; simpa [Fsm.putS, he] using this, by simp, rfl, hown, hx⟩
           case measure => have := HT.out; simp [intOf]; omega
          ·have hne : (y0 != c.client) = true := by simpa using he
           go_wp2_with (first | go_skip | go_guarded)
           go_quiet (fail)
           have hd := (Ext.refl Nothing wr).drewN nq
           generalize wr.drewN nq = wq at hd ⊢
           have hx := hx.tr hd
           have hown := own_ext hown hd (fun _ _ e => e)
           have hX := hX.e0 hd
           have hzr := hx.size
           have k0 := hd.c0 k0
           have hxk := hd.c0 hxk
           have hceR : ∀ j u, (SeenV.cells (⟨⟨y0, y1, ⟨y2, y3, []⟩⟩, .slice yA 0 yc⟩ : SeenV))[j]? = some u → wq.cell? ⟨b, off + t * 5 + j, none⟩ = some u := fun j u hu => hd.cell (hceR j u hu) (fun e => e)
           have c6 := hd.c0 c6
           clear hd
           go_wp2_with (first | go_skip | go_guarded)
           go_quiet (fail)
           have hd := (Ext.refl Nothing wq).drewN nq
           generalize wq.drewN nq = wv at hd ⊢
           have hx := hx.tr hd
           have hown := own_ext hown hd (fun _ _ e => e)
           have hX := hX.e0 hd
           have hzr := hx.size
           have k0 := hd.c0 k0
           have hxk := hd.c0 hxk
           have hceR : ∀ j u, (SeenV.cells (⟨⟨y0, y1, ⟨y2, y3, []⟩⟩, .slice yA 0 yc⟩ : SeenV))[j]? = some u → wv.cell? ⟨b, off + t * 5 + j, none⟩ = some u := fun j u hu => hd.cell (hceR j u hu) (fun e => e)
           have c6 := hd.c0 c6
           clear hd
           go_wp2_with (first | go_skip | go_guarded | ((with_reducible refine isW ?_); refine wpList_load_at rfl 67 _ rfl STSeen b (off + t * 5) rfl #[.int .i64 y0, .int .i64 y1, .int .i64 y2, .int .i64 y3, .slice yA 0 yc] (by first | exact hce2 | exact hceR) rfl ?_) | ((with_reducible refine isW2 ?_); refine wpList_push rfl rfl 28 _ rfl _ _ rfl SRSeen #[.int .i64 y0, .int .i64 y1, .int .i64 y2, .int .i64 y3, .slice yA 0 yc] rfl rfl wL.heap.size (.slice A out.length cc) (out.length) (out.flatMap SeenV.cells) rfl rfl hown rfl hn1 hzr ?_; intro A1 c1 wa owna hxa; have hwa : Ext Nothing wL wa := hx.trans hxa (fun q hq e => absurd (own_ge hown e) (by omega))))
           go_roundw
           case rel => exact ⟨t + 1, HT.out, by go_num, out ++ [(⟨⟨y0, y1, ⟨y2, y3, []⟩⟩, .slice yA 0 yc⟩ : SeenV)], true, A1, c1, HS.out.trans (by simp [Fsm.putS, he]), by have := HL.out; simpa [Fsm.putS, he] using this, by simp, rfl, own_snoc owna rfl rfl, hwa⟩
           case measure => have := HT.out; simp [intOf]; omega
         | false =>
          by_cases hge : c.client ≤ y0
          ·have hge2 : decide (c.client ≤ y0) = true := by simpa using hge
           by_cases he : y0 = c.client
           ·have hne : (y0 != c.client) = false := by simpa using he
            go_wp2_with (first | go_skip | go_guarded)
            go_quiet (fail)
            have hd := (Ext.refl Nothing wr).drewN nq
            generalize wr.drewN nq = wq at hd ⊢
            have hx := hx.tr hd
            have hown := own_ext hown hd (fun _ _ e => e)
            have hX := hX.e0 hd
            have hzr := hx.size
            have k0 := hd.c0 k0
            have hxk := hd.c0 hxk
            have hceR : ∀ j u, (SeenV.cells (⟨⟨y0, y1, ⟨y2, y3, []⟩⟩, .slice yA 0 yc⟩ : SeenV))[j]? = some u → wq.cell? ⟨b, off + t * 5 + j, none⟩ = some u := fun j u hu => hd.cell (hceR j u hu) (fun e => e)
            have c6 := hd.c0 c6
            clear hd
            go_wp2_with (first | go_skip | go_guarded | ((with_reducible refine isW ?_); refine wpList_load_blk rfl 67 _ rfl STSeen bx rfl #[.int .i64 c.client, .int .i64 c.req, .int .i64 r5.code, .int .i64 r5.value, .slice Av 0 cv] (show Blk _ _ 67 _ from by first | exact hX2 | exact hX) rfl ?_) | ((with_reducible refine isW2 ?_); refine wpList_push rfl rfl 28 _ rfl _ _ rfl SRSeen #[.int .i64 c.client, .int .i64 c.req, .int .i64 r5.code, .int .i64 r5.value, .slice Av 0 cv] rfl rfl wL.heap.size (.slice A out.length cc) (out.length) (out.flatMap SeenV.cells) rfl rfl hown rfl hn1 hzr ?_; intro A1 c1 wa owna hxa; have hwa : Ext Nothing wL wa := hx.trans hxa (fun q hq e => absurd (own_ge hown e) (by omega)); have hX2 := hXW.e0 hwa; have hza := hwa.size; have c62 : wa.cell? ⟨w.heap.size, 8, none⟩ = some (.slice (some ⟨b, off, none⟩) s5.nX s5.cX) := hwa.c0 cW6; have hxk2 : wa.cell? ⟨CC, 1, none⟩ = some (.int .i64 c.client) := hwa.c0 hkW; have k02 : wa.cell? ⟨b, off + t * 5, none⟩ = some (.int .i64 y0) := hwa.cell (hce 0 _ rfl) (fun e => e); have hce2 : ∀ j u, (SeenV.cells (⟨⟨y0, y1, ⟨y2, y3, []⟩⟩, .slice yA 0 yc⟩ : SeenV))[j]? = some u → wa.cell? ⟨b, off + t * 5 + j, none⟩ = some u := fun j u hu => hwa.cell (hce j u hu) (fun e => e)))
            go_quiet (fail)
            have hd := (Ext.refl Nothing wa).drewN nq
            generalize wa.drewN nq = wv at hd ⊢
            have hwa := hwa.tr hd
            have owna := own_ext owna hd (fun _ _ e => e)
            have hX2 := hX2.e0 hd
            have hza := hwa.size
            have k02 := hd.c0 k02
            have hxk2 := hd.c0 hxk2
            have hce2 : ∀ j u, (SeenV.cells (⟨⟨y0, y1, ⟨y2, y3, []⟩⟩, .slice yA 0 yc⟩ : SeenV))[j]? = some u → wv.cell? ⟨b, off + t * 5 + j, none⟩ = some u := fun j u hu => hd.cell (hce2 j u hu) (fun e => e)
            have c62 := hd.c0 c62
            clear hd
            go_wp2_with (first | go_skip | go_guarded)
            go_roundw
            case rel => exact ⟨t + 1, HT.out, by go_num, out ++ [(⟨⟨c.client, c.req, ⟨r5.code, r5.value, []⟩⟩, .slice Av 0 cv⟩ : SeenV)], true, A1, c1, HS.out.trans (by simp [Fsm.putS, he]), by have := HL.out; simpa [Fsm.putS, he] using this, by simp, rfl, own_snoc owna rfl rfl, hwa⟩
            case measure => have := HT.out; simp [intOf]; omega
           ·have hne : (y0 != c.client) = true := by simpa using he
            go_wp2_with (first | go_skip | go_guarded)
            go_quiet (fail)
            have hd := (Ext.refl Nothing wr).drewN nq
            generalize wr.drewN nq = wq at hd ⊢
            have hx := hx.tr hd
            have hown := own_ext hown hd (fun _ _ e => e)
            have hX := hX.e0 hd
            have hzr := hx.size
            have k0 := hd.c0 k0
            have hxk := hd.c0 hxk
            have hceR : ∀ j u, (SeenV.cells (⟨⟨y0, y1, ⟨y2, y3, []⟩⟩, .slice yA 0 yc⟩ : SeenV))[j]? = some u → wq.cell? ⟨b, off + t * 5 + j, none⟩ = some u := fun j u hu => hd.cell (hceR j u hu) (fun e => e)
            have c6 := hd.c0 c6
            clear hd
            go_wp2_with (first | go_skip | go_guarded | ((with_reducible refine isW ?_); refine wpList_load_blk rfl 67 _ rfl STSeen bx rfl #[.int .i64 c.client, .int .i64 c.req, .int .i64 r5.code, .int .i64 r5.value, .slice Av 0 cv] (show Blk _ _ 67 _ from by first | exact hX2 | exact hX) rfl ?_) | ((with_reducible refine isW2 ?_); refine wpList_push rfl rfl 28 _ rfl _ _ rfl SRSeen #[.int .i64 c.client, .int .i64 c.req, .int .i64 r5.code, .int .i64 r5.value, .slice Av 0 cv] rfl rfl wL.heap.size (.slice A out.length cc) (out.length) (out.flatMap SeenV.cells) rfl rfl hown rfl hn1 hzr ?_; intro A1 c1 wa owna hxa; have hwa : Ext Nothing wL wa := hx.trans hxa (fun q hq e => absurd (own_ge hown e) (by omega)); have hX2 := hXW.e0 hwa; have hza := hwa.size; have c62 : wa.cell? ⟨w.heap.size, 8, none⟩ = some (.slice (some ⟨b, off, none⟩) s5.nX s5.cX) := hwa.c0 cW6; have hxk2 : wa.cell? ⟨CC, 1, none⟩ = some (.int .i64 c.client) := hwa.c0 hkW; have k02 : wa.cell? ⟨b, off + t * 5, none⟩ = some (.int .i64 y0) := hwa.cell (hce 0 _ rfl) (fun e => e); have hce2 : ∀ j u, (SeenV.cells (⟨⟨y0, y1, ⟨y2, y3, []⟩⟩, .slice yA 0 yc⟩ : SeenV))[j]? = some u → wa.cell? ⟨b, off + t * 5 + j, none⟩ = some u := fun j u hu => hwa.cell (hce j u hu) (fun e => e)))
            go_quiet (fail)
            have hd := (Ext.refl Nothing wa).drewN nq
            generalize wa.drewN nq = wv at hd ⊢
            have hwa := hwa.tr hd
            have owna := own_ext owna hd (fun _ _ e => e)
            have hX2 := hX2.e0 hd
            have hza := hwa.size
            have k02 := hd.c0 k02
            have hxk2 := hd.c0 hxk2
            have hce2 : ∀ j u, (SeenV.cells (⟨⟨y0, y1, ⟨y2, y3, []⟩⟩, .slice yA 0 yc⟩ : SeenV))[j]? = some u → wv.cell? ⟨b, off + t * 5 + j, none⟩ = some u := fun j u hu => hd.cell (hce2 j u hu) (fun e => e)
            have c62 := hd.c0 c62
            clear hd
            go_wp2_with (first | go_skip | go_guarded | ((with_reducible refine isW ?_); refine wpList_load_at rfl 67 _ rfl STSeen b (off + t * 5) rfl #[.int .i64 y0, .int .i64 y1, .int .i64 y2, .int .i64 y3, .slice yA 0 yc] (by first | exact hce2 | exact hceR) rfl ?_) | ((with_reducible refine isW2 ?_); refine wpList_push rfl rfl 28 _ rfl _ _ rfl SRSeen #[.int .i64 y0, .int .i64 y1, .int .i64 y2, .int .i64 y3, .slice yA 0 yc] rfl rfl wL.heap.size (.slice A1 (out.length + 1) c1) (out.length + 1) (out.flatMap SeenV.cells ++ #[.int .i64 c.client, .int .i64 c.req, .int .i64 r5.code, .int .i64 r5.value, .slice Av 0 cv].toList) rfl rfl owna rfl hn2 hza ?_; intro A2 c2 wb ownb hxb))
            go_roundw
            case rel => exact ⟨t + 1, HT.out, by go_num, out ++ [(⟨⟨c.client, c.req, ⟨r5.code, r5.value, []⟩⟩, .slice Av 0 cv⟩ : SeenV)] ++ [(⟨⟨y0, y1, ⟨y2, y3, []⟩⟩, .slice yA 0 yc⟩ : SeenV)], true, A2, c2, HS.out.trans (by simp [Fsm.putS, he, hge]), by have := HL.out; simpa [Fsm.putS, he, hge] using this, by simp, rfl, own_snoc2 ownb rfl rfl rfl, hwa.trans hxb (fun q hq e => absurd (own_ge owna e) (by omega))⟩
            case measure => have := HT.out; simp [intOf]; omega
          ·have he : ¬ y0 = c.client := by omega
           have hne : (y0 != c.client) = true := by simpa using he
           have hge2 : decide (c.client ≤ y0) = false := by simpa using hge
           have HG := Lib.hid hge
           go_wp2_with (first | go_skip | go_guarded)
           go_quiet (fail)
           have hd := (Ext.refl Nothing wr).drewN nq
           generalize wr.drewN nq = wq at hd ⊢
           have hx := hx.tr hd
           have hown := own_ext hown hd (fun _ _ e => e)
           have hX := hX.e0 hd
           have hzr := hx.size
           have k0 := hd.c0 k0
           have hxk := hd.c0 hxk
           have hceR : ∀ j u, (SeenV.cells (⟨⟨y0, y1, ⟨y2, y3, []⟩⟩, .slice yA 0 yc⟩ : SeenV))[j]? = some u → wq.cell? ⟨b, off + t * 5 + j, none⟩ = some u := fun j u hu => hd.cell (hceR j u hu) (fun e => e)
           have c6 := hd.c0 c6
           clear hd
           go_wp2_with (first | go_skip | go_guarded)
           go_quiet (fail)
           have hd := (Ext.refl Nothing wq).drewN nq
           generalize wq.drewN nq = wv at hd ⊢
           have hx := hx.tr hd
           have hown := own_ext hown hd (fun _ _ e => e)
           have hX := hX.e0 hd
           have hzr := hx.size
           have k0 := hd.c0 k0
           have hxk := hd.c0 hxk
           have hceR : ∀ j u, (SeenV.cells (⟨⟨y0, y1, ⟨y2, y3, []⟩⟩, .slice yA 0 yc⟩ : SeenV))[j]? = some u → wv.cell? ⟨b, off + t * 5 + j, none⟩ = some u := fun j u hu => hd.cell (hceR j u hu) (fun e => e)
           have c6 := hd.c0 c6
           clear hd
           go_wp2_with (first | go_skip | go_guarded | ((with_reducible refine isW ?_); refine wpList_load_at rfl 67 _ rfl STSeen b (off + t * 5) rfl #[.int .i64 y0, .int .i64 y1, .int .i64 y2, .int .i64 y3, .slice yA 0 yc] (by first | exact hce2 | exact hceR) rfl ?_) | ((with_reducible refine isW2 ?_); refine wpList_push rfl rfl 28 _ rfl _ _ rfl SRSeen #[.int .i64 y0, .int .i64 y1, .int .i64 y2, .int .i64 y3, .slice yA 0 yc] rfl rfl wL.heap.size (.slice A out.length cc) (out.length) (out.flatMap SeenV.cells) rfl rfl hown rfl hn1 hzr ?_; intro A1 c1 wa owna hxa; have hwa : Ext Nothing wL wa := hx.trans hxa (fun q hq e => absurd (own_ge hown e) (by omega))))
           go_roundw
           case rel => exact ⟨t + 1, HT.out, by go_num, out ++ [(⟨⟨y0, y1, ⟨y2, y3, []⟩⟩, .slice yA 0 yc⟩ : SeenV)], false, A1, c1, HS.out.trans (by simp [Fsm.putS, he, HG.out]), by have := HL.out; simpa [Fsm.putS, he, HG.out, hge2] using this, by simp, rfl, own_snoc owna rfl rfl, hwa⟩
           case measure => have := HT.out; simp [intOf]; omega
        ·have hzz : (s5.seen.take t) = s5.seen := List.take_of_length_le (by have := hel.out; omega)
         rw [hzz] at hz
         have hfin := Fsm.put_fold (key := (fun x : SeenV => x.1.client)) (x := (⟨⟨c.client, c.req, ⟨r5.code, r5.value, []⟩⟩, .slice Av 0 cv⟩ : SeenV)) s5.seen []
         rw [hz, List.nil_append] at hfin
         have HF := Lib.hid hfin
         have hol : out.length < 67108864 := by have := hel.out; omega
         have hnl : ¬ ((t : Int) < s5.nX) := by omega
         clear hz hfin hzz
         have HAN := Lib.hid (show Fsm.apply s.data ix c.d = ({ s5.data with seen := Fsm.putL SeenD.client ⟨c.client, c.req, r5⟩ s5.data.seen }, r5) from Fsm.apply_new HASK.out HARG.out HFN.out (z := (s5.data, r5)) (by rw [← HDV.out]; exact HF5.out))
         have hWL : W.heap.size ≤ wL.heap.size := hWLs
         cases pb with
         | true =>
          have hxL := hx
          have hB8 := hBW.e0 hxL
          have c8 : wr.cell? ⟨w.heap.size, 8, none⟩ = some (.slice s5.AX s5.nX s5.cX) := hB8.cell 8
          have c8f : wr.frozen? ⟨w.heap.size, 8, none⟩ = false := hB8.frozen 8
          have hs9 : Ext (fun b => b = w.heap.size) wr (wr.setCell ⟨w.heap.size, 8, none⟩ (.slice A (out.length) cc)) := Ext.set1 _ _ _ _
          have hB9 : Blk (wr.setCell ⟨w.heap.size, 8, none⟩ (.slice A (out.length) cc)) w.heap.size 30 ({ s5 with AX := A, nX := out.length, cX := cc, seen := out } : StoreV).arr := hB8.set_ 8 _
          go_upto_region 30 with (first | go_skip | go_guarded)
          have hxL9 : Ext (fun b => b = w.heap.size) wL (wr.setCell ⟨w.heap.size, 8, none⟩ (.slice A (out.length) cc)) := (hxL.mono (fun _ _ e => e.elim)).trans hs9 (fun b hb e => e)
          have hT9 := hTW.ext hxL9 (fun e => absurd (show TT = w.heap.size from e) (by omega))
          have hR9 := hRW.ext hxL9 (fun e => absurd (show (w.heap.size + 1 + 1) = w.heap.size from e) (by omega))
          have hE9 := hEW.ext hxL9 (fun e => absurd (show (w.heap.size + 1 + 1 + 1) = w.heap.size from e) (by omega))
          have hx9 : Ext Nothing w (wr.setCell ⟨w.heap.size, 8, none⟩ (.slice A (out.length) cc)) := hxWw.trans hxL9 (fun b hb e => absurd (show b = w.heap.size from e) (by omega))
          have hF : Fsm.putL (fun x : SeenV => x.1.client) (⟨⟨c.client, c.req, ⟨r5.code, r5.value, []⟩⟩, .slice Av 0 cv⟩ : SeenV) s5.seen = out := HF.out.symm
          have hll : (out).length = out.length := rfl
          have hO9 := ((hOW.keep0 hxL).wX (Ext.refl Nothing _) Apart.none (A := A) (c := cc) (l := out) (own_base (by rw [hll]; exact hown) hWL) (by rw [← hF]; exact Fsm.putL_all (P := fun y : SeenV => ∃ A c, y.2 = .slice A 0 c ∧ y.1.answer.allocs = []) HX5.out ⟨Av, cv, rfl, rfl⟩)).keep hs9 (Apart.one hB8 (by decide))
          have he : ({ s5 with AX := A, nX := out.length, cX := cc, seen := out } : StoreV) = s5.setX A cc (out) := by simp only [StoreV.setX, hll]
          have HE9 := Lib.hid he
          have HF9 := Lib.hid hF
          clear he hF hll
          generalize (wr.setCell ⟨w.heap.size, 8, none⟩ (.slice A (out.length) cc)) = w9 at hB9 hT9 hR9 hE9 hx9 hO9 ⊢
          refine zH (S := fun q => q = (w.heap.size + 1 + 1) ∨ q = (w.heap.size + 1 + 1 + 1)) (by kernel_rfl) (fun Wd hd hd0 => ?_)
          refine zT 0 (.agg ({ s5 with AX := A, nX := out.length, cX := cc, seen := out } : StoreV).arr) rfl (by kernel_rfl) (by rfl) hd (fun _ _ _ h => h) ?_ ?_
          ·intro W' hS'
           exact run_load_blk rfl STStore (by go_simp) (hB9.ext hS' (by omega)) rfl
          refine zT 1 (.agg #[.int .i64 r5.code, .int .i64 r5.value, .slice Av 0 cv]) rfl (by kernel_rfl) (by rfl) hd (fun _ _ _ h => h) ?_ ?_
          ·intro W' hS'
           exact run_load_blk rfl STResult (by go_simp) (hT9.ext hS' (by omega)) rfl
          simp only [Act.put, zA, zB, zC, zD, zE, zF]
          refine zO 2 (by kernel_rfl) ?_
          refine wpOp_store (p := (w.heap.size + 1 + 1)) (cs := ({ s5 with AX := A, nX := out.length, cX := cc, seen := out } : StoreV).arr) rfl (by rfl) rfl (by go_simp) (by go_simp) (hR9.e0 hd0) rfl STStore rfl rfl (fun w2 hR2 hx2 => ?_)
          have hd2 := hd.trans hx2 (fun q hq e => .inl e)
          refine ⟨hd2, ?_⟩
          simp only [Act.put, zA, zB, zC, zD, zE, zF]
          refine zO 3 (by kernel_rfl) ?_
          refine wpOp_store (p := (w.heap.size + 1 + 1 + 1)) (cs := #[.int .i64 r5.code, .int .i64 r5.value, .slice Av 0 cv]) rfl (by rfl) rfl (by go_simp) (by go_simp) ((hE9.e0 hd0).ext hx2 (fun e => absurd (show (w.heap.size + 1 + 1 + 1) = (w.heap.size + 1 + 1) from e) (by omega))) rfl STResult rfl rfl (fun w3 hE3 hx3' => ?_)
          have hx3 := hd2.trans hx3' (fun q hq e => .inr e)
          have hR3 := hR2.ext hx3' (fun e => absurd (show (w.heap.size + 1 + 1) = (w.heap.size + 1 + 1 + 1) from e) (by omega))
          refine ⟨hx3, wpAnyH_done (by kernel_rfl) ?_ _⟩
          simp only [Act.put, zA, zB, zC, zD, zE, zF]
          go_wp2
          exact bodyPost_ret (results_cell2 rfl STStore STResult rfl rfl hR3 rfl hE3 rfl) rfl ⟨({ s5 with AX := A, nX := out.length, cX := cc, seen := out } : StoreV), r5, .slice Av 0 cv, rfl, by rw [HE9.out]; exact (hO9.keep hx3 (fun q e => by rcases e with rfl | rfl; exact ⟨_, _, hR9, by decide⟩; exact ⟨_, _, hE9, by decide⟩)).base hbase, seen_put (HAN.out) HRA.out HF9.out, by rw [HRA.out]; exact ResI.nil' _ _ _ _, hx9.trans hx3 (fun b hb e => by omega)⟩
         | false =>
          go_upto_region 30 with (first | go_skip | go_guarded | ((with_reducible refine isW ?_); refine wpList_load_blk rfl 67 _ rfl STSeen bx rfl #[.int .i64 c.client, .int .i64 c.req, .int .i64 r5.code, .int .i64 r5.value, .slice Av 0 cv] (show Blk _ _ 67 _ from hX) rfl ?_) | ((with_reducible refine isW2 ?_); refine wpList_push rfl rfl 28 _ rfl _ _ rfl SRSeen #[.int .i64 c.client, .int .i64 c.req, .int .i64 r5.code, .int .i64 r5.value, .slice Av 0 cv] rfl rfl wL.heap.size (.slice A out.length cc) (out.length) (out.flatMap SeenV.cells) rfl rfl hown rfl hol hzr ?_; intro A1 c1 wa owna hxa; have hxL : Ext Nothing wL wa := hx.trans hxa (fun q hq e => absurd (own_ge hown e) (by omega)); have hB8 := hBW.e0 hxL; have c8 : wa.cell? ⟨w.heap.size, 8, none⟩ = some (.slice s5.AX s5.nX s5.cX) := hB8.cell 8; have c8f : wa.frozen? ⟨w.heap.size, 8, none⟩ = false := hB8.frozen 8))
          have hs9 : Ext (fun b => b = w.heap.size) wa (wa.setCell ⟨w.heap.size, 8, none⟩ (.slice A1 (out.length + 1) c1)) := Ext.set1 _ _ _ _
          have hB9 : Blk (wa.setCell ⟨w.heap.size, 8, none⟩ (.slice A1 (out.length + 1) c1)) w.heap.size 30 ({ s5 with AX := A1, nX := out.length + 1, cX := c1, seen := out ++ [(⟨⟨c.client, c.req, ⟨r5.code, r5.value, []⟩⟩, .slice Av 0 cv⟩ : SeenV)] } : StoreV).arr := hB8.set_ 8 _
          have hxL9 : Ext (fun b => b = w.heap.size) wL (wa.setCell ⟨w.heap.size, 8, none⟩ (.slice A1 (out.length + 1) c1)) := (hxL.mono (fun _ _ e => e.elim)).trans hs9 (fun b hb e => e)
          have hT9 := hTW.ext hxL9 (fun e => absurd (show TT = w.heap.size from e) (by omega))
          have hR9 := hRW.ext hxL9 (fun e => absurd (show (w.heap.size + 1 + 1) = w.heap.size from e) (by omega))
          have hE9 := hEW.ext hxL9 (fun e => absurd (show (w.heap.size + 1 + 1 + 1) = w.heap.size from e) (by omega))
          have hx9 : Ext Nothing w (wa.setCell ⟨w.heap.size, 8, none⟩ (.slice A1 (out.length + 1) c1)) := hxWw.trans hxL9 (fun b hb e => absurd (show b = w.heap.size from e) (by omega))
          have hF : Fsm.putL (fun x : SeenV => x.1.client) (⟨⟨c.client, c.req, ⟨r5.code, r5.value, []⟩⟩, .slice Av 0 cv⟩ : SeenV) s5.seen = out ++ [(⟨⟨c.client, c.req, ⟨r5.code, r5.value, []⟩⟩, .slice Av 0 cv⟩ : SeenV)] := HF.out.symm
          have hll : (out ++ [(⟨⟨c.client, c.req, ⟨r5.code, r5.value, []⟩⟩, .slice Av 0 cv⟩ : SeenV)]).length = out.length + 1 := by simp
          have hO9 := ((hOW.keep0 hxL).wX (Ext.refl Nothing _) Apart.none (A := A1) (c := c1) (l := out ++ [(⟨⟨c.client, c.req, ⟨r5.code, r5.value, []⟩⟩, .slice Av 0 cv⟩ : SeenV)]) (own_base (by rw [hll]; exact (by have o := own_snoc (x := (⟨⟨c.client, c.req, ⟨r5.code, r5.value, []⟩⟩, .slice Av 0 cv⟩ : SeenV)) owna rfl rfl; simpa using o)) hWL) (by rw [← hF]; exact Fsm.putL_all (P := fun y : SeenV => ∃ A c, y.2 = .slice A 0 c ∧ y.1.answer.allocs = []) HX5.out ⟨Av, cv, rfl, rfl⟩)).keep hs9 (Apart.one hB8 (by decide))
          have he : ({ s5 with AX := A1, nX := out.length + 1, cX := c1, seen := out ++ [(⟨⟨c.client, c.req, ⟨r5.code, r5.value, []⟩⟩, .slice Av 0 cv⟩ : SeenV)] } : StoreV) = s5.setX A1 c1 (out ++ [(⟨⟨c.client, c.req, ⟨r5.code, r5.value, []⟩⟩, .slice Av 0 cv⟩ : SeenV)]) := by simp only [StoreV.setX, hll]
          have HE9 := Lib.hid he
          have HF9 := Lib.hid hF
          clear he hF hll
          generalize (wa.setCell ⟨w.heap.size, 8, none⟩ (.slice A1 (out.length + 1) c1)) = w9 at hB9 hT9 hR9 hE9 hx9 hO9 ⊢
          refine zH (S := fun q => q = (w.heap.size + 1 + 1) ∨ q = (w.heap.size + 1 + 1 + 1)) (by kernel_rfl) (fun Wd hd hd0 => ?_)
          refine zT 0 (.agg ({ s5 with AX := A1, nX := out.length + 1, cX := c1, seen := out ++ [(⟨⟨c.client, c.req, ⟨r5.code, r5.value, []⟩⟩, .slice Av 0 cv⟩ : SeenV)] } : StoreV).arr) rfl (by kernel_rfl) (by rfl) hd (fun _ _ _ h => h) ?_ ?_
          ·intro W' hS'
           exact run_load_blk rfl STStore (by go_simp) (hB9.ext hS' (by omega)) rfl
          refine zT 1 (.agg #[.int .i64 r5.code, .int .i64 r5.value, .slice Av 0 cv]) rfl (by kernel_rfl) (by rfl) hd (fun _ _ _ h => h) ?_ ?_
          ·intro W' hS'
           exact run_load_blk rfl STResult (by go_simp) (hT9.ext hS' (by omega)) rfl
          simp only [Act.put, zA, zB, zC, zD, zE, zF]
          refine zO 2 (by kernel_rfl) ?_
          refine wpOp_store (p := (w.heap.size + 1 + 1)) (cs := ({ s5 with AX := A1, nX := out.length + 1, cX := c1, seen := out ++ [(⟨⟨c.client, c.req, ⟨r5.code, r5.value, []⟩⟩, .slice Av 0 cv⟩ : SeenV)] } : StoreV).arr) rfl (by rfl) rfl (by go_simp) (by go_simp) (hR9.e0 hd0) rfl STStore rfl rfl (fun w2 hR2 hx2 => ?_)
          have hd2 := hd.trans hx2 (fun q hq e => .inl e)
          refine ⟨hd2, ?_⟩
          simp only [Act.put, zA, zB, zC, zD, zE, zF]
          refine zO 3 (by kernel_rfl) ?_
          refine wpOp_store (p := (w.heap.size + 1 + 1 + 1)) (cs := #[.int .i64 r5.code, .int .i64 r5.value, .slice Av 0 cv]) rfl (by rfl) rfl (by go_simp) (by go_simp) ((hE9.e0 hd0).ext hx2 (fun e => absurd (show (w.heap.size + 1 + 1 + 1) = (w.heap.size + 1 + 1) from e) (by omega))) rfl STResult rfl rfl (fun w3 hE3 hx3' => ?_)
          have hx3 := hd2.trans hx3' (fun q hq e => .inr e)
          have hR3 := hR2.ext hx3' (fun e => absurd (show (w.heap.size + 1 + 1) = (w.heap.size + 1 + 1 + 1) from e) (by omega))
          refine ⟨hx3, wpAnyH_done (by kernel_rfl) ?_ _⟩
          simp only [Act.put, zA, zB, zC, zD, zE, zF]
          go_wp2
          exact bodyPost_ret (results_cell2 rfl STStore STResult rfl rfl hR3 rfl hE3 rfl) rfl ⟨({ s5 with AX := A1, nX := out.length + 1, cX := c1, seen := out ++ [(⟨⟨c.client, c.req, ⟨r5.code, r5.value, []⟩⟩, .slice Av 0 cv⟩ : SeenV)] } : StoreV), r5, .slice Av 0 cv, rfl, by rw [HE9.out]; exact (hO9.keep hx3 (fun q e => by rcases e with rfl | rfl; exact ⟨_, _, hR9, by decide⟩; exact ⟨_, _, hE9, by decide⟩)).base hbase, seen_put (HAN.out) HRA.out HF9.out, by rw [HRA.out]; exact ResI.nil' _ _ _ _, hx9.trans hx3 (fun b hb e => by omega)⟩
end Go.Proofs.YtlpfcmnnmdhaoaaGreat
