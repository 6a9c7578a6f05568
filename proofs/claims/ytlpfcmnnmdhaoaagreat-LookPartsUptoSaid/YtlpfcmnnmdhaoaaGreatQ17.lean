/- Parts of the proof: Cmd RefCancel ReadCmd -/
import Derived.OrdersHeld
import Derived.Test.YtlpfcmnnmdhaoaaGreatQ16
import Derived.Test.YtlpfcmnnmdhaoaaGreatQ02
import Derived.Test.YtlpfcmnnmdhaoaaGreatQ04
namespace Go.Proofs.YtlpfcmnnmdhaoaaGreat
set_option linter.unusedVariables false
set_option linter.unusedSimpArgs false
set_option linter.unusedSectionVars false
section
open Go.RowKit
theorem STResult : StructT Tryz.prog 34 3 := .of (by kernel_rfl)
theorem STCmd : StructT Tryz.prog 51 27 := .of (by kernel_rfl)
def repCells (r : Int × Int) : List Value := [.int .i64 r.1, .int .i64 r.2]
def intCell (r : Int) : List Value := [.int .i64 r]
structure CmdV where
 op : Int
 client : Int
 req : Int
 job : JobD
 GA : Option Addr
 gn : Nat
 gc : Nat
 node : NodD
 reports : List (Int × Int)
 RA : Option Addr
 rn : Nat
 rc : Nat
 pj : Int
 pv : Int
 pi : Int
 stops : List Int
 SA : Option Addr
 sn : Nat
 sc : Nat
 places : List AllocD
 PA : Option Addr
 pn : Nat
 pc : Nat
 blocked : Bool
 v25 : Value
 v26 : Value
def CmdV.d (c : CmdV) : CmdD := ⟨c.op, c.client, c.req, c.job, c.node, c.reports, ⟨c.pj, c.pv, c.pi, c.stops, c.places, c.blocked⟩⟩
abbrev CmdV.jarr (c : CmdV) : Array Value := #[.int .i64 c.job.id, .int .i64 c.job.ty, .int .i64 c.job.prio, .int .i64 c.job.par, .slice c.GA c.gn c.gc, .int .i64 c.job.ver, .bool c.job.stopped]
abbrev CmdV.narr (c : CmdV) : Array Value := #[.int .i64 c.node.id, .int .i64 c.node.cap.cpu, .int .i64 c.node.cap.mem, .bool c.node.up, .bool c.node.drain, .int .i64 c.node.boot, .int .i64 c.node.epoch, .int .i64 c.node.seq]
abbrev CmdV.parr (c : CmdV) : Array Value := #[.int .i64 c.pj, .int .i64 c.pv, .int .i64 c.pi, .slice c.SA c.sn c.sc, .slice c.PA c.pn c.pc, .bool c.blocked]
abbrev CmdV.arr (c : CmdV) : Array Value := #[.int .i64 c.op, .int .i64 c.client, .int .i64 c.req, .int .i64 c.job.id, .int .i64 c.job.ty, .int .i64 c.job.prio, .int .i64 c.job.par, .slice c.GA c.gn c.gc, .int .i64 c.job.ver, .bool c.job.stopped,
 .int .i64 c.node.id, .int .i64 c.node.cap.cpu, .int .i64 c.node.cap.mem, .bool c.node.up, .bool c.node.drain, .int .i64 c.node.boot, .int .i64 c.node.epoch, .int .i64 c.node.seq, .slice c.RA c.rn c.rc,
 .int .i64 c.pj, .int .i64 c.pv, .int .i64 c.pi, .slice c.SA c.sn c.sc, .slice c.PA c.pn c.pc, .bool c.blocked, c.v25, c.v26]
structure CmdI (base : Nat) (w : World) (c : CmdV) : Prop where
 g : Sl w 3 c.GA c.gn (c.job.groups.map GroupD.cells)
 gl : c.gn ≤ 1048576
 gb : ∀ b, c.GA.map (·.block) = some b → c.job.groups ≠ [] → b < base
 r : Sl w 2 c.RA c.rn (c.reports.map repCells)
 rl : c.rn ≤ 1048576
 rb : ∀ b, c.RA.map (·.block) = some b → c.reports ≠ [] → b < base
 s : Sl w 1 c.SA c.sn (c.stops.map intCell)
 sl : c.sn ≤ 1048576
 sb : ∀ b, c.SA.map (·.block) = some b → c.stops ≠ [] → b < base
 p : Sl w 11 c.PA c.pn (c.places.map AllocD.cells)
 pl : c.pn ≤ 1048576
 pb : ∀ b, c.PA.map (·.block) = some b → c.places ≠ [] → b < base
 o25 : c.v25.oneCell' = true
 o26 : c.v26.oneCell' = true
def RowB (base : Nat) (w : World) (b : Nat) : Prop := base ≤ b ∧ ∃ t cs, Blk w b t cs ∧ t ∈ rowTypes
theorem RowB.of_own {w : World} {base e sz n g : Nat} {v : Value} {xs : List Value} (h : w.ownsRow base e sz v n xs) (he : e ∈ rowTypes) (hv : v.ownBlock = some g) : RowB base w g := by
 obtain ⟨cs, hcs⟩ := own_blk h hv
 exact ⟨own_ge h hv, e, cs, hcs, he⟩
theorem RowB.of_blk {w : World} {base g t : Nat} {cs : Array Value} (h : Blk w g t cs) (ht : t ∈ rowTypes) (hb : base ≤ g) : RowB base w g := ⟨hb, t, cs, h, ht⟩
theorem RowB.back {w w' : World} {base b : Nat} (hx : Ext (RowB base w) w w') (h : RowB base w' b) (hb : b < w.heap.size) : RowB base w b := by
 by_cases hn : RowB base w b
 ·exact hn
 ·obtain ⟨h1, t, cs, h2, h3⟩ := h
  exact ⟨h1, t, cs, (hx.block b hb hn).symm.trans h2, h3⟩
theorem Ext.row {S : Nat → Prop} {w w1 w2 : World} {base : Nat} (h : Ext (RowB base w) w w1) (k : Ext S w1 w2) (hr : ∀ b, S b → RowB base w1 b) : Ext (RowB base w) w w2 := h.trans k (fun b hb e => (hr b e).back h hb)
theorem Ext.setRow {w w1 : World} {base g i : Nat} (h : Ext (RowB base w) w w1) (hr : RowB base w1 g) (u : Value) : Ext (RowB base w) w (w1.setCell ⟨g, i, none⟩ u) := h.row (Ext.set1 w1 g i u) (fun b e => by rw [show b = g from e]; exact hr)
theorem Blk.kept {w w' : World} {base g t : Nat} {cs : Array Value} (h : Blk w g t cs) (hx : Ext (RowB base w) w w') (ht : t ∉ rowTypes) : Blk w' g t cs := h.ext hx (fun e => by
 obtain ⟨_, t', cs', h2, h3⟩ := e
 have h4 : some (Obj.cells cs t (0, 0)) = some (Obj.cells cs' t' (0, 0)) := h.symm.trans h2
 injection h4 with h4
 injection h4 with _ h5 _
 exact ht (h5 ▸ h3))
theorem CmdI.keep {base : Nat} {w w' : World} {c : CmdV} (h : CmdI base w c) (hx : Ext (fun b => base ≤ b) w w') : CmdI base w' c :=
 ⟨h.g.ext hx (fun b e ne hb => by have := h.gb b e (by rintro e; rw [e] at ne; exact ne rfl); omega), h.gl, h.gb, h.r.ext hx (fun b e ne hb => by have := h.rb b e (by rintro e; rw [e] at ne; exact ne rfl); omega), h.rl, h.rb,
  h.s.ext hx (fun b e ne hb => by have := h.sb b e (by rintro e; rw [e] at ne; exact ne rfl); omega), h.sl, h.sb, h.p.ext hx (fun b e ne hb => by have := h.pb b e (by rintro e; rw [e] at ne; exact ne rfl); omega), h.pl, h.pb, h.o25, h.o26⟩
theorem CmdI.keepR {base : Nat} {w w' : World} {c : CmdV} (h : CmdI base w c) (hx : Ext (RowB base w) w w') : CmdI base w' c := h.keep (hx.mono (fun _ _ e => e.1))
theorem CmdI.keep0 {base : Nat} {w w' : World} {c : CmdV} (h : CmdI base w c) (hx : Ext Nothing w w') : CmdI base w' c := h.keep (hx.mono (fun _ _ e => e.elim))
abbrev resArr (code value : Int) : Array Value := #[.int .i64 code, .int .i64 value, .slice none 0 0]
theorem refNo (e : Int) (w : World) : Calls Tryz.prog 16 #[.int .i64 e] w fun e' w' => e' = .returned (.agg (resArr e 0)) ∧ Ext Nothing w w' := by
 go_enter Tryz.func16, Tryz.ntmps16
 go_wp2
 exact bodyPost_ret (results_cell rfl STResult (g := w.heap.size) rfl (Blk.new w _ _) rfl) rfl ⟨rfl, by (with_reducible repeat' first | assumption | exact Ext.refl _ _ | refine Ext.alloc ?_ _ | refine Ext.drew ?_ | refine Ext.drewN ?_ _ | refine xS ?_ (by simp only [World.size_alloc, World.size_setCell, World.size_drew] <;> omega) _ | refine Ext.tr ?_ (by assumption))⟩
theorem run_load_blk {P : Program} {o : Oper} {ρ : Operand → Value} {ty : TypeId} {x : Operand} {sz b : Nat} {t : TypeId} {cs : Array Value} {w : World} (ho : o.op = .load ty x) (E : StructT P ty sz) (hx : ρ x = .pointer (some ⟨b, 0, none⟩))
  (hB : Blk w b t cs) (hi : cs.size = sz) : (execOp ρ o).run P w = .ok (.value (.agg cs)) w :=
 run_load_struct (sz := sz) (b := b) (off := 0) ho E hx (fun j u hu => by rw [Nat.zero_add, hB.cell]; simpa using hu) hi
theorem CmdV.ncell (c : CmdV) : ∀ (j : Nat) (u : Value), c.narr.toList[j]? = some u → c.arr[10 + j]? = some u := fun j u hu => by
 match j, hu with
 | 0, hu => exact hu
 | 1, hu => exact hu
 | 2, hu => exact hu
 | 3, hu => exact hu
 | 4, hu => exact hu
 | 5, hu => exact hu
 | 6, hu => exact hu
 | 7, hu => exact hu
 | (n + 8), hu => simp at hu
theorem CmdV.pcell (c : CmdV) : ∀ (j : Nat) (u : Value), c.parr.toList[j]? = some u → c.arr[19 + j]? = some u := fun j u hu => by
 match j, hu with
 | 0, hu => exact hu
 | 1, hu => exact hu
 | 2, hu => exact hu
 | 3, hu => exact hu
 | 4, hu => exact hu
 | 5, hu => exact hu
 | (n + 6), hu => simp at hu
theorem set_self {α : Type} {l : List α} {k : Nat} {x : α} (h : l[k]? = some x) : l.set k x = l := by
 apply List.ext_getElem?
 intro j
 rw [List.getElem?_set]
 by_cases e : k = j
 ·subst e
  obtain ⟨hk, _⟩ := List.getElem?_eq_some_iff.1 h
  rw [if_pos rfl, if_pos hk, h]
 ·rw [if_neg e]
theorem turn1_job {k : Int} {f : JobD → JobD} {l : List JobV} {i : Nat} {x : JobV} (hx : l[i]? = some x) (hp : (x.1.id == k) = true) (hf : ∀ j < i, ∀ y, l[j]? = some y → (y.1.id == k) = false) :
  Fsm.turn1 (fun j => j.id == k) f (l.map (·.1)) = (l.set i (f x.1, x.2)).map (·.1) := by
 rw [Fsm.turn1_set (i := i) (x := x.1) (by rw [List.getElem?_map, hx]; rfl) hp (fun j hj y hy => by
  rw [List.getElem?_map] at hy
  obtain ⟨z, hz, rfl⟩ := Option.map_eq_some_iff.1 hy
  exact hf j hj z hz), List.map_set]
theorem enterW (w : World) (a b c d : Array Value) : Ext Nothing w ((((w.alloc (.cells a 30)).alloc (.cells b 51)).alloc (.cells c 30)).alloc (.cells d 34)) ∧ Blk ((((w.alloc (.cells a 30)).alloc (.cells b 51)).alloc (.cells c 30)).alloc (.cells d 34)) w.heap.size 30 a ∧ Blk ((((w.alloc (.cells a 30)).alloc (.cells b 51)).alloc (.cells c 30)).alloc (.cells d 34)) (w.heap.size + 1) 51 b ∧ Blk ((((w.alloc (.cells a 30)).alloc (.cells b 51)).alloc (.cells c 30)).alloc (.cells d 34)) (w.heap.size + 1 + 1) 30 c ∧ Blk ((((w.alloc (.cells a 30)).alloc (.cells b 51)).alloc (.cells c 30)).alloc (.cells d 34)) (w.heap.size + 1 + 1 + 1) 34 d :=
 ⟨by (with_reducible repeat' first | assumption | exact Ext.refl _ _ | refine Ext.alloc ?_ _ | refine Ext.drew ?_ | refine Ext.drewN ?_ _ | refine xS ?_ (by simp only [World.size_alloc, World.size_setCell, World.size_drew] <;> omega) _ | refine Ext.tr ?_ (by assumption)), (Blk.new w _ _).ext (S := Nothing) (by (with_reducible repeat' first | assumption | exact Ext.refl _ _ | refine Ext.alloc ?_ _ | refine Ext.drew ?_ | refine Ext.drewN ?_ _ | refine xS ?_ (by simp only [World.size_alloc, World.size_setCell, World.size_drew] <;> omega) _ | refine Ext.tr ?_ (by assumption))) (fun e => e), (Blk.new' (w.alloc (.cells a 30)) _ _ (by simp)).ext (S := Nothing) (by (with_reducible repeat' first | assumption | exact Ext.refl _ _ | refine Ext.alloc ?_ _ | refine Ext.drew ?_ | refine Ext.drewN ?_ _ | refine xS ?_ (by simp only [World.size_alloc, World.size_setCell, World.size_drew] <;> omega) _ | refine Ext.tr ?_ (by assumption))) (fun e => e), (Blk.new' ((w.alloc (.cells a 30)).alloc (.cells b 51)) _ _ (by simp)).ext (S := Nothing) (by (with_reducible repeat' first | assumption | exact Ext.refl _ _ | refine Ext.alloc ?_ _ | refine Ext.drew ?_ | refine Ext.drewN ?_ _ | refine xS ?_ (by simp only [World.size_alloc, World.size_setCell, World.size_drew] <;> omega) _ | refine Ext.tr ?_ (by assumption))) (fun e => e), Blk.new' _ _ _ (by simp)⟩
end
section
open Go.RowKit
set_option maxRecDepth 20000 in
set_option maxHeartbeats 4000000 in
theorem refCancel (base : Nat) (s : StoreV) (c : CmdV) (w : World) (h : OwnS base w s) (hc : CmdI base w c) (hb : base ≤ w.heap.size) (hJ : s.jobs.length ≤ 1048576) (hDl : s.deploys.length ≤ 1048576) (hE : s.evals.length ≤ 33554432) :
  Calls Tryz.prog 29 #[.agg s.arr, .agg c.arr] w fun e w' => ∃ s' r, e = .returned (.tuple #[.agg s'.arr, .agg (resArr r.code r.value)]) ∧ OwnS base w' s' ∧ Fsm.cancel s.data c.d = (s'.data, r) ∧ r.allocs = [] ∧ Ext (RowB base w) w w' := by
 obtain ⟨hxW, hBW, hCW, hRW, hEW⟩ := enterW w s.arr c.arr #[.int .i64 0, .int .i64 0, .slice none 0 0, .slice none 0 0, .slice none 0 0, .slice none 0 0, .slice none 0 0, .slice none 0 0, .slice none 0 0] #[.int .i64 0, .int .i64 0, .slice none 0 0]
 have hsj := h.slJ
 have hjl := Lib.hid h.jl
 have hnJ : s.nJ ≤ 67108864 := by have := h.jl; omega
 have hnD : s.nD ≤ 67108864 := by have := h.dl; omega
 rcases idx_cases (fun x : JobV => x.1.id == c.job.id) s.jobs with ⟨hi, hf, _⟩ | ⟨i, x, hi, hxi, hp, hf, hfirst⟩
 ·have hn := jobAt_none hf
  have HF := Lib.hid (show Fsm.cancel s.data c.d = (s.data, ⟨36, 0, []⟩) by unfold Fsm.cancel; rw [show Fsm.jobAt s.data c.d.job.id = none from hn]; rfl)
  have HI := Lib.hid hi
  clear hi hf hn
  go_enter Tryz.func29, Tryz.ntmps29
  go_upto_region 1 with fail
  generalize ((((w.alloc (.cells s.arr 30)).alloc (.cells c.arr 51)).alloc (.cells #[.int .i64 0, .int .i64 0, .slice none 0 0, .slice none 0 0, .slice none 0 0, .slice none 0 0, .slice none 0 0, .slice none 0 0, .slice none 0 0] 30)).alloc (.cells #[.int .i64 0, .int .i64 0, .slice none 0 0] 34)) = W at hxW hBW hCW hRW hEW ⊢
  have hzW : w.heap.size + 1 + 1 + 1 < W.heap.size := hEW.lt
  have c3 : W.cell? ⟨w.heap.size + 1, 3, none⟩ = some (.int .i64 c.job.id) := hCW.cell 3
  go_upto_region 3 with (first | go_skip | ((with_reducible refine isW ?_); refine wpList_load_blk rfl 30 _ rfl STStore w.heap.size rfl s.arr (show Blk _ _ 30 _ from hBW) rfl ?_) | (go_at_call 51; (with_reducible refine (refAtJob s.AJ s.nJ s.cJ s.jobs c.job.id W (hsj.ext0 hxW) hnJ _ _ _ _ _ _ _ _).mono ?_); rintro e w1 ⟨rfl, hx1⟩; rw [HI.out]))
  have hBa := hBW.e0 hx1
  have hRa := hRW.e0 hx1
  have hEa := hEW.e0 hx1
  refine zH (S := fun q => q = (w.heap.size + 1 + 1) ∨ q = (w.heap.size + 1 + 1 + 1)) (by kernel_rfl) (fun Wd hd hd0 => ?_)
  refine zT 0 (.agg s.arr) rfl (by kernel_rfl) (by rfl) hd (fun _ _ _ h => h) ?_ ?_
  ·intro W' hS'
   exact run_load_blk rfl STStore (by go_simp) (hBa.ext hS' (by omega)) rfl
  simp only [Act.put, zA, zB, zC, zD, zE, zF]
  refine zO 1 (by kernel_rfl) ?_
  refine wpOp_call (f := 16) (args := #[.int .i64 36]) rfl (by rfl) (by go_simp) ((refNo 36 Wd).mono ?_)
  rintro e wn ⟨rfl, hxn⟩
  have hd1 := hd.trans hxn (fun _ _ e => e.elim)
  have hd01 := hd0.tr hxn
  refine ⟨_, rfl, hd1, ?_⟩
  simp only [Act.put, zA, zB, zC, zD, zE, zF]
  refine zO 2 (by kernel_rfl) ?_
  refine wpOp_store (p := (w.heap.size + 1 + 1)) (cs := s.arr) rfl (by rfl) rfl (by go_simp) (by go_simp) (hRa.e0 hd01) rfl STStore rfl rfl (fun w2 hR2 hx2 => ?_)
  have hd2 := hd1.trans hx2 (fun q hq e => .inl e)
  refine ⟨hd2, ?_⟩
  simp only [Act.put, zA, zB, zC, zD, zE, zF]
  refine zO 3 (by kernel_rfl) ?_
  refine wpOp_store (p := (w.heap.size + 1 + 1 + 1)) (cs := resArr 36 0) rfl (by rfl) rfl (by go_simp) (by go_simp) ((hEa.e0 hd01).ext hx2 (fun e => absurd (show (w.heap.size + 1 + 1 + 1) = (w.heap.size + 1 + 1) from e) (by omega))) rfl STResult rfl rfl (fun w3 hE3 hx3' => ?_)
  have hx3 := hd2.trans hx3' (fun q hq e => .inr e)
  have hR3 := hR2.ext hx3' (fun e => absurd (show (w.heap.size + 1 + 1) = (w.heap.size + 1 + 1 + 1) from e) (by omega))
  refine ⟨hx3, wpAnyH_done (by kernel_rfl) ?_ _⟩
  simp only [Act.put, zA, zB, zC, zD, zE, zF]
  go_wp2
  have hxx : Ext Nothing w w3 := (hxW.tr hx1).trans hx3 (fun b hb e => by omega)
  exact bodyPost_ret (results_cell2 rfl STStore STResult rfl rfl hR3 rfl hE3 rfl) rfl ⟨s, ⟨36, 0, []⟩, rfl, h.keep0 hxx, HF.out, rfl, hxx.mono (fun _ _ e => e.elim)⟩
 ·have hja : Fsm.jobAt s.data c.d.job.id = some x.1 := jobAt_data hf
  have HF := Lib.hid (show Fsm.cancel s.data c.d = (Fsm.eval { s.data with jobs := (s.jobs.set i ({ x.1 with stopped := true }, x.2)).map (·.1), deploys := Fsm.turn1 (fun d => d.job == c.job.id) (fun d => if d.state == 1 then { d with state := 3 } else d) s.deploys } c.job.id, ⟨0, 0, []⟩) by
   unfold Fsm.cancel; rw [hja]; simp only []
   rw [show Fsm.turn1 (fun j => j.id == c.d.job.id) (fun j => { j with stopped := true }) s.data.jobs = _ from turn1_job (f := fun j => { j with stopped := true }) hxi hp hfirst]; rfl)
  have HI := Lib.hid hi
  have hilt : (i : Int) < s.nJ := by have := h.jl; have := (List.getElem?_eq_some_iff.1 hxi).1; omega
  have hi0 : (0 : Int) ≤ (i : Int) := by omega
  have hig : ¬ ((i : Int) < 0) := by omega
  clear hi hf hja hp hfirst
  go_enter Tryz.func29, Tryz.ntmps29
  go_upto_region 1 with fail
  generalize ((((w.alloc (.cells s.arr 30)).alloc (.cells c.arr 51)).alloc (.cells #[.int .i64 0, .int .i64 0, .slice none 0 0, .slice none 0 0, .slice none 0 0, .slice none 0 0, .slice none 0 0, .slice none 0 0, .slice none 0 0] 30)).alloc (.cells #[.int .i64 0, .int .i64 0, .slice none 0 0] 34)) = W at hxW hBW hCW hRW hEW ⊢
  have hzW : w.heap.size + 1 + 1 + 1 < W.heap.size := hEW.lt
  have c3 : W.cell? ⟨w.heap.size + 1, 3, none⟩ = some (.int .i64 c.job.id) := hCW.cell 3
  go_upto_region 4 with (first | go_skip | ((with_reducible refine isW ?_); refine wpList_load_blk rfl 30 _ rfl STStore w.heap.size rfl s.arr (show Blk _ _ 30 _ from hBW) rfl ?_) | (go_at_call 51; (with_reducible refine (refAtJob s.AJ s.nJ s.cJ s.jobs c.job.id W (hsj.ext0 hxW) hnJ _ _ _ _ _ _ _ _).mono ?_); rintro e w1 ⟨rfl, hx1⟩; rw [HI.out]))
  have hBa := hBW.e0 hx1
  have hO1 := h.keep0 (hxW.tr hx1)
  obtain ⟨g, cur, hAe, hob, hgb, _, hce, hput⟩ := hO1.putJ hxi
  have c2 : w1.cell? ⟨w.heap.size, 2, none⟩ = some (.slice (some ⟨g, 0, none⟩) s.nJ s.cJ) := by rw [← hAe]; exact hBa.cell 2
  have k6 : w1.cell? ⟨g, i * 7 + 6, none⟩ = some (.bool x.1.stopped) := hce 6 _ rfl
  have f6 : w1.frozen? ⟨g, i * 7 + 6, none⟩ = false := hgb.frozen _
  have hgge : RowB base w g := RowB.of_own h.j.own (by decide) hob
  have hglt : g < w.heap.size := own_lt h.j.own hob
  have HA := Lib.hid hAe
  clear hAe
  go_upto_region 5 with (first | go_skip)
  have hO4 : OwnS base (w1.setCell ⟨g, i * 7 + 6, none⟩ (.bool true)) ({ s with jobs := s.jobs.set i ({ x.1 with stopped := true }, x.2) } : StoreV) := hput 6 (.bool true) ({ x.1 with stopped := true }, x.2) (by decide) rfl rfl rfl
  have hs4 : Ext (fun b => b = g) w1 (w1.setCell ⟨g, i * 7 + 6, none⟩ (.bool true)) := Ext.set1 _ _ _ _
  have hB4 := hBa.ext hs4 (fun e => absurd (show w.heap.size = g from e) (by omega))
  have hC4 := (hCW.e0 hx1).ext hs4 (fun e => absurd (show w.heap.size + 1 = g from e) (by omega))
  have hR4 := (hRW.e0 hx1).ext hs4 (fun e => absurd (show w.heap.size + 1 + 1 = g from e) (by omega))
  have hE4 := (hEW.e0 hx1).ext hs4 (fun e => absurd (show w.heap.size + 1 + 1 + 1 = g from e) (by omega))
  have hx4 : Ext (RowB base w) w (w1.setCell ⟨g, i * 7 + 6, none⟩ (.bool true)) := ((hxW.tr hx1).mono (S' := RowB base w) (fun _ _ e => e.elim)).trans hs4 (fun b hb e => by rw [show b = g from e]; exact hgge)
  clear c2 k6 f6 c3 hput hce hs4
  generalize (w1.setCell ⟨g, i * 7 + 6, none⟩ (.bool true)) = w4 at hO4 hB4 hC4 hR4 hE4 hx4 ⊢
  have c3 : w4.cell? ⟨w.heap.size + 1, 3, none⟩ = some (.int .i64 c.job.id) := hC4.cell 3
  have hsd : Sl w4 4 s.AD s.nD (s.deploys.map DepD.cells) := hO4.slD
  rcases idx_cases (fun x : DepD => x.job == c.job.id) s.deploys with ⟨hk, hkf, _⟩ | ⟨k, d, hk, hxk, hkp, hkf, hkfirst⟩
  ·have HK := Lib.hid hk
   have HD := Lib.hid (Fsm.turn1_none (f := fun d : DepD => if d.state == 1 then { d with state := 3 } else d) hkf)
   clear hk hkf
   go_upto_region 8 with (first | go_skip | go_guarded | ((with_reducible refine isW ?_); refine wpList_load_blk rfl 30 _ rfl STStore w.heap.size rfl s.arr (show Blk _ _ 30 _ from hB4) rfl ?_) | (go_at_call 53; (with_reducible refine (refAtDeploy s.AD s.nD s.cD s.deploys c.job.id w4 hsd hnD _ _ _ _ _ _ _ _).mono ?_); rintro e w5 ⟨rfl, hx5⟩; rw [HK.out]))
   have hBz := hB4.e0 hx5
   have hRz := hR4.e0 hx5
   have hEz2 := hE4.e0 hx5
   have hxz := hx4.trans hx5 (fun _ _ e => e.elim)
   have c3 : w5.cell? ⟨w.heap.size + 1, 3, none⟩ = some (.int .i64 c.job.id) := (hC4.e0 hx5).cell 3
   have hOz : OwnS base w5 ({ s with jobs := s.jobs.set i ({ x.1 with stopped := true }, x.2) } : StoreV) := hO4.keep0 hx5
   have hbz : base ≤ w5.heap.size := by have := hxz.size; omega
   have hJz : ({ s with jobs := s.jobs.set i ({ x.1 with stopped := true }, x.2) } : StoreV).jobs.length ≤ 67108864 := by show (s.jobs.set i _).length ≤ _; rw [List.length_set]; omega
   have hEz : ({ s with jobs := s.jobs.set i ({ x.1 with stopped := true }, x.2) } : StoreV).evals.length < 67108862 := by show s.evals.length < _; omega
   go_wp2_with (first | go_skip | ((with_reducible refine isW ?_); refine wpList_load_blk rfl 30 _ rfl STStore w.heap.size rfl ({ s with jobs := s.jobs.set i ({ x.1 with stopped := true }, x.2) } : StoreV).arr (show Blk _ _ 30 _ from hBz) rfl ?_) | (go_at_call 54; (with_reducible refine (refEval base ({ s with jobs := s.jobs.set i ({ x.1 with stopped := true }, x.2) } : StoreV) c.job.id w5 hOz hbz hJz hEz).mono ?_); rintro e w6 ⟨s6, rfl, hO6, hd6, _, hx6⟩; have hR6 := hRz.e0 hx6; have hE6 := hEz2.e0 hx6) | ((with_reducible refine isW ?_); refine wpList_store_blk rfl 30 _ _ rfl STStore (w.heap.size + 1 + 1) rfl s6.arr rfl hR6 rfl rfl rfl ?_; intro w7 hR7 hx7) | ((with_reducible refine isW ?_); refine wpList_store_blk rfl 34 _ _ rfl STResult (w.heap.size + 1 + 1 + 1) rfl (resArr 0 0) rfl (hE6.ext hx7 (fun e => absurd (show w.heap.size + 1 + 1 + 1 = w.heap.size + 1 + 1 from e) (by omega))) rfl rfl rfl ?_; intro w8 hE8 hx8))
   have hR8 := hR7.ext hx8 (fun e => absurd (show w.heap.size + 1 + 1 = w.heap.size + 1 + 1 + 1 from e) (by omega))
   have hx68 : Ext (fun b => b = w.heap.size + 1 + 1 ∨ b = w.heap.size + 1 + 1 + 1) w6 w8 := (hx7.mono (S' := fun b => b = w.heap.size + 1 + 1 ∨ b = w.heap.size + 1 + 1 + 1) (fun _ _ e => .inl e)).trans hx8 (fun _ _ e => .inr e)
   have hO8 := (hO6.keep hx7 (Apart.one hR6 (by decide))).keep hx8 (Apart.one (hE6.ext hx7 (fun e => absurd (show w.heap.size + 1 + 1 + 1 = w.heap.size + 1 + 1 from e) (by omega))) (by decide))
   exact bodyPost_ret (results_cell2 rfl STStore STResult rfl rfl hR8 rfl hE8 rfl) rfl ⟨s6, ⟨0, 0, []⟩, rfl, hO8, by rw [HF.out, hd6]; exact congrArg (fun z => (Fsm.eval ({ ({ s with jobs := s.jobs.set i ({ x.1 with stopped := true }, x.2) } : StoreV).data with deploys := z } : StoreD) c.job.id, (⟨0, 0, []⟩ : ResultD))) HD.out, rfl, (hxz.trans hx6 (fun _ _ e => e.elim)).trans hx68 (fun b hb e => by omega)⟩
  ·obtain ⟨d0, d1, d2, d3⟩ := d
   have HK := Lib.hid hk
   have hklt : (k : Int) < s.nD := by have := h.dl; have := (List.getElem?_eq_some_iff.1 hxk).1; omega
   have hk0 : (0 : Int) ≤ (k : Int) := by omega
   have hkg : decide ((0 : Int) ≤ (k : Int)) = true := by simp
   have HD := Lib.hid (Fsm.turn1_set (f := fun d : DepD => if d.state == 1 then { d with state := 3 } else d) hxk hkp hkfirst)
   obtain ⟨gd, curd, hAd, hobd, hgbd, _, hced, _⟩ := hO4.putD hxk
   have HAd := Lib.hid (show s.AD = some ⟨gd, 0, none⟩ from hAd)
   clear hk hkf hkp hkfirst hAd
   cases hd2 : (d2 == 1) with
   | false =>
    have HD2 := Lib.hid (HD.out.trans (show s.deploys.set k (if d2 == 1 then _ else (⟨d0, d1, d2, d3⟩ : DepD)) = s.deploys by rw [hd2]; simp only [Bool.false_eq_true, if_false]; exact set_self hxk))
    go_upto_region 8 with (first | go_skip | go_guarded | ((with_reducible refine isW ?_); refine wpList_load_blk rfl 30 _ rfl STStore w.heap.size rfl s.arr (show Blk _ _ 30 _ from hB4) rfl ?_) | (go_at_call 53; (with_reducible refine (refAtDeploy s.AD s.nD s.cD s.deploys c.job.id w4 hsd hnD _ _ _ _ _ _ _ _).mono ?_); rintro e w5 ⟨rfl, hx5⟩; rw [HK.out]; have c7 : w5.cell? ⟨w.heap.size, 7, none⟩ = some (.slice (some ⟨gd, 0, none⟩) s.nD s.cD) := (by rw [← HAd.out]; exact (hB4.e0 hx5).cell 7); have q2 : w5.cell? ⟨gd, k * 4 + 2, none⟩ = some (.int .i64 d2) := hx5.cell (hced 2 _ rfl) (fun e => e)))
    have hBz := hB4.e0 hx5
    have hRz := hR4.e0 hx5
    have hEz2 := hE4.e0 hx5
    have hxz := hx4.trans hx5 (fun _ _ e => e.elim)
    have c3 : w5.cell? ⟨w.heap.size + 1, 3, none⟩ = some (.int .i64 c.job.id) := (hC4.e0 hx5).cell 3
    have hOz : OwnS base w5 ({ s with jobs := s.jobs.set i ({ x.1 with stopped := true }, x.2) } : StoreV) := hO4.keep0 hx5
    have hbz : base ≤ w5.heap.size := by have := hxz.size; omega
    have hJz : ({ s with jobs := s.jobs.set i ({ x.1 with stopped := true }, x.2) } : StoreV).jobs.length ≤ 67108864 := by show (s.jobs.set i _).length ≤ _; rw [List.length_set]; omega
    have hEz : ({ s with jobs := s.jobs.set i ({ x.1 with stopped := true }, x.2) } : StoreV).evals.length < 67108862 := by show s.evals.length < _; omega
    go_wp2_with (first | go_skip | ((with_reducible refine isW ?_); refine wpList_load_blk rfl 30 _ rfl STStore w.heap.size rfl ({ s with jobs := s.jobs.set i ({ x.1 with stopped := true }, x.2) } : StoreV).arr (show Blk _ _ 30 _ from hBz) rfl ?_) | (go_at_call 54; (with_reducible refine (refEval base ({ s with jobs := s.jobs.set i ({ x.1 with stopped := true }, x.2) } : StoreV) c.job.id w5 hOz hbz hJz hEz).mono ?_); rintro e w6 ⟨s6, rfl, hO6, hd6, _, hx6⟩; have hR6 := hRz.e0 hx6; have hE6 := hEz2.e0 hx6) | ((with_reducible refine isW ?_); refine wpList_store_blk rfl 30 _ _ rfl STStore (w.heap.size + 1 + 1) rfl s6.arr rfl hR6 rfl rfl rfl ?_; intro w7 hR7 hx7) | ((with_reducible refine isW ?_); refine wpList_store_blk rfl 34 _ _ rfl STResult (w.heap.size + 1 + 1 + 1) rfl (resArr 0 0) rfl (hE6.ext hx7 (fun e => absurd (show w.heap.size + 1 + 1 + 1 = w.heap.size + 1 + 1 from e) (by omega))) rfl rfl rfl ?_; intro w8 hE8 hx8))
    have hR8 := hR7.ext hx8 (fun e => absurd (show w.heap.size + 1 + 1 = w.heap.size + 1 + 1 + 1 from e) (by omega))
    have hx68 : Ext (fun b => b = w.heap.size + 1 + 1 ∨ b = w.heap.size + 1 + 1 + 1) w6 w8 := (hx7.mono (S' := fun b => b = w.heap.size + 1 + 1 ∨ b = w.heap.size + 1 + 1 + 1) (fun _ _ e => .inl e)).trans hx8 (fun _ _ e => .inr e)
    have hO8 := (hO6.keep hx7 (Apart.one hR6 (by decide))).keep hx8 (Apart.one (hE6.ext hx7 (fun e => absurd (show w.heap.size + 1 + 1 + 1 = w.heap.size + 1 + 1 from e) (by omega))) (by decide))
    exact bodyPost_ret (results_cell2 rfl STStore STResult rfl rfl hR8 rfl hE8 rfl) rfl ⟨s6, ⟨0, 0, []⟩, rfl, hO8, by rw [HF.out, hd6]; exact congrArg (fun z => (Fsm.eval ({ ({ s with jobs := s.jobs.set i ({ x.1 with stopped := true }, x.2) } : StoreV).data with deploys := z } : StoreD) c.job.id, (⟨0, 0, []⟩ : ResultD))) HD2.out, rfl, (hxz.trans hx6 (fun _ _ e => e.elim)).trans hx68 (fun b hb e => by omega)⟩
   | true =>
    have HD2 := Lib.hid (HD.out.trans (show s.deploys.set k (if d2 == 1 then (⟨d0, d1, 3, d3⟩ : DepD) else _) = s.deploys.set k ⟨d0, d1, 3, d3⟩ by rw [hd2]; rfl))
    go_upto_region 8 with (first | go_skip | go_guarded | ((with_reducible refine isW ?_); refine wpList_load_blk rfl 30 _ rfl STStore w.heap.size rfl s.arr (show Blk _ _ 30 _ from hB4) rfl ?_) | (go_at_call 53; (with_reducible refine (refAtDeploy s.AD s.nD s.cD s.deploys c.job.id w4 hsd hnD _ _ _ _ _ _ _ _).mono ?_); rintro e w5 ⟨rfl, hx5⟩; rw [HK.out]; have c7 : w5.cell? ⟨w.heap.size, 7, none⟩ = some (.slice (some ⟨gd, 0, none⟩) s.nD s.cD) := (by rw [← HAd.out]; exact (hB4.e0 hx5).cell 7); have q2 : w5.cell? ⟨gd, k * 4 + 2, none⟩ = some (.int .i64 d2) := hx5.cell (hced 2 _ rfl) (fun e => e); have f2 : w5.frozen? ⟨gd, k * 4 + 2, none⟩ = false := (hgbd.e0 hx5).frozen _))
    have hO5 := hO4.keep0 hx5
    obtain ⟨gd', _, hAd', _, _, _, _, hputd⟩ := hO5.putD hxk
    have hgg : gd = gd' := by have h7 : s.AD = some ⟨gd', 0, none⟩ := hAd'; rw [HAd.out] at h7; injection h7 with h7; injection h7
    subst hgg
    have hO7 : OwnS base (w5.setCell ⟨gd, k * 4 + 2, none⟩ (.int .i64 3)) ({ s with jobs := s.jobs.set i ({ x.1 with stopped := true }, x.2), deploys := s.deploys.set k ⟨d0, d1, 3, d3⟩ } : StoreV) := hputd 2 (.int .i64 3) ⟨d0, d1, 3, d3⟩ (by decide) rfl
    have hdge : RowB base w gd := RowB.of_own h.d (by decide) hobd
    have hdlt : gd < w.heap.size := own_lt h.d hobd
    have hs7 : Ext (fun b => b = gd) w5 (w5.setCell ⟨gd, k * 4 + 2, none⟩ (.int .i64 3)) := Ext.set1 _ _ _ _
    have hBz := (hB4.e0 hx5).ext hs7 (fun e => absurd (show w.heap.size = gd from e) (by omega))
    have hCz := (hC4.e0 hx5).ext hs7 (fun e => absurd (show w.heap.size + 1 = gd from e) (by omega))
    have hRz := (hR4.e0 hx5).ext hs7 (fun e => absurd (show w.heap.size + 1 + 1 = gd from e) (by omega))
    have hEz2 := (hE4.e0 hx5).ext hs7 (fun e => absurd (show w.heap.size + 1 + 1 + 1 = gd from e) (by omega))
    have hxz : Ext (RowB base w) w (w5.setCell ⟨gd, k * 4 + 2, none⟩ (.int .i64 3)) := (hx4.trans hx5 (fun _ _ e => e.elim)).trans hs7 (fun b hb e => by rw [show b = gd from e]; exact hdge)
    clear c7 q2 f2 hs7
    generalize (w5.setCell ⟨gd, k * 4 + 2, none⟩ (.int .i64 3)) = w7' at hO7 hBz hCz hRz hEz2 hxz ⊢
    have c3 : w7'.cell? ⟨w.heap.size + 1, 3, none⟩ = some (.int .i64 c.job.id) := hCz.cell 3
    have hOz : OwnS base w7' ({ s with jobs := s.jobs.set i ({ x.1 with stopped := true }, x.2), deploys := s.deploys.set k ⟨d0, d1, 3, d3⟩ } : StoreV) := hO7
    have hbz : base ≤ w7'.heap.size := by have := hxz.size; omega
    have hJz : ({ s with jobs := s.jobs.set i ({ x.1 with stopped := true }, x.2), deploys := s.deploys.set k ⟨d0, d1, 3, d3⟩ } : StoreV).jobs.length ≤ 67108864 := by show (s.jobs.set i _).length ≤ _; rw [List.length_set]; omega
    have hEz : ({ s with jobs := s.jobs.set i ({ x.1 with stopped := true }, x.2), deploys := s.deploys.set k ⟨d0, d1, 3, d3⟩ } : StoreV).evals.length < 67108862 := by show s.evals.length < _; omega
    go_wp2_with (first | go_skip | ((with_reducible refine isW ?_); refine wpList_load_blk rfl 30 _ rfl STStore w.heap.size rfl ({ s with jobs := s.jobs.set i ({ x.1 with stopped := true }, x.2), deploys := s.deploys.set k ⟨d0, d1, 3, d3⟩ } : StoreV).arr (show Blk _ _ 30 _ from hBz) rfl ?_) | (go_at_call 54; (with_reducible refine (refEval base ({ s with jobs := s.jobs.set i ({ x.1 with stopped := true }, x.2), deploys := s.deploys.set k ⟨d0, d1, 3, d3⟩ } : StoreV) c.job.id w7' hOz hbz hJz hEz).mono ?_); rintro e w6 ⟨s6, rfl, hO6, hd6, _, hx6⟩; have hR6 := hRz.e0 hx6; have hE6 := hEz2.e0 hx6) | ((with_reducible refine isW ?_); refine wpList_store_blk rfl 30 _ _ rfl STStore (w.heap.size + 1 + 1) rfl s6.arr rfl hR6 rfl rfl rfl ?_; intro w7 hR7 hx7) | ((with_reducible refine isW ?_); refine wpList_store_blk rfl 34 _ _ rfl STResult (w.heap.size + 1 + 1 + 1) rfl (resArr 0 0) rfl (hE6.ext hx7 (fun e => absurd (show w.heap.size + 1 + 1 + 1 = w.heap.size + 1 + 1 from e) (by omega))) rfl rfl rfl ?_; intro w8 hE8 hx8))
    have hR8 := hR7.ext hx8 (fun e => absurd (show w.heap.size + 1 + 1 = w.heap.size + 1 + 1 + 1 from e) (by omega))
    have hx68 : Ext (fun b => b = w.heap.size + 1 + 1 ∨ b = w.heap.size + 1 + 1 + 1) w6 w8 := (hx7.mono (S' := fun b => b = w.heap.size + 1 + 1 ∨ b = w.heap.size + 1 + 1 + 1) (fun _ _ e => .inl e)).trans hx8 (fun _ _ e => .inr e)
    have hO8 := (hO6.keep hx7 (Apart.one hR6 (by decide))).keep hx8 (Apart.one (hE6.ext hx7 (fun e => absurd (show w.heap.size + 1 + 1 + 1 = w.heap.size + 1 + 1 from e) (by omega))) (by decide))
    exact bodyPost_ret (results_cell2 rfl STStore STResult rfl rfl hR8 rfl hE8 rfl) rfl ⟨s6, ⟨0, 0, []⟩, rfl, hO8, by rw [HF.out, hd6]; exact congrArg (fun z => (Fsm.eval ({ ({ s with jobs := s.jobs.set i ({ x.1 with stopped := true }, x.2) } : StoreV).data with deploys := z } : StoreD) c.job.id, (⟨0, 0, []⟩ : ResultD))) HD2.out, rfl, (hxz.trans hx6 (fun _ _ e => e.elim)).trans hx68 (fun b hb e => by omega)⟩
end
section
set_option maxRecDepth 100000
open Go.RowKit Go.ChangeShapes Go.WideShapes Go.ChangeAt Go.Deep
theorem foReport : flatOk Tryz.prog 2 103 = true := by kernel_rfl
theorem ftReport : flatT Tryz.prog 2 103 = [3, 3] := by kernel_rfl
theorem cReport : Tryz.prog.cellsOf 103 = 2 := by kernel_rfl
theorem foInt : flatOk Tryz.prog 2 3 = true := by kernel_rfl
theorem ftInt : flatT Tryz.prog 2 3 = [3] := by kernel_rfl
theorem cInt : Tryz.prog.cellsOf 3 = 1 := by kernel_rfl
theorem foCmd : flatOk Tryz.prog 3 51 = true := by kernel_rfl
theorem ftCmd : flatT Tryz.prog 3 51 = [3, 3, 3, 3, 3, 3, 3, 37, 3, 4, 3, 3, 3, 4, 4, 3, 3, 3, 44, 3, 3, 3, 45, 25, 4, 45, 45] := by kernel_rfl
theorem cCmd : Tryz.prog.cellsOf 51 = 27 := by kernel_rfl
section
variable {H : Type} {enc : TypeId × Value → H} {w : World} {base : Nat} {spare : Nat → Bool} {held : Bool}
theorem report_read {B : Nat} (n : Nat) (cs : List Value) (y : DataW H × List MemPlace) (h : DataW.trod enc Tryz.prog w base spare held n 103 cs = some y) (hB : Rows.uptoBulk y.1 ≤ B) : ∃ x : Int × Int, cs = repCells x ∧ (In64 x.1 ∧ In64 x.2) := by
 have h1 := leaves (P := Tryz.prog) (d := 2) foReport h hB
 rw [ftReport] at h1
 match cs, h1 with
 | [c0, c1], ⟨l0, l1, _⟩ =>
  obtain ⟨a0, rfl, w0⟩ := l0.int Tryz.underlying3
  obtain ⟨a1, rfl, w1⟩ := l1.int Tryz.underlying3
  exact ⟨(a0, a1), rfl, in64_of w0, in64_of w1⟩
theorem int_read {B : Nat} (n : Nat) (cs : List Value) (y : DataW H × List MemPlace) (h : DataW.trod enc Tryz.prog w base spare held n 3 cs = some y) (hB : Rows.uptoBulk y.1 ≤ B) : ∃ x : Int, cs = intCell x ∧ In64 x := by
 have h1 := leaves (P := Tryz.prog) (d := 2) foInt h hB
 rw [ftInt] at h1
 match cs, h1 with
 | [c0], ⟨l0, _⟩ =>
  obtain ⟨a0, rfl, w0⟩ := l0.int Tryz.underlying3
  exact ⟨a0, rfl, in64_of w0⟩
structure CmdV.Read (w : World) (c : CmdV) : Prop where
 g : Sl w 3 c.GA c.gn (c.job.groups.map GroupD.cells)
 gl : c.gn ≤ 1048576
 r : Sl w 2 c.RA c.rn (c.reports.map repCells)
 rl : c.rn ≤ 1048576
 s : Sl w 1 c.SA c.sn (c.stops.map intCell)
 sl : c.sn ≤ 1048576
 p : Sl w 11 c.PA c.pn (c.places.map AllocD.cells)
 pl : c.pn ≤ 1048576
 o25 : c.v25.oneCell' = true
 o26 : c.v26.oneCell' = true
 ok : c.d.ok
def CmdV.cells (c : CmdV) : List Value := c.arr.toList
theorem cmd_read {B : Nat} (hB1 : B ≤ 1048577) (n : Nat) (cs : List Value) (y : DataW H × List MemPlace) (h : DataW.trod enc Tryz.prog w base spare held n 51 cs = some y) (hB : Rows.uptoBulk y.1 ≤ B) : ∃ x : CmdV, cs = x.cells ∧ x.Read w := by
 have h1 := leaves (P := Tryz.prog) (d := 3) foCmd h hB
 rw [ftCmd] at h1
 match cs, h1 with
 | [c0, c1, c2, c3, c4, c5, c6, c7, c8, c9, c10, c11, c12, c13, c14, c15, c16, c17, c18, c19, c20, c21, c22, c23, c24, c25, c26], ⟨l0, l1, l2, l3, l4, l5, l6, l7, l8, l9, l10, l11, l12, l13, l14, l15, l16, l17, l18, l19, l20, l21, l22, l23, l24, l25, l26, _⟩ =>
  obtain ⟨a0, rfl, w0⟩ := l0.int Tryz.underlying3
  obtain ⟨a1, rfl, w1⟩ := l1.int Tryz.underlying3
  obtain ⟨a2, rfl, w2⟩ := l2.int Tryz.underlying3
  obtain ⟨a3, rfl, w3⟩ := l3.int Tryz.underlying3
  obtain ⟨a4, rfl, w4⟩ := l4.int Tryz.underlying3
  obtain ⟨a5, rfl, w5⟩ := l5.int Tryz.underlying3
  obtain ⟨a6, rfl, w6⟩ := l6.int Tryz.underlying3
  obtain ⟨A7, n7, k7, x7, rfl, s7, o7, m7, _⟩ := Leaf.slice GroupD.cells GroupD.ok Tryz.underlying37 cGroup (by decide) group_read l7
  obtain ⟨a8, rfl, w8⟩ := l8.int Tryz.underlying3
  obtain ⟨a9, rfl⟩ := l9.bool Tryz.underlying4
  obtain ⟨a10, rfl, w10⟩ := l10.int Tryz.underlying3
  obtain ⟨a11, rfl, w11⟩ := l11.int Tryz.underlying3
  obtain ⟨a12, rfl, w12⟩ := l12.int Tryz.underlying3
  obtain ⟨a13, rfl⟩ := l13.bool Tryz.underlying4
  obtain ⟨a14, rfl⟩ := l14.bool Tryz.underlying4
  obtain ⟨a15, rfl, w15⟩ := l15.int Tryz.underlying3
  obtain ⟨a16, rfl, w16⟩ := l16.int Tryz.underlying3
  obtain ⟨a17, rfl, w17⟩ := l17.int Tryz.underlying3
  obtain ⟨A18, n18, k18, x18, rfl, s18, o18, m18, _⟩ := Leaf.slice repCells (fun r => In64 r.1 ∧ In64 r.2) Tryz.underlying44 cReport (by decide) report_read l18
  obtain ⟨a19, rfl, w19⟩ := l19.int Tryz.underlying3
  obtain ⟨a20, rfl, w20⟩ := l20.int Tryz.underlying3
  obtain ⟨a21, rfl, w21⟩ := l21.int Tryz.underlying3
  obtain ⟨A22, n22, k22, x22, rfl, s22, o22, m22, _⟩ := Leaf.slice intCell In64 Tryz.underlying45 cInt (by decide) int_read l22
  obtain ⟨A23, n23, k23, x23, rfl, s23, o23, m23, _⟩ := Leaf.slice AllocD.cells AllocD.ok Tryz.underlying25 cAlloc (by decide) alloc_read l23
  obtain ⟨a24, rfl⟩ := l24.bool Tryz.underlying4
  obtain ⟨A25, n25, k25, x25, rfl, s25, o25, m25, _⟩ := Leaf.slice intCell In64 Tryz.underlying45 cInt (by decide) int_read l25
  obtain ⟨A26, n26, k26, x26, rfl, s26, o26, m26, _⟩ := Leaf.slice intCell In64 Tryz.underlying45 cInt (by decide) int_read l26
  refine ⟨⟨a0, a1, a2, ⟨a3, a4, a5, a6, x7, a8, a9⟩, A7, n7, k7, ⟨a10, ⟨a11, a12⟩, a13, a14, a15, a16, a17⟩, x18, A18, n18, k18, a19, a20, a21, x22, A22, n22, k22, x23, A23, n23, k23, a24, .slice A25 n25 k25, .slice A26 n26 k26⟩, rfl, ?_⟩
  refine ⟨s7, by simp only; omega, s18, by simp only; omega, s22, by simp only; omega, s23, by simp only; omega, rfl, rfl, ?_⟩
  refine ⟨in64_of w1, in64_of w2, ⟨⟨in64_of w3, in64_of w4, in64_of w5, in64_of w6, in64_of w8⟩, o7, ?_⟩, ⟨in64_of w10, in64_of w11, in64_of w12, in64_of w15, in64_of w16, in64_of w17⟩, o18, in64_of w21, o23⟩
  have h9 := s7.len
  show x7.length ≤ _
  omega
end
end
end Go.Proofs.YtlpfcmnnmdhaoaaGreat
