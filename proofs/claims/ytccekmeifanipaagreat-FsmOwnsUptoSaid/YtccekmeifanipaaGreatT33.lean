/- Parts of the proof: MApply -/
import Derived.Test.YtccekmeifanipaaGreatT32
import Derived.Test.YtccekmeifanipaaGreatT25
import Derived.Test.YtccekmeifanipaaGreatT18
import Derived.Test.YtccekmeifanipaaGreatT23
import Derived.Test.YtccekmeifanipaaGreatT14
import Derived.Test.YtccekmeifanipaaGreatT09
import Derived.Test.YtccekmeifanipaaGreatT10
namespace Go.Proofs.YtccekmeifanipaaGreat
set_option linter.unusedVariables false
set_option linter.unusedSimpArgs false
set_option linter.unusedSectionVars false
open Go.RowKit
open Go.Maps (Keyed)
theorem Rh (w:World):(zeroValue 80).run Tryz.prog w=.ok .nilFunc w:=by
 have h:(Tryz.prog.info? 80).bind (·.zero)=some .nilFunc:=by kernel_rfl
 obtain ⟨i,h1,h2⟩:=Option.bind_eq_some_iff.1 h
 simp [zeroValue,typeInfo,h1,h2,Result.andThen]
theorem OZ {w:World} {b:Nat} (h:MapIs Tryz.prog 3 (.int .i64) KZ w b Hm) {op:Int} (h0:(Lit.int .i64 op).wf=true) :
  (Instr.lookup 82 (.map (some b)) (.int .i64 op) true).run Tryz.prog w=.ok (.tuple #[(Ey op Hm).elim .nilFunc KZ,.bool (Ey op Hm).isSome]) w:=by
 simpa using h.look KLi Qg QX (Rh w) (Maps.keyOf_int_mk ULi h0) true
namespace Fsm
theorem Wf.Qz {s:Ab} (h:Wf (came s)):Wf s:=by
 refine ⟨h.j,h.t,h.n,?_,h.d,h.x,?_,h.jc,h.tc⟩
 ·have h1:=h.e
  have h2:(came s).evals.map EvalD.job=s.evals.map EvalD.job:=by
   show (s.evals.map (Br s.index)).map EvalD.job=_
   rw [List.map_map]
   exact List.map_congr_left fun e _=>by show (Br s.index e).job=e.job;unfold Br;split <;> rfl
  show (s.evals.map EvalD.job).Pairwise _
  rw [← h2]
  exact h1
 intro e he
 have h1:=h.es (Br s.index e) (List.mem_map_of_mem he)
 unfold Br at h1
 split at h1
 ·rename_i q;simp at q;omega
 exact h1
end Fsm
set_option maxRecDepth 20000 in
set_option maxHeartbeats 4000000 in
theorem NL {op:Int} {f:Nat} (h:Ey op Hm=some f) (args:Array Value) (w:World):Sem.run Tryz.prog (callFunc f args) w=.ok (.enter f args) w:=by
 simp only [Hm,Ey] at h
 repeat' split at h
 all_goals (first|(focus (cases h;done))|(cases h;first|go_simp|rfl))
namespace Fsm
theorem LV {s:Ab} {ix:Int} {c:BV} (h:Ey c.op Hm=none):apply s ix c=({ s with index:=ix },⟨50,0,[]⟩):=by
 have h1:=Qq h (s:={ s with index:=ix }) (c:=c) rfl
 have h3:c.op ≠ 3:=fun e=>by rw [e] at h;exact absurd h (by decide)
 have h4:c.op ≠ 4:=fun e=>by rw [e] at h;exact absurd h (by decide)
 have h8:c.op ≠ 8:=fun e=>by rw [e] at h;exact absurd h (by decide)
 rw [GX (by simp [bne,h3,h4,h8])]
 exact h1
theorem Ox {s s5:Ab} {cm:Bool} {r:AQ} {c:BV} (hev:Evs s) (hi:1≤s.index) (hw:Wf s) (h:command s c=((if cm then came s5 else s5),r)):Wf s5∧s5.evals.length≤s.jobs.length+1:=by
 have h1:=(G7 hev hi c).1
 have h2:=(ER s c).j
 have h3:=congrArg List.length h1.keys
 have h4:=FT hw c
 rw [h] at h2 h3 h4
 simp only [List.length_map] at h3
 cases cm with
 | true=>exact ⟨h4.Qz,by have h5:(came s5).evals.length=s5.evals.length:=List.length_map _;simp only [if_true] at h2 h3;omega⟩
 | false=>exact ⟨h4,by simp only [Bool.false_eq_true,if_false] at h2 h3;omega⟩
theorem Oy (x y:Int):(!inB x 1 4 || !inB y 1 1099511627776)=(decide (x < 1) || decide (4 < x) || decide (y < 1) || decide (1099511627776 < y)):=by
 rw [Bool.eq_iff_iff]
 simp [inB]
 omega
theorem Mx {m:Nat} {t:Aa} {cm:Bool} (h:(if cm then came t.data else t.data).seen.length≤m):t.seen.length≤m:=by
 cases cm <;> simpa [came,Aa.data] using h
theorem Pi {t:Aa} (h:Wf t.data):Up (fun y:SeenV=>y.1.client) t.seen:=by
 have h1:=h.x
 unfold Up at h1 ⊢
 simpa [Aa.data,List.map_map,Function.comp_def] using h1
theorem JJ (t:Aa) (x:SeenV) (A:Option Addr) (c:Nat):(t.FV A c (Ak (fun y:SeenV=>y.1.client) x t.seen)).data={ t.data with seen:=Ak Co.client x.1 t.data.seen }:=by
 unfold Aa.data Aa.FV
 simp only []
 rw [J4]
theorem Qw {t:Aa} (h:Wf t.data) (c:Bl) {r:AQ} {Av A:Option Addr} {cv c' : Nat}:Wf (t.FV A c' (Ak (fun y:SeenV=>y.1.client) (⟨⟨c.client,c.req,⟨r.code,r.value,[]⟩⟩,.slice Av 0 cv⟩ : SeenV) t.seen)).data:=by
 rw [JJ]
 exact MO h _
theorem NP {t:Aa} {cm:Bool} {r:AQ} {Av A:Option Addr} {cv c' : Nat} {d:Ab × AQ} {u:Ab} (c:Bl) (hr:r.allocs=[]) (h:d=({ (if cm then came t.data else t.data) with seen:=Ak Co.client ⟨c.d.client,c.d.req,r⟩ (if cm then came t.data else t.data).seen },r))
  (hu:u=if cm then came (t.FV A c' (Ak (fun y:SeenV=>y.1.client) (⟨⟨c.client,c.req,⟨r.code,r.value,[]⟩⟩,.slice Av 0 cv⟩ : SeenV) t.seen)).data else (t.FV A c' (Ak (fun y:SeenV=>y.1.client) (⟨⟨c.client,c.req,⟨r.code,r.value,[]⟩⟩,.slice Av 0 cv⟩ : SeenV) t.seen)).data):d=(u,r):=by
 obtain ⟨x,y,q⟩:=r
 change q=[] at hr
 subst hr
 rw [h,hu,JJ]
 cases cm <;> rfl
theorem QT (a b d e:Bool):(!(a || b || d) || e)=(((!a) && (!b) && (!d)) || e):=by cases a <;> cases b <;> cases d <;> rfl
end Fsm
theorem Az.lo6 {base b q:Nat} {W:World} {s:Aa} {cm:Bool} (h:Az base W b s cm) (e:MW s b q):base≤q:=(h.mw e).1
structure OJ (s:Aa) (c:Bl) (ix:Int) (w:World) (e:Ending) (w' : World):Prop where
 out:∃ s' r rv,e=.returned (.tuple #[.agg s'.arr,.agg #[.int .i64 r.code,.int .i64 r.value,rv]])∧Aw w.heap.size w' s'∧Fsm.apply s.data ix c.d=(s'.data,r)∧CJ w.heap.size w' rv r.allocs∧Ext Nothing w w'
set_option maxRecDepth 20000 in
set_option maxHeartbeats 16000000 in
theorem Qt (hplan:D9 56 9) (s:Aa) (c:Bl) (ix term:Int) (w:World) (hs:s.Lay w) (hsx:∀ y∈s.seen,y.1.answer.allocs=[]) (hc:Dx w.heap.size w c) (hop:(Lit.int .i64 c.op).wf=true) (hl:Lim s) (hX:s.seen.length≤1048576) (hw:Fsm.Wf s.data) (hev:Fsm.Evs s.data) (hix:s.index≤ix) (hi:1≤ix) :
  Calls Tryz.prog 15 #[.agg s.arr,.agg (c.ent ix term)] w fun e w'=>OJ s c ix w e w':=by
 have hxW:Ext Nothing w ((((w.alloc (.cells s.arr 30)).alloc (.cells (c.ent ix term) 53)).alloc (.cells #[.int .i64 0,.int .i64 0,.slice none 0 0,.slice none 0 0,.slice none 0 0,.slice none 0 0,.slice none 0 0,.slice none 0 0,.slice none 0 0] 30)).alloc (.cells #[.int .i64 0,.int .i64 0,.slice none 0 0] 34)):=Ext.Ay
 have hBW:Blk ((((w.alloc (.cells s.arr 30)).alloc (.cells (c.ent ix term) 53)).alloc (.cells #[.int .i64 0,.int .i64 0,.slice none 0 0,.slice none 0 0,.slice none 0 0,.slice none 0 0,.slice none 0 0,.slice none 0 0,.slice none 0 0] 30)).alloc (.cells #[.int .i64 0,.int .i64 0,.slice none 0 0] 34)) w.heap.size 30 s.arr:=(Blk.new w _ _).e0 Ext.Ay
 have hXW:Blk ((((w.alloc (.cells s.arr 30)).alloc (.cells (c.ent ix term) 53)).alloc (.cells #[.int .i64 0,.int .i64 0,.slice none 0 0,.slice none 0 0,.slice none 0 0,.slice none 0 0,.slice none 0 0,.slice none 0 0,.slice none 0 0] 30)).alloc (.cells #[.int .i64 0,.int .i64 0,.slice none 0 0] 34)) (w.heap.size+1) 53 (c.ent ix term):=(Blk.new' (w.alloc (.cells s.arr 30)) _ _ (by simp)).e0 Ext.Ay
 have hRW:Blk ((((w.alloc (.cells s.arr 30)).alloc (.cells (c.ent ix term) 53)).alloc (.cells #[.int .i64 0,.int .i64 0,.slice none 0 0,.slice none 0 0,.slice none 0 0,.slice none 0 0,.slice none 0 0,.slice none 0 0,.slice none 0 0] 30)).alloc (.cells #[.int .i64 0,.int .i64 0,.slice none 0 0] 34)) (w.heap.size+1+1) 30 #[.int .i64 0,.int .i64 0,.slice none 0 0,.slice none 0 0,.slice none 0 0,.slice none 0 0,.slice none 0 0,.slice none 0 0,.slice none 0 0]:=(Blk.new' ((w.alloc (.cells s.arr 30)).alloc (.cells (c.ent ix term) 53)) _ _ (by simp)).e0 Ext.Ay
 have hEW:Blk ((((w.alloc (.cells s.arr 30)).alloc (.cells (c.ent ix term) 53)).alloc (.cells #[.int .i64 0,.int .i64 0,.slice none 0 0,.slice none 0 0,.slice none 0 0,.slice none 0 0,.slice none 0 0,.slice none 0 0,.slice none 0 0] 30)).alloc (.cells #[.int .i64 0,.int .i64 0,.slice none 0 0] 34)) (w.heap.size+1+1+1) 34 #[.int .i64 0,.int .i64 0,.slice none 0 0]:=Blk.new' _ _ _ (by simp)
 go_enter Tryz.func15,Tryz.ntmps15
 go_upto_region 1 with (first|go_skip|go_guarded)
 generalize ((((w.alloc (.cells s.arr 30)).alloc (.cells (c.ent ix term) 53)).alloc (.cells #[.int .i64 0,.int .i64 0,.slice none 0 0,.slice none 0 0,.slice none 0 0,.slice none 0 0,.slice none 0 0,.slice none 0 0,.slice none 0 0] 30)).alloc (.cells #[.int .i64 0,.int .i64 0,.slice none 0 0] 34))=W at hxW hBW hXW hRW hEW ⊢
 have hzW:w.heap.size+1+1+1 < W.heap.size:=hEW.lt
 have hsW:=hs.Al hxW
 have x0:W.cell? ⟨w.heap.size+1,0,none⟩=some (.int .i64 ix):=hXW.cell 0
 have hd:Ext Nothing W W.drew:=(Ext.refl _ _).drew
 refine zS (S:=fun W'=>Ext Nothing W W') (by kernel_rfl) ?_
 generalize W.drew=Wd at hd ⊢
 refine zV 0 (.agg s.arr) rfl (by kernel_rfl) hd (fun _ _ _ h=>h) (fun W' hS'=>by exact AB rfl Aj (by go_simp) (hBW.e0 hS') rfl) ?_
 refine zV 2 (.pointer (some ⟨w.heap.size+1,0,none⟩)) rfl (by kernel_rfl) hd (fun _ _ _ h=>h) (fun W' hS'=>by go_simp) ?_
 refine zV 3 (.int .i64 ix) rfl (by kernel_rfl) hd (fun _ _ _ h=>h) (fun W' hS'=>by have q:=hS'.c0 x0;go_simp) ?_
 (try simp only [Act.put,zA,zB,zC,zD,zE,zF])
 refine zO 1 (by kernel_rfl) ?_
 refine Ai (f:=29) (args:=#[.agg s.arr]) rfl (by rfl) (by go_simp) ((Nc s Wd (hsW.Al hd)).mono ?_)
 rintro e w1 ⟨s1,rfl,hC1,hx1⟩
 have hd1:=hd.tr hx1
 refine ⟨_,rfl,hd1,?_⟩
 (try simp only [Act.put,zA,zB,zC,zD,zE,zF])
 refine zV 4 (.agg #[.int .i64 s1.index,.int .i64 s1.next,.slice s1.AJ s1.nJ s1.cJ,.slice s1.AS s1.nS s1.cS,.slice s1.AN s1.nN s1.cN,.slice s1.AA s1.nA s1.cA,.slice s1.AE s1.nE s1.cE,.slice s1.AD s1.nD s1.cD,.slice s1.AX s1.nX s1.cX,.int .i64 ix,.bool false]) rfl (by kernel_rfl) hd1 (fun _ _ _ h=>h) (fun W' hS'=>by go_simp) ?_
 (try simp only [Act.put,zA,zB,zC,zD,zE,zF])
 refine zO 5 (by kernel_rfl) ?_
 have hal:Ext Nothing w1 (w1.alloc (.cells #[.int .i64 s1.index,.int .i64 s1.next,.slice s1.AJ s1.nJ s1.cJ,.slice s1.AS s1.nS s1.cS,.slice s1.AN s1.nN s1.cN,.slice s1.AA s1.nA s1.cA,.slice s1.AE s1.nE s1.cE,.slice s1.AD s1.nD s1.cD,.slice s1.AX s1.nX s1.cX,.int .i64 ix,.bool false] 79)):=Ext.Ay
 refine wpOp_val (v:=.pointer (some ⟨w1.heap.size,0,none⟩)) (w':=(w1.alloc (.cells #[.int .i64 s1.index,.int .i64 s1.next,.slice s1.AJ s1.nJ s1.cJ,.slice s1.AS s1.nS s1.cS,.slice s1.AN s1.nN s1.cN,.slice s1.AA s1.nA s1.cA,.slice s1.AE s1.nE s1.cE,.slice s1.AD s1.nD s1.cD,.slice s1.AX s1.nX s1.cX,.int .i64 ix,.bool false] 79))) rfl (by rfl) (by go_simp) ⟨hd1.tr hal,?_⟩
 refine zV 6 (.pointer (some ⟨w1.heap.size,0,none⟩)) rfl (by kernel_rfl) (hd1.tr hal) (fun _ _ _ h=>h) (fun W' hS'=>by go_simp) ?_
 refine wpAnyH_done (by kernel_rfl) ?_ _
 (try simp only [Act.put,zA,zB,zC,zD,zE,zF])
 have hzd:=hd.size
 have hz1:=hx1.size
 have hO1:=((hC1.own hsx).base (show w.heap.size≤Wd.heap.size by have:=hxW.size;omega)).AP hal
 have HDA:=Lib.hid hC1.data
 clear hC1
 have hMb:Blk (w1.alloc (.cells #[.int .i64 s1.index,.int .i64 s1.next,.slice s1.AJ s1.nJ s1.cJ,.slice s1.AS s1.nS s1.cS,.slice s1.AN s1.nN s1.cN,.slice s1.AA s1.nA s1.cA,.slice s1.AE s1.nE s1.cE,.slice s1.AD s1.nD s1.cD,.slice s1.AX s1.nX s1.cX,.int .i64 ix,.bool false] 79)) w1.heap.size 79 #[.int .i64 s1.index,.int .i64 s1.next,.slice s1.AJ s1.nJ s1.cJ,.slice s1.AS s1.nS s1.cS,.slice s1.AN s1.nN s1.cN,.slice s1.AA s1.nA s1.cA,.slice s1.AE s1.nE s1.cE,.slice s1.AD s1.nD s1.cD,.slice s1.AX s1.nX s1.cX,.int .i64 ix,.bool false]:=Blk.new _ _ _
 have hR2:=hRW.e0 (hd1.tr hal)
 have hE2:=hEW.e0 (hd1.tr hal)
 have hX2:=hXW.e0 (hd1.tr hal)
 have hx2:=hxW.tr (hd1.tr hal)
 have hbE:w.heap.size+1+1+1 < w1.heap.size:=by omega
 generalize (w1.alloc (.cells #[.int .i64 s1.index,.int .i64 s1.next,.slice s1.AJ s1.nJ s1.cJ,.slice s1.AS s1.nS s1.cS,.slice s1.AN s1.nN s1.cN,.slice s1.AA s1.nA s1.cA,.slice s1.AE s1.nE s1.cE,.slice s1.AD s1.nD s1.cD,.slice s1.AX s1.nX s1.cX,.int .i64 ix,.bool false] 79))=w2 at hO1 hMb hR2 hE2 hX2 hx2 ⊢
 generalize w1.heap.size=b at hMb hbE ⊢
 clear x0 hal hd1 hx1 hd hsW hBW hXW hRW hEW hxW hzd hz1
 have x0:w2.cell? ⟨w.heap.size+1,0,none⟩=some (.int .i64 ix):=hX2.cell 0
 have b0:w2.cell? ⟨b,0,none⟩=some (.int .i64 s1.index):=hMb.cell 0
 have b0f:w2.frozen? ⟨b,0,none⟩=false:=hMb.frozen 0
 have hs3:Ext (fun q=>q=b) w2 (w2.setCell ⟨b,0,none⟩ (.int .i64 ix)):=Ext.set1 _ _ _ _
 have hM3:Az w.heap.size (w2.setCell ⟨b,0,none⟩ (.int .i64 ix)) b ({ s1 with index:=ix }:Aa) false:=⟨hMb.Bi 0 _,(hO1.keep hs3 (Apart.one hMb (by decide))).index ix,by omega⟩
 go_upto_region 3 with (first|go_skip|go_guarded)
 have hX3:=hX2.ext hs3 (fun e=>absurd (show w.heap.size+1=b from e) (by omega))
 have hR3:=hR2.ext hs3 (fun e=>absurd (show w.heap.size+1+1=b from e) (by omega))
 have hE3:=hE2.ext hs3 (fun e=>absurd (show w.heap.size+1+1+1=b from e) (by omega))
 have hx3:Ext Nothing w (w2.setCell ⟨b,0,none⟩ (.int .i64 ix)):=hx2.trans hs3 (fun q hq e=>absurd (show q=b from e) (by omega))
 clear x0 b0 b0f hs3 hO1 hMb hX2 hR2 hE2 hx2
 generalize w2.setCell ⟨b,0,none⟩ (.int .i64 ix)=w3 at hM3 hX3 hR3 hE3 hx3 ⊢
 have x2:w3.cell? ⟨w.heap.size+1,2,none⟩=some (.int .i64 c.op):=hX3.cell 2
 have hd:Ext Nothing w3 w3.drew:=(Ext.refl _ _).drew
 refine zS (S:=fun W'=>Ext Nothing w3 W') (by kernel_rfl) ?_
 generalize w3.drew=Wd at hd ⊢
 refine zV 1 (.pointer (some ⟨w.heap.size+1,2,none⟩)) rfl (by kernel_rfl) hd (fun _ _ _ h=>h) (fun W' hS'=>by go_simp) ?_
 refine zV 2 (.pointer (some ⟨w.heap.size+1,2,none⟩)) rfl (by kernel_rfl) hd (fun _ _ _ h=>h) (fun W' hS'=>by go_simp) ?_
 refine zV 3 (.int .i64 c.op) rfl (by kernel_rfl) hd (fun _ _ _ h=>h) (fun W' hS'=>by have q:=hS'.c0 x2;go_simp) ?_
 (try simp only [Act.put,zA,zB,zC,zD,zE,zF])
 refine zO 0 (by kernel_rfl) ?_
 refine Ai (f:=30) (args:=#[]) rfl (by rfl) (by go_simp) ((NH Wd).mono ?_)
 rintro e w4 ⟨mb,rfl,hMap,hx4⟩
 have hd4:=hd.tr hx4
 refine ⟨_,rfl,hd4,?_⟩
 (try simp only [Act.put,zA,zB,zC,zD,zE,zF])
 have hlook:=OZ hMap hop
 generalize hg:Ey c.op Hm=g at hlook
 refine zO 4 (by kernel_rfl) ?_
 refine wpOp_val (v:=.tuple #[g.elim .nilFunc KZ,.bool g.isSome]) (w':=w4) rfl (by rfl) (by go_simp) ⟨hd4,?_⟩
 (try simp only [Act.put,zA,zB,zC,zD,zE,zF])
 refine zV 5 (.tuple #[g.elim .nilFunc KZ,.bool g.isSome]) rfl (by kernel_rfl) hd4 (fun _ _ _ h=>h) (fun W' hS'=>by go_simp) ?_
 refine zV 6 (g.elim .nilFunc KZ) rfl (by kernel_rfl) hd4 (fun _ _ _ h=>h) (fun W' hS'=>by go_simp) ?_
 refine zV 7 (.bool g.isSome) rfl (by kernel_rfl) hd4 (fun _ _ _ h=>h) (fun W' hS'=>by go_simp) ?_
 refine zV 8 (g.elim .nilFunc KZ) rfl (by kernel_rfl) hd4 (fun _ _ _ h=>h) (fun W' hS'=>by go_simp) ?_
 refine zV 9 (.bool g.isSome) rfl (by kernel_rfl) hd4 (fun _ _ _ h=>h) (fun W' hS'=>by go_simp) ?_
 refine wpAnyH_done (by kernel_rfl) ?_ _
 (try simp only [Act.put,zA,zB,zC,zD,zE,zF])
 clear hlook
 have hM4:=hM3.e0 hd4
 have hX4:=hX3.e0 hd4
 have hR4:=hR3.e0 hd4
 have hE4:=hE3.e0 hd4
 have hxw4:=hx3.tr hd4
 clear hM3 hX3 hR3 hE3 hx3 hd hd4 hx4 x2 hMap
 have HDV:=Lib.hid (show ({ s1 with index:=ix }:Aa).data=({ s.data with index:=ix }:Ab) by rw [← HDA.out];rfl)
 clear HDA
 have hxw4z:=hxw4.size
 cases g with
 | none =>
  have HF:=Lib.hid (show Fsm.apply s.data ix c.d=(({ s1 with index:=ix }:Aa).data,⟨50,0,[]⟩) by rw [HDV.out];exact Fsm.LV (c:=c.d) hg)
  clear hg
  simp only [Option.elim,Option.isSome]
  go_upto_region 5 with (first|go_skip|go_guarded)
  have hd:Ext Nothing w4 w4.drew:=(Ext.refl _ _).drew
  refine zS (S:=fun W'=>Ext (fun q=>q=w.heap.size+1+1 ∨ q=w.heap.size+1+1+1) w4 W') (by kernel_rfl) ?_
  have hS:=hd.any (S:=fun q=>q=w.heap.size+1+1 ∨ q=w.heap.size+1+1+1)
  generalize w4.drew=Wd at hd hS ⊢
  refine zV 0 (.pointer (some ⟨b,0,none⟩)) rfl (by kernel_rfl) hS (fun _ _ _ h=>h) (fun W' hS'=>by go_simp) ?_
  refine zV 1 (.pointer (some ⟨b,0,none⟩)) rfl (by kernel_rfl) hS (fun _ _ _ h=>h) (fun W' hS'=>by go_simp) ?_
  refine zV 2 (.pointer (some ⟨b,0,none⟩)) rfl (by kernel_rfl) hS (fun _ _ _ h=>h) (fun W' hS'=>by go_simp) ?_
  refine zV 3 (.agg ({ s1 with index:=ix }:Aa).arr) rfl (by kernel_rfl) hS (fun _ _ _ h=>h) (fun W' hS'=>by exact run_load_struct (sz:=9) (b:=b) (off:=0) rfl Aj (by go_simp) (fun j u hu=>hS'.cell (hM4.at j u hu) (fun e=>by have h8:b=w.heap.size+1+1 ∨ b=w.heap.size+1+1+1:=e;omega)) rfl) ?_
  (try simp only [Act.put,zA,zB,zC,zD,zE,zF])
  refine zO 4 (by kernel_rfl) ?_
  refine Ai (f:=31) (args:=#[.int .i64 50]) rfl (by rfl) (by go_simp) ((mNo 50 Wd).mono ?_)
  rintro e w8 ⟨rfl,hx8⟩
  have hd8:=hd.tr hx8
  refine ⟨_,rfl,hd8.any,?_⟩
  (try simp only [Act.put,zA,zB,zC,zD,zE,zF])
  refine zO 5 (by kernel_rfl) ?_
  refine Bq (p:=(w.heap.size+1+1)) (cs:=({ s1 with index:=ix }:Aa).arr) rfl (by rfl) rfl (by go_simp) (by go_simp) (hR4.e0 hd8) rfl Aj rfl rfl (fun w9 hR9 hx9=>?_)
  have hd9:=(hd8.any (S:=fun q=>q=w.heap.size+1+1 ∨ q=w.heap.size+1+1+1)).trans hx9 (fun q hq e=>.inl e)
  refine ⟨hd9,?_⟩
  (try simp only [Act.put,zA,zB,zC,zD,zE,zF])
  refine zO 6 (by kernel_rfl) ?_
  refine Bq (p:=(w.heap.size+1+1+1)) (cs:=(Au 50 0)) rfl (by rfl) rfl (by go_simp) (by go_simp) ((hE4.e0 hd8).ext hx9 (fun e=>absurd (show (w.heap.size+1+1+1)=(w.heap.size+1+1) from e) (by omega))) rfl STResult rfl rfl (fun w10 hE10 hx10=>?_)
  have hda:=hd9.trans hx10 (fun q hq e=>.inr e)
  refine ⟨hda,wpAnyH_done (by kernel_rfl) ?_ _⟩
  (try simp only [Act.put,zA,zB,zC,zD,zE,zF])
  have hR10:=hR9.ext hx10 (fun e=>absurd (show (w.heap.size+1+1)=(w.heap.size+1+1+1) from e) (by omega))
  go_wp2
  exact bodyPost_ret (BO rfl Aj STResult rfl rfl hR10 rfl hE10 rfl) rfl ⟨({ s1 with index:=ix }:Aa),⟨50,0,[]⟩,.slice none 0 0,rfl,hM4.own.keep hda (fun q e=>by rcases e with rfl|rfl;exact ⟨_,_,hR4,by decide⟩;exact ⟨_,_,hE4,by decide⟩),HF.out,CJ.nil _ _,hxw4.trans hda (fun q hq e=>by have h9:q < w.heap.size:=hq;have h8:q=w.heap.size+1+1 ∨ q=w.heap.size+1+1+1:=e;omega)⟩
 | some f =>
  simp only [Option.elim,Option.isSome]
  have hF:D9 f c.op:=QM hplan hg
  unfold D9 at hF
  have hent:=NL hg
  have hce:∀ j u,c.arr.toList[j]? = some u→w4.cell? ⟨w.heap.size+1,2+j,none⟩=some u:=fun j u hu=>by rw [hX4.cell];exact c.Q9 ix term j u hu
  have hone:c.arr.toList.all Value.oneCell' = true:=by simp [Value.oneCell'];exact ⟨hc.o25,hc.o26⟩
  go_upto_region 7 with (first|go_skip|go_guarded|((with_reducible refine isW ?_);refine Ad rfl 51 _ rfl IE (w.heap.size+1) 2 rfl c.arr hce rfl ?_)|((with_reducible refine isW ?_);refine Jf rfl 51 rfl Ra ?_;intro z wz hz hBz hxz)|((with_reducible refine isW ?_);refine Af rfl 51 _ _ rfl IE w4.heap.size rfl c.arr rfl (show Blk _ _ 51 _ from hBz) hz rfl hone ?_;intro w6 hC6 hx6c))
  have hx6:Ext Nothing w4 w6:=hxz.trans hx6c (fun q hq e=>absurd (show q=w4.heap.size from e) (by omega))
  have hM6:=hM4.e0 hx6
  have hR6:=hR4.e0 hx6
  have hE6:=hE4.e0 hx6
  have hxw6:=hxw4.tr hx6
  have hzC:(w.heap.size+1+1+1) < w4.heap.size:=hE4.lt
  have hbC:b < w4.heap.size:=hM4.blk.lt
  clear hce hX4 hM4 hR4 hE4 hxw4 hx6 hx6c hxz hBz hz
  generalize hcc:w4.heap.size=CC at hC6 hzC hbC ⊢
  clear hcc
  have q0:w6.cell? ⟨CC,0,none⟩=some (.int .i64 c.op):=hC6.cell 0
  have q1:w6.cell? ⟨CC,1,none⟩=some (.int .i64 c.client):=hC6.cell 1
  have q2:w6.cell? ⟨CC,2,none⟩=some (.int .i64 c.req):=hC6.cell 2
  have hc6:=hc.AP hxw6
  have hb6:=hxw6.size
  have HL:=Lib.hid (show Lim ({ s1 with index:=ix }:Aa) from by have e1:=congrArg (fun z:Ab=>z.jobs.length) HDV.out;have e2:=congrArg (fun z:Ab=>z.nodes.length) HDV.out;have e3:=congrArg (fun z:Ab=>z.allocs.length) HDV.out;have e4:=congrArg (fun z:Ab=>z.deploys.length) HDV.out;have e5:=congrArg (fun z:Ab=>z.stable.length) HDV.out;have e6:=congrArg (fun z:Ab=>z.evals.length) HDV.out;simp only [Aa.data,List.length_map] at e1 e2 e3 e4 e5 e6;obtain ⟨l1,l2,l3,l4,l5,l6⟩:=hl;exact ⟨by show s1.jobs.length≤_;omega,by show s1.nodes.length≤_;omega,by show s1.allocs.length≤_;omega,by show s1.deploys.length≤_;omega,by show s1.stable.length≤_;omega,by show s1.evals.length≤_;omega⟩)
  have HW:=Lib.hid (show Fsm.Wf ({ s1 with index:=ix }:Aa).data from by rw [HDV.out];exact hw.ix ix)
  have HV:=Lib.hid (show Fsm.Evs ({ s1 with index:=ix }:Aa).data from by rw [HDV.out];exact ⟨hev.keys,hev.sorted,fun e he=>⟨(hev.bound e he).1,Int.le_trans (hev.bound e he).2 hix⟩,hev.own⟩)
  have HI:=Lib.hid (show 1≤({ s1 with index:=ix }:Aa).data.index from hi)
  (try simp only [Act.put,zA,zB,zC,zD,zE,zF])
  go_upto_region 7 with fail
  go_cut [10] from 42 to 54 (fun d wx=>d=.bool ((c.op == 3) || (c.op == 4) || (c.op == 8))∧w6=wx)
  case first =>
   cases o3:(c.op == 3) with
   | true =>
    go_wp2_with (first|go_skip|go_guarded)
    go_meet
    exact ⟨by rw [o3];rfl,rfl⟩
   | false =>
    cases o4:(c.op == 4) with
    | true =>
     go_wp2_with (first|go_skip|go_guarded)
     go_meet
     exact ⟨by rw [o3,o4];rfl,rfl⟩
    | false =>
     cases o8:(c.op == 8) with
     | true =>
      go_wp2_with (first|go_skip|go_guarded)
      go_meet
      exact ⟨by rw [o3,o4,o8];rfl,rfl⟩
     | false =>
      go_wp2_with (first|go_skip|go_guarded)
      go_meet
      exact ⟨by rw [o3,o4,o8];rfl,rfl⟩
  case rest =>
   obtain ⟨rfl,rfl⟩:=hcut
   have hae:(!((c.op == 3) || (c.op == 4) || (c.op == 8)) || (c.client == 0))=(((c.op != 3) && (c.op != 4) && (c.op != 8)) || (c.client == 0)):=Fsm.QT _ _ _ _
   generalize ((c.op == 3) || (c.op == 4) || (c.op == 8))=ak at hae ⊢
   (try simp only [Act.put,zA,zB,zC,zD,zE,zF])
   go_upto_region 8 with fail
   go_cut [61] from 55 to 60 (fun e wx=>e=.bool (!ak || (c.client == 0))∧w6=wx)
   case first =>
    cases ak with
    | false =>
     go_wp2_with (first|go_skip|go_guarded)
     go_meet
     exact ⟨by rfl,rfl⟩
    | true =>
     cases cl:(c.client == 0) with
     | true =>
      go_wp2_with (first|go_skip|go_guarded)
      go_meet
      exact ⟨by first|rfl|(rw [cl];rfl),rfl⟩
     | false =>
      go_wp2_with (first|go_skip|go_guarded)
      go_meet
      exact ⟨by first|rfl|(rw [cl];rfl),rfl⟩
   case rest =>
    obtain ⟨rfl,rfl⟩:=hcut
    rw [hae]
    clear hae
    cases ask:(((c.op != 3) && (c.op != 4) && (c.op != 8)) || (c.client == 0)) with
    | true =>
     have HF:=Lib.hid (show Fsm.apply s.data ix c.d=Fsm.command ({ s1 with index:=ix }:Aa).data c.d by rw [HDV.out];exact Fsm.GX ask)
     clear q0 q1 q2
     go_wp2_with (first|go_skip|go_guarded|((with_reducible refine isW ?_);refine Ae rfl 51 _ rfl IE CC rfl c.arr (show Blk _ _ 51 _ from hC6) rfl ?_))
     refine (hF w.heap.size b ({ s1 with index:=ix }:Aa) c w6 rfl hM6 hc6 hb6 HL.out HW.out).mono ?_
     rintro e w7 ⟨s7,cm,r,rv,rfl,hM7,hF7,hres,hst⟩
     have HF7:=Lib.hid hF7
     have HEO:=Lib.hid (Fsm.Ox HV.out HI.out HW.out hF7)
     clear hF7
     obtain ⟨Av,cv,rfl,hov⟩:=hres
     have hE7l:s7.evals.length≤33554432:=by have h9:s7.data.evals.length≤({ s1 with index:=ix }:Aa).data.jobs.length+1:=HEO.out.2;have h8:s1.jobs.length≤1048575:=HL.out.j;have h7:({ s1 with index:=ix }:Aa).data.jobs.length=s1.jobs.length:=List.length_map _;have h6:s7.data.evals.length=s7.evals.length:=rfl;omega
     have hR7:=hR6.step hst (hM6.Cn hR6 (by decide))
     have hE7:=hE6.step hst (hM6.Cn hE6 (by decide))
     clear hR6 hE6
     go_wp2_with (first|go_skip|go_guarded|(go_at_call 32;(with_reducible refine (Q8 w.heap.size b s7 cm r.code r.value Av r.allocs.length cv w7 hM7 hE7l HEO.out.1).mono ?_);rintro e w8 ⟨s8,rfl,hM8,hd8,hst8,hxe8⟩;have HD8:=Lib.hid hd8;clear hd8;have hR8:=hR7.step hst8 (hM7.Cn hR7 (by decide));have hE8:=hE7.step hst8 (hM7.Cn hE7 (by decide)))|((with_reducible refine isW ?_);refine Af rfl 30 _ _ rfl Aj (w.heap.size+1+1) rfl s8.arr rfl (show Blk _ _ 30 _ from hR8) rfl rfl rfl ?_;intro w9 hRw9 hxw9)|((with_reducible refine isW ?_);refine Af rfl 34 _ _ rfl STResult (w.heap.size+1+1+1) rfl #[.int .i64 r.code,.int .i64 r.value,.slice Av r.allocs.length cv] rfl (show Blk _ _ 34 _ from hE8.ext hxw9 (fun e=>absurd (show (w.heap.size+1+1+1)=(w.heap.size+1+1) from e) (by omega))) rfl rfl rfl ?_;intro w10 hEw10 hxw10))
     have hR10:=hRw9.ext hxw10 (fun e=>absurd (show (w.heap.size+1+1)=(w.heap.size+1+1+1) from e) (by omega))
     have hxx:Ext (fun q=>q=w.heap.size+1+1 ∨ q=w.heap.size+1+1+1) w8 w10:=(hxw9.mono (fun _ _ e=>.inl e)).trans hxw10 (fun _ _ e=>.inr e)
     have hres:CJ w.heap.size w7 (.slice Av r.allocs.length cv) r.allocs:=⟨Av,cv,rfl,hov⟩
     have hz68:=hst.size
     have hz78:=hst8.size
     have hw8:Ext Nothing w w8:=(hxw6.trans hst.ext (fun q hq e=>absurd (hM6.lo6 e) (by omega))).trans hst8.ext (fun q hq e=>absurd (hM7.lo6 e) (by omega))
     exact bodyPost_ret (BO rfl Aj STResult rfl rfl hR10 rfl hEw10 rfl) rfl ⟨s8,r,.slice Av r.allocs.length cv,rfl,hM8.own.keep hxx (fun q e=>by rcases e with rfl|rfl;exact ⟨_,_,hR8,by decide⟩;exact ⟨_,_,hE8,by decide⟩),HF.out.trans (by rw [HF7.out,HD8.out]),(hres.keep hxe8 (Apart.row hM7.own.e (by decide))).keep hxx (fun q e=>by rcases e with rfl|rfl;exact ⟨_,_,hR8,by decide⟩;exact ⟨_,_,hE8,by decide⟩),hw8.trans hxx (fun q hq e=>by have h9:q < w.heap.size:=hq;have h8:q=w.heap.size+1+1 ∨ q=w.heap.size+1+1+1:=e;omega)⟩
    | false =>
     have HASK:=Lib.hid ask
     clear ask
     (try simp only [Act.put,zA,zB,zC,zD,zE,zF])
     go_upto_region 10 with (first|go_skip|go_guarded)
     (try simp only [Act.put,zA,zB,zC,zD,zE,zF])
     go_cut [79] from 70 to 78 (fun e wx=>e=.bool (!inB c.client 1 4 || !inB c.req 1 1099511627776)∧Ext Nothing w6 wx)
     case first =>
      cases e1:inB c.client 1 4 with
      | false =>
       go_wp2_with (first|go_skip|go_guarded|(go_at_call 33;(with_reducible refine (BR c.client 1 4 w6).mono ?_);rintro e wa ⟨rfl,hxa⟩;(rw [e1]);have q2a:=hxa.c0 q2))
       go_meet
       exact ⟨by rw [e1];rfl,hxa⟩
      | true =>
       cases e2:inB c.req 1 1099511627776 with
       | false =>
        go_wp2_with (first|go_skip|go_guarded|(go_at_call 33;(with_reducible refine (BR c.client 1 4 w6).mono ?_);rintro e wa ⟨rfl,hxa⟩;(rw [e1]);have q2a:=hxa.c0 q2)|(go_at_call 33;(with_reducible refine (BR c.req 1 1099511627776 wa).mono ?_);rintro e wb ⟨rfl,hxb⟩;(rw [e2])))
        go_meet
        exact ⟨by rw [e1,e2];rfl,hxa.tr hxb⟩
       | true =>
        go_wp2_with (first|go_skip|go_guarded|(go_at_call 33;(with_reducible refine (BR c.client 1 4 w6).mono ?_);rintro e wa ⟨rfl,hxa⟩;(rw [e1]);have q2a:=hxa.c0 q2)|(go_at_call 33;(with_reducible refine (BR c.req 1 1099511627776 wa).mono ?_);rintro e wb ⟨rfl,hxb⟩;(rw [e2])))
        go_meet
        exact ⟨by rw [e1,e2];rfl,hxa.tr hxb⟩
     case rest =>
      obtain ⟨rfl,hx7⟩:=hcut
      obtain ⟨w7,rfl⟩ : ∃ w7:World,w7=wc:=⟨_,rfl⟩
      have hM7:=hM6.e0 hx7
      have hR7:=hR6.e0 hx7
      have hE7:=hE6.e0 hx7
      have hC7:=hC6.e0 hx7
      have hc7:=hc6.AP hx7
      have hxw7:=hxw6.tr hx7
      clear hM6 hR6 hE6 hC6 hc6 hxw6 hx7 q0 q1 q2
      cases arg:(!inB c.client 1 4 || !inB c.req 1 1099511627776) with
      | true =>
       have HF:=Lib.hid (show Fsm.apply s.data ix c.d=(({ s1 with index:=ix }:Aa).data,⟨1,0,[]⟩) by rw [HDV.out];exact Fsm.NI HASK.out ((Fsm.Oy _ _).symm.trans arg))
       clear arg
       have hxwz:=hxw7.size
       go_upto_region 11 with (first|go_skip|go_guarded)
       have hd:Ext Nothing w7 w7.drew:=(Ext.refl _ _).drew
       refine zS (S:=fun W'=>Ext (fun q=>q=w.heap.size+1+1 ∨ q=w.heap.size+1+1+1) w7 W') (by kernel_rfl) ?_
       have hS:=hd.any (S:=fun q=>q=w.heap.size+1+1 ∨ q=w.heap.size+1+1+1)
       generalize w7.drew=Wd at hd hS ⊢
       refine zV 0 (.pointer (some ⟨b,0,none⟩)) rfl (by kernel_rfl) hS (fun _ _ _ h=>h) (fun W' hS'=>by go_simp) ?_
       refine zV 1 (.pointer (some ⟨b,0,none⟩)) rfl (by kernel_rfl) hS (fun _ _ _ h=>h) (fun W' hS'=>by go_simp) ?_
       refine zV 2 (.pointer (some ⟨b,0,none⟩)) rfl (by kernel_rfl) hS (fun _ _ _ h=>h) (fun W' hS'=>by go_simp) ?_
       refine zV 3 (.agg ({ s1 with index:=ix }:Aa).arr) rfl (by kernel_rfl) hS (fun _ _ _ h=>h) (fun W' hS'=>by exact run_load_struct (sz:=9) (b:=b) (off:=0) rfl Aj (by go_simp) (fun j u hu=>hS'.cell (hM7.at j u hu) (fun e=>by have h8:b=w.heap.size+1+1 ∨ b=w.heap.size+1+1+1:=e;omega)) rfl) ?_
       (try simp only [Act.put,zA,zB,zC,zD,zE,zF])
       refine zO 4 (by kernel_rfl) ?_
       refine Ai (f:=31) (args:=#[.int .i64 1]) rfl (by rfl) (by go_simp) ((mNo 1 Wd).mono ?_)
       rintro e w8 ⟨rfl,hx8⟩
       have hd8:=hd.tr hx8
       refine ⟨_,rfl,hd8.any,?_⟩
       (try simp only [Act.put,zA,zB,zC,zD,zE,zF])
       refine zO 5 (by kernel_rfl) ?_
       refine Bq (p:=(w.heap.size+1+1)) (cs:=({ s1 with index:=ix }:Aa).arr) rfl (by rfl) rfl (by go_simp) (by go_simp) (hR7.e0 hd8) rfl Aj rfl rfl (fun w9 hR9 hx9=>?_)
       have hd9:=(hd8.any (S:=fun q=>q=w.heap.size+1+1 ∨ q=w.heap.size+1+1+1)).trans hx9 (fun q hq e=>.inl e)
       refine ⟨hd9,?_⟩
       (try simp only [Act.put,zA,zB,zC,zD,zE,zF])
       refine zO 6 (by kernel_rfl) ?_
       refine Bq (p:=(w.heap.size+1+1+1)) (cs:=(Au 1 0)) rfl (by rfl) rfl (by go_simp) (by go_simp) ((hE7.e0 hd8).ext hx9 (fun e=>absurd (show (w.heap.size+1+1+1)=(w.heap.size+1+1) from e) (by omega))) rfl STResult rfl rfl (fun w10 hE10 hx10=>?_)
       have hda:=hd9.trans hx10 (fun q hq e=>.inr e)
       refine ⟨hda,wpAnyH_done (by kernel_rfl) ?_ _⟩
       (try simp only [Act.put,zA,zB,zC,zD,zE,zF])
       have hR10:=hR9.ext hx10 (fun e=>absurd (show (w.heap.size+1+1)=(w.heap.size+1+1+1) from e) (by omega))
       go_wp2
       exact bodyPost_ret (BO rfl Aj STResult rfl rfl hR10 rfl hE10 rfl) rfl ⟨({ s1 with index:=ix }:Aa),⟨1,0,[]⟩,.slice none 0 0,rfl,hM7.own.keep hda (fun q e=>by rcases e with rfl|rfl;exact ⟨_,_,hR7,by decide⟩;exact ⟨_,_,hE7,by decide⟩),HF.out,CJ.nil _ _,hxw7.trans hda (fun q hq e=>by have h9:q < w.heap.size:=hq;have h8:q=w.heap.size+1+1 ∨ q=w.heap.size+1+1+1:=e;omega)⟩
      | false =>
       have HARG:=Lib.hid ((Fsm.Oy _ _).symm.trans arg)
       clear arg
       have m8:w7.cell? ⟨b,8,none⟩=some (.slice s1.AX s1.nX s1.cX):=hM7.blk.cell 8
       have hsl:Sl w7 5 s1.AX s1.nX (s1.seen.map SeenV.cells):=hM7.own.slX
       have hnX:s1.nX≤67108864:=by have h9:s1.nX=s1.seen.length:=hM7.own.xl;have h8:=congrArg (fun z:Ab=>z.seen.length) HDV.out;simp only [Aa.data,List.length_map] at h8;omega
       go_upto_region 13 with (first|go_skip|go_guarded|(go_at_call 34;(with_reducible refine (PV s1.AX s1.nX s1.cX s1.seen CC c w7 hsl hC7 hnX).mono ?_);rintro e w8 ⟨rfl,hx8⟩))
       have hM8:=hM7.e0 hx8
       have hR8:=hR7.e0 hx8
       have hE8:=hE7.e0 hx8
       have hC8:=hC7.e0 hx8
       have hc8:=hc7.AP hx8
       have hxw8:=hxw7.tr hx8
       clear hM7 hR7 hE7 hC7 hc7 hxw7 hx8 m8 hsl
       have HSD:=Lib.hid (show s.data.seen=s1.seen.map (·.1) from (congrArg (fun z:Ab=>z.seen) HDV.out).symm)
       rcases AV (fun y:SeenV=>y.1.client == c.client) s1.seen with ⟨hi8,hf,hno⟩|⟨i,y,hi8,hyi,hp,hf,_⟩
       (focus
        have HFN:=Lib.hid (show (s.data.seen).find? (fun x=>x.client == c.d.client && decide (c.d.req≤x.req))=none from Fsm.M5 _ (by rw [HSD.out];exact FK hf))
        rw [hi8]
        clear hi8 hf hno
        go_upto_region 13 with fail
        go_quiet (fail)
        have hdq:=(Ext.refl Nothing w8).drewN nq
        generalize w8.drewN nq=w9 at hdq ⊢
        go_upto_region 15 with (first|go_skip|go_guarded)
        go_quiet (fail)
        have hdq:=hdq.drewN nq
        generalize w9.drewN nq=wq at hdq ⊢
        have hMq:=hM8.e0 hdq
        have hRq:=hR8.e0 hdq
        have hEq:=hE8.e0 hdq
        have hCq:=hC8.e0 hdq
        have hcq:=hc8.AP hdq
        have hxwq:=hxw8.tr hdq
        clear hM8 hR8 hE8 hC8 hc8 hxw8 hdq
        )
       rotate_left
       have HXA:=Lib.hid (show ∀ y∈s1.seen,∃ A c,y.2=.slice A 0 c∧y.1.answer.allocs=[] from hM8.own.xa)
       obtain ⟨yA,yc,hyv,hyl⟩:=HXA.out _ (List.mem_of_getElem? hyi)
       obtain ⟨⟨y0,y1,⟨y2,y3,yl⟩⟩,yv⟩:=y
       change yv=_ at hyv
       change yl=_ at hyl
       subst hyv
       subst hyl
       have HF1:=Lib.hid (show (s.data.seen).find? (fun x=>x.client == c.client)=some (⟨y0,y1,⟨y2,y3,[]⟩⟩ : Co) from by rw [HSD.out,List.find?_map];exact congrArg (Option.map (fun x:SeenV=>x.1)) hf)
       have HF2:=Lib.hid (show (s.data.seen).find? (fun x=>x.client == c.d.client && decide (c.d.req≤x.req))=if c.req≤y1 then some (⟨y0,y1,⟨y2,y3,[]⟩⟩ : Co) else none from Fsm.KJ c.req (by rw [HSD.out];exact HW.out.x) HF1.out)
       have hilt:i < s1.nX:=by have h9:s1.nX=s1.seen.length:=hM8.own.xl;have:=(List.getElem?_eq_some_iff.1 hyi).1;omega
       obtain ⟨hjn,g,off,hAe,hce⟩:=(show Sl w8 5 s1.AX s1.nX (s1.seen.map SeenV.cells) from hM8.own.slX).get (Ext.refl Nothing w8) hilt
       have hyy:s1.seen[i]=(⟨⟨y0,y1,⟨y2,y3,[]⟩⟩,.slice yA 0 yc⟩ : SeenV):=by have:=List.getElem?_eq_getElem (l:=s1.seen) hjn;rw [hyi] at this;exact (Option.some.inj this).symm
       have hce:∀ j u,(SeenV.cells (s1.seen[i]'hjn))[j]? = some u→w8.cell? ⟨g,off+i*5+j,none⟩=some u:=hce
       rw [hyy] at hce
       clear hyy
       have k1:w8.cell? ⟨g,off+i*5+1,none⟩=some (.int .i64 y1):=hce 1 _ rfl
       have k2:w8.cell? ⟨g,off+i*5+2,none⟩=some (.int .i64 y2):=hce 2 _ rfl
       have k3:w8.cell? ⟨g,off+i*5+3,none⟩=some (.int .i64 y3):=hce 3 _ rfl
       have k4:w8.cell? ⟨g,off+i*5+4,none⟩=some (.slice yA 0 yc):=hce 4 _ rfl
       have hi0:(0:Int)≤(i:Int):=by omega
       have hi1:(i:Int) < s1.nX:=by omega
       have hig:decide ((0:Int)≤(i:Int))=true:=by simp
       have m8:w8.cell? ⟨b,8,none⟩=some (.slice (some ⟨g,off,none⟩) s1.nX s1.cX):=by rw [← hAe];exact hM8.blk.cell 8
       have q2:w8.cell? ⟨CC,2,none⟩=some (.int .i64 c.req):=hC8.cell 2
       have HAX:=Lib.hid (show s1.AX=some ⟨g,off,none⟩ from hAe)
       rw [hi8]
       clear hi8 hf hyi hp hAe hce hnX
       cases z2:decide (c.req < y1)
       rotate_left
       ·have HF:=Lib.hid (show Fsm.apply s.data ix c.d=(({ s1 with index:=ix }:Aa).data,⟨33,0,[]⟩) by rw [HDV.out];exact Fsm.Ng HASK.out HARG.out (HF2.out.trans (if_pos (by have h9:c.req < y1:=(by simpa using z2);omega))) (show c.req < y1 by simpa using z2))
        go_upto_region 13 with (first|go_skip|go_guarded)
        go_quiet (fail)
        have hdq:=(Ext.refl Nothing w8).drewN nq
        generalize w8.drewN nq=wq at hdq ⊢
        have hMq:=hM8.e0 hdq
        have hRq:=hR8.e0 hdq
        have hEq:=hE8.e0 hdq
        have hCq:=hC8.e0 hdq
        have hcq:=hc8.AP hdq
        have hxwq:=hxw8.tr hdq
        have k1:=hdq.c0 k1
        have k2:=hdq.c0 k2
        have k3:=hdq.c0 k3
        have k4:=hdq.c0 k4
        have m8:=hdq.c0 m8
        have q2:=hdq.c0 q2
        clear hM8 hR8 hE8 hC8 hc8 hxw8 hdq
        have hxqz:=hxwq.size
        go_upto_region 14 with (first|go_skip|go_guarded)
        have hd:Ext Nothing wq wq.drew:=(Ext.refl _ _).drew
        refine zS (S:=fun W'=>Ext (fun q=>q=w.heap.size+1+1 ∨ q=w.heap.size+1+1+1) wq W') (by kernel_rfl) ?_
        have hS:=hd.any (S:=fun q=>q=w.heap.size+1+1 ∨ q=w.heap.size+1+1+1)
        generalize wq.drew=Wd at hd hS ⊢
        refine zV 0 (.pointer (some ⟨b,0,none⟩)) rfl (by kernel_rfl) hS (fun _ _ _ h=>h) (fun W' hS'=>by go_simp) ?_
        refine zV 1 (.pointer (some ⟨b,0,none⟩)) rfl (by kernel_rfl) hS (fun _ _ _ h=>h) (fun W' hS'=>by go_simp) ?_
        refine zV 2 (.pointer (some ⟨b,0,none⟩)) rfl (by kernel_rfl) hS (fun _ _ _ h=>h) (fun W' hS'=>by go_simp) ?_
        refine zV 3 (.agg ({ s1 with index:=ix }:Aa).arr) rfl (by kernel_rfl) hS (fun _ _ _ h=>h) (fun W' hS'=>by exact run_load_struct (sz:=9) (b:=b) (off:=0) rfl Aj (by go_simp) (fun j u hu=>hS'.cell (hMq.at j u hu) (fun e=>by have h8:b=w.heap.size+1+1 ∨ b=w.heap.size+1+1+1:=e;omega)) rfl) ?_
        (try simp only [Act.put,zA,zB,zC,zD,zE,zF])
        refine zO 4 (by kernel_rfl) ?_
        refine Ai (f:=31) (args:=#[.int .i64 33]) rfl (by rfl) (by go_simp) ((mNo 33 Wd).mono ?_)
        rintro e w8 ⟨rfl,hx8⟩
        have hd8:=hd.tr hx8
        refine ⟨_,rfl,hd8.any,?_⟩
        (try simp only [Act.put,zA,zB,zC,zD,zE,zF])
        refine zO 5 (by kernel_rfl) ?_
        refine Bq (p:=(w.heap.size+1+1)) (cs:=({ s1 with index:=ix }:Aa).arr) rfl (by rfl) rfl (by go_simp) (by go_simp) (hRq.e0 hd8) rfl Aj rfl rfl (fun w9 hR9 hx9=>?_)
        have hd9:=(hd8.any (S:=fun q=>q=w.heap.size+1+1 ∨ q=w.heap.size+1+1+1)).trans hx9 (fun q hq e=>.inl e)
        refine ⟨hd9,?_⟩
        (try simp only [Act.put,zA,zB,zC,zD,zE,zF])
        refine zO 6 (by kernel_rfl) ?_
        refine Bq (p:=(w.heap.size+1+1+1)) (cs:=(Au 33 0)) rfl (by rfl) rfl (by go_simp) (by go_simp) ((hEq.e0 hd8).ext hx9 (fun e=>absurd (show (w.heap.size+1+1+1)=(w.heap.size+1+1) from e) (by omega))) rfl STResult rfl rfl (fun w10 hE10 hx10=>?_)
        have hda:=hd9.trans hx10 (fun q hq e=>.inr e)
        refine ⟨hda,wpAnyH_done (by kernel_rfl) ?_ _⟩
        (try simp only [Act.put,zA,zB,zC,zD,zE,zF])
        have hR10:=hR9.ext hx10 (fun e=>absurd (show (w.heap.size+1+1)=(w.heap.size+1+1+1) from e) (by omega))
        go_wp2
        exact bodyPost_ret (BO rfl Aj STResult rfl rfl hR10 rfl hE10 rfl) rfl ⟨({ s1 with index:=ix }:Aa),⟨33,0,[]⟩,.slice none 0 0,rfl,hMq.own.keep hda (fun q e=>by rcases e with rfl|rfl;exact ⟨_,_,hRq,by decide⟩;exact ⟨_,_,hEq,by decide⟩),HF.out,CJ.nil _ _,hxwq.trans hda (fun q hq e=>by have h9:q < w.heap.size:=hq;have h8:q=w.heap.size+1+1 ∨ q=w.heap.size+1+1+1:=e;omega)⟩
       rotate_left
       cases z3:(y1 == c.req)
       rotate_left
       ·have HF:=Lib.hid (show Fsm.apply s.data ix c.d=(({ s1 with index:=ix }:Aa).data,⟨y2,y3,[]⟩) by rw [HDV.out];exact Fsm.LW HASK.out HARG.out (HF2.out.trans (if_pos (by have h9:y1=c.req:=(by simpa using z3);omega))) (show ¬ c.req < y1 by simpa using z2))
        go_upto_region 13 with (first|go_skip|go_guarded)
        go_quiet (fail)
        have hdq:=(Ext.refl Nothing w8).drewN nq
        generalize w8.drewN nq=wp at hdq ⊢
        have hMp:=hM8.e0 hdq
        have hRp:=hR8.e0 hdq
        have hEp:=hE8.e0 hdq
        have hCp:=hC8.e0 hdq
        have hcp:=hc8.AP hdq
        have hxwp:=hxw8.tr hdq
        have k1:=hdq.c0 k1
        have k2:=hdq.c0 k2
        have k3:=hdq.c0 k3
        have k4:=hdq.c0 k4
        have m8:=hdq.c0 m8
        have q2:=hdq.c0 q2
        clear hM8 hR8 hE8 hC8 hc8 hxw8 hdq
        go_upto_region 15 with (first|go_skip|go_guarded)
        go_quiet (fail)
        have hdq:=(Ext.refl Nothing wp).drewN nq
        generalize wp.drewN nq=wq at hdq ⊢
        have hMq:=hMp.e0 hdq
        have hRq:=hRp.e0 hdq
        have hEq:=hEp.e0 hdq
        have hCq:=hCp.e0 hdq
        have hcq:=hcp.AP hdq
        have hxwq:=hxwp.tr hdq
        have k1:=hdq.c0 k1
        have k2:=hdq.c0 k2
        have k3:=hdq.c0 k3
        have k4:=hdq.c0 k4
        have m8:=hdq.c0 m8
        have q2:=hdq.c0 q2
        clear hMp hRp hEp hCp hcp hxwp hdq
        have hxqz:=hxwq.size
        go_upto_region 16 with (first|go_skip|go_guarded)
        obtain ⟨cb,hcb⟩:=CY (v:=.slice s1.AX s1.nX s1.cX) hMq.own.x (show (Value.slice s1.AX s1.nX s1.cX).ownBlock=some g by rw [HAX.out];rfl)
        have nbR:g ≠ (w.heap.size+1+1):=Blk.ne hcb hRq (by decide)
        have nbE:g ≠ (w.heap.size+1+1+1):=Blk.ne hcb hEq (by decide)
        have HR5:=Lib.hid (show ∀ j u,(#[.int .i64 y2,.int .i64 y3,.slice yA 0 yc]:Array Value).toList[j]? = some u→wq.cell? ⟨g,off+i*5+2+j,none⟩=some u from fun j u hu=>by match j,hu with|0,hu=>cases hu;exact k2|1,hu=>cases hu;exact k3|2,hu=>cases hu;exact k4|(n+3),hu=>simp at hu)
        have hd:Ext Nothing wq wq.drew:=(Ext.refl _ _).drew
        refine zS (S:=fun W'=>Ext (fun q=>q=w.heap.size+1+1 ∨ q=w.heap.size+1+1+1) wq W') (by kernel_rfl) ?_
        have hS:=hd.any (S:=fun q=>q=w.heap.size+1+1 ∨ q=w.heap.size+1+1+1)
        generalize wq.drew=Wd at hd hS ⊢
        refine zV 0 (.pointer (some ⟨b,0,none⟩)) rfl (by kernel_rfl) hS (fun _ _ _ h=>h) (fun W' hS'=>by go_simp) ?_
        refine zV 1 (.pointer (some ⟨b,0,none⟩)) rfl (by kernel_rfl) hS (fun _ _ _ h=>h) (fun W' hS'=>by go_simp) ?_
        refine zV 2 (.pointer (some ⟨b,0,none⟩)) rfl (by kernel_rfl) hS (fun _ _ _ h=>h) (fun W' hS'=>by go_simp) ?_
        refine zV 3 (.agg ({ s1 with index:=ix }:Aa).arr) rfl (by kernel_rfl) hS (fun _ _ _ h=>h) (fun W' hS'=>by exact run_load_struct (sz:=9) (b:=b) (off:=0) rfl Aj (by go_simp) (fun j u hu=>hS'.cell (hMq.at j u hu) (fun e=>by have h8:b=w.heap.size+1+1 ∨ b=w.heap.size+1+1+1:=e;omega)) rfl) ?_
        refine zV 4 (.pointer (some ⟨b,0,none⟩)) rfl (by kernel_rfl) hS (fun _ _ _ h=>h) (fun W' hS'=>by go_simp) ?_
        refine zV 5 (.pointer (some ⟨b,0,none⟩)) rfl (by kernel_rfl) hS (fun _ _ _ h=>h) (fun W' hS'=>by go_simp) ?_
        refine zV 6 (.pointer (some ⟨b,0,none⟩)) rfl (by kernel_rfl) hS (fun _ _ _ h=>h) (fun W' hS'=>by go_simp) ?_
        refine zV 7 (.pointer (some ⟨b,8,none⟩)) rfl (by kernel_rfl) hS (fun _ _ _ h=>h) (fun W' hS'=>by go_simp) ?_
        refine zV 8 (.slice (some ⟨g,off,none⟩) s1.nX s1.cX) rfl (by kernel_rfl) hS (fun _ _ _ h=>h) (fun W' hS'=>by have q3:W'.cell? ⟨b,8,none⟩=some (.slice (some ⟨g,off,none⟩) s1.nX s1.cX):=hS'.cell m8 (fun e=>by have h8:b=w.heap.size+1+1 ∨ b=w.heap.size+1+1+1:=e;omega);go_simp) ?_
        refine zV 9 (.int .i64 (i:Int)) rfl (by kernel_rfl) hS (fun _ _ _ h=>h) (fun W' hS'=>by go_simp) ?_
        refine zV 10 (.pointer (some ⟨g,off+i*5,none⟩)) rfl (by kernel_rfl) hS (fun _ _ _ h=>h) (fun W' hS'=>by go_simp) ?_
        refine zV 11 (.pointer (some ⟨g,off+i*5+2,none⟩)) rfl (by kernel_rfl) hS (fun _ _ _ h=>h) (fun W' hS'=>by go_simp) ?_
        refine zV 12 (.agg #[.int .i64 y2,.int .i64 y3,.slice yA 0 yc]) rfl (by kernel_rfl) hS (fun _ _ _ h=>h) (fun W' hS'=>by exact run_load_struct (sz:=3) (b:=g) (off:=off+i*5+2) rfl STResult (by go_simp) (fun j u hu=>hS'.cell (HR5.out j u hu) (fun e=>by rcases e with e|e;exact nbR e;exact nbE e)) rfl) ?_
        (try simp only [Act.put,zA,zB,zC,zD,zE,zF])
        refine zO 13 (by kernel_rfl) ?_
        refine Bq (p:=(w.heap.size+1+1)) (cs:=({ s1 with index:=ix }:Aa).arr) rfl (by rfl) rfl (by go_simp) (by go_simp) (hRq.e0 hd) rfl Aj rfl rfl (fun w9 hR9 hx9=>?_)
        have hd9:=(hd.any (S:=fun q=>q=w.heap.size+1+1 ∨ q=w.heap.size+1+1+1)).trans hx9 (fun q hq e=>.inl e)
        refine ⟨hd9,?_⟩
        (try simp only [Act.put,zA,zB,zC,zD,zE,zF])
        refine zO 14 (by kernel_rfl) ?_
        refine Bq (p:=(w.heap.size+1+1+1)) (cs:=#[.int .i64 y2,.int .i64 y3,.slice yA 0 yc]) rfl (by rfl) rfl (by go_simp) (by go_simp) ((hEq.e0 hd).ext hx9 (fun e=>absurd (show (w.heap.size+1+1+1)=(w.heap.size+1+1) from e) (by omega))) rfl STResult rfl rfl (fun w10 hE10 hx10=>?_)
        have hda:=hd9.trans hx10 (fun q hq e=>.inr e)
        refine ⟨hda,wpAnyH_done (by kernel_rfl) ?_ _⟩
        (try simp only [Act.put,zA,zB,zC,zD,zE,zF])
        have hR10:=hR9.ext hx10 (fun e=>absurd (show (w.heap.size+1+1)=(w.heap.size+1+1+1) from e) (by omega))
        go_wp2
        exact bodyPost_ret (BO rfl Aj STResult rfl rfl hR10 rfl hE10 rfl) rfl ⟨({ s1 with index:=ix }:Aa),⟨y2,y3,[]⟩,.slice yA 0 yc,rfl,hMq.own.keep hda (fun q e=>by rcases e with rfl|rfl;exact ⟨_,_,hRq,by decide⟩;exact ⟨_,_,hEq,by decide⟩),HF.out,CJ.nil' _ _ _ _,hxwq.trans hda (fun q hq e=>by have h9:q < w.heap.size:=hq;have h8:q=w.heap.size+1+1 ∨ q=w.heap.size+1+1+1:=e;omega)⟩
       rotate_left
       (focus
        have HFN:=Lib.hid (show (s.data.seen).find? (fun x=>x.client == c.d.client && decide (c.d.req≤x.req))=none from HF2.out.trans (if_neg (by simp at z2 z3;omega)))
        go_upto_region 13 with (first|go_skip|go_guarded)
        go_quiet (fail)
        have hdq:=(Ext.refl Nothing w8).drewN nq
        generalize w8.drewN nq=wp at hdq ⊢
        have hMp:=hM8.e0 hdq
        have hRp:=hR8.e0 hdq
        have hEp:=hE8.e0 hdq
        have hCp:=hC8.e0 hdq
        have hcp:=hc8.AP hdq
        have hxwp:=hxw8.tr hdq
        have k1:=hdq.c0 k1
        have k2:=hdq.c0 k2
        have k3:=hdq.c0 k3
        have k4:=hdq.c0 k4
        have m8:=hdq.c0 m8
        have q2:=hdq.c0 q2
        clear hM8 hR8 hE8 hC8 hc8 hxw8 hdq
        go_upto_region 15 with (first|go_skip|go_guarded)
        go_quiet (fail)
        have hdq:=(Ext.refl Nothing wp).drewN nq
        generalize wp.drewN nq=wq at hdq ⊢
        have hMq:=hMp.e0 hdq
        have hRq:=hRp.e0 hdq
        have hEq:=hEp.e0 hdq
        have hCq:=hCp.e0 hdq
        have hcq:=hcp.AP hdq
        have hxwq:=hxwp.tr hdq
        have k1:=hdq.c0 k1
        have k2:=hdq.c0 k2
        have k3:=hdq.c0 k3
        have k4:=hdq.c0 k4
        have m8:=hdq.c0 m8
        have q2:=hdq.c0 q2
        clear hMp hRp hEp hCp hcp hxwp hdq
        clear k1 k2 k3 k4 m8 q2
        )
       all_goals (
        have hbq:=hxwq.size
        go_wp2_with (first|go_skip|go_guarded|((with_reducible refine isW ?_);refine Ae rfl 51 _ rfl IE CC rfl c.arr (show Blk _ _ 51 _ from hCq) rfl ?_))
        refine (hF w.heap.size b ({ s1 with index:=ix }:Aa) c wq rfl hMq hcq hbq HL.out HW.out).mono ?_
        rintro e u1 ⟨s7,cm,r,rv,rfl,hM7,hF7,hres,hst⟩
        have HF7:=Lib.hid hF7
        have HEO:=Lib.hid (Fsm.Ox HV.out HI.out HW.out hF7)
        have hra:r.allocs=[]:=Fsm.Kn HASK.out hF7
        have HXL:=Lib.hid (Fsm.Kh hF7)
        clear hF7
        rw [hra] at hres
        have HRA:=Lib.hid hra
        clear hra
        obtain ⟨Av,cv,hrv,_⟩:=hres
        change rv=.slice Av 0 cv at hrv
        subst hrv
        have hE7l:s7.evals.length≤33554432:=by have h9:s7.data.evals.length≤({ s1 with index:=ix }:Aa).data.jobs.length+1:=HEO.out.2;have h8:s1.jobs.length≤1048575:=HL.out.j;have h7:({ s1 with index:=ix }:Aa).data.jobs.length=s1.jobs.length:=List.length_map _;have h6:s7.data.evals.length=s7.evals.length:=rfl;omega
        have hlX:s7.seen.length≤1048577:=Fsm.Mx (m:=1048577) (cm:=cm) (by have h9:=HXL.out;have h8:({ s1 with index:=ix }:Aa).data.seen.length=s.seen.length:=(congrArg (fun z:Ab=>z.seen.length) HDV.out).trans (List.length_map _);omega)
        have hR7:=hRq.step hst (hMq.Cn hRq (by decide))
        have hE7:=hEq.step hst (hMq.Cn hEq (by decide))
        have hC7:=hCq.step hst (hMq.Cn hCq (by decide))
        have hz17:=hst.size
        have hw1:Ext Nothing w u1:=hxwq.trans hst.ext (fun q hq e=>absurd (hMq.lo6 e) (by omega))
        clear hRq hEq hCq hcq hxwq hst hMq
        go_upto_region 18 with (first|go_skip|go_guarded|((with_reducible refine isW ?_);refine Af rfl 34 _ _ rfl STResult u1.heap.size rfl #[.int .i64 r.code,.int .i64 r.value,.slice Av 0 cv] rfl (show Blk _ _ 34 _ from Blk.new u1 _ _) rfl rfl rfl ?_;intro u2 hTa hxT2))
        have hx12:Ext Nothing u1 u2:=(show Ext Nothing u1 (u1.alloc (.cells #[.int .i64 0,.int .i64 0,.slice none 0 0] 34)) from Ext.Ay).trans hxT2 (fun q hq e=>absurd (show q=u1.heap.size from e) (by omega))
        have hMa:=hM7.e0 hx12
        have hRa:=hR7.e0 hx12
        have hEa:=hE7.e0 hx12
        have hCa:=hC7.e0 hx12
        have hwa:=hw1.tr hx12
        clear hM7 hR7 hE7 hC7 hw1 hxT2 hx12
        generalize hTT:u1.heap.size=TT at hTa ⊢
        clear hTT
        have hnCm:¬ MW s7 b CC:=hMa.Cn hCa (by decide)
        have hnTm:¬ MW s7 b TT:=hMa.Cn hTa (by decide)
        have hnC:¬ (CC=b ∨ (Value.slice s7.AX s7.seen.length s7.cX).ownBlock=some CC):=fun e=>e.elim (fun e=>hnCm (.inl e)) (fun e=>hnCm (MW.oX e))
        have hnT:¬ (TT=b ∨ (Value.slice s7.AX s7.seen.length s7.cX).ownBlock=some TT):=fun e=>e.elim (fun e=>hnTm (.inl e)) (fun e=>hnTm (MW.oX e))
        have hln:=Lib.hid hMa.own.xl
        have hoe:=hMa.own.x
        rw [hln.out] at hoe
        have HXS:=Lib.hid (show ∀ y∈s7.seen,∃ A c,y.2=.slice A 0 c∧y.1.answer.allocs=[] from hMa.own.xa)
        have hv1:∀ y∈(⟨⟨c.client,c.req,⟨r.code,r.value,[]⟩⟩,.slice Av 0 cv⟩ : SeenV) :: s7.seen,y.2.oneCell' = true:=fun y hy=>(List.mem_cons.1 hy).elim (fun e=>by rw [e];rfl) (fun h=>by obtain ⟨A,c9,e,_⟩:=HXS.out y h;rw [e];rfl)
        have hup:Fsm.Up (fun y:SeenV=>y.1.client) s7.seen:=Fsm.Pi HEO.out.1
        have hwas:=hwa.size
        have hd:Ext Nothing u2 u2.drew:=(Ext.refl _ _).drew
        refine zS (S:=fun W'=>Ext (fun q=>q=b ∨ (Value.slice s7.AX s7.seen.length s7.cX).ownBlock=some q) u2 W') (by kernel_rfl) ?_
        have hS:=hd.any (S:=fun q=>q=b ∨ (Value.slice s7.AX s7.seen.length s7.cX).ownBlock=some q)
        generalize u2.drew=W at hd hS ⊢
        have hMW:=hMa.e0 hd
        have hoW:=Am hoe hd (fun _ _ e=>e)
        have hdw:=hd.size
        refine zV 0 (.pointer (some ⟨b,0,none⟩)) rfl (by kernel_rfl) hS (fun _ _ _ h=>h) (fun W' hS'=>by go_simp) ?_
        refine zV 1 (.pointer (some ⟨b,0,none⟩)) rfl (by kernel_rfl) hS (fun _ _ _ h=>h) (fun W' hS'=>by go_simp) ?_
        refine zV 2 (.pointer (some ⟨b,0,none⟩)) rfl (by kernel_rfl) hS (fun _ _ _ h=>h) (fun W' hS'=>by go_simp) ?_
        refine zV 3 (.pointer (some ⟨b,0,none⟩)) rfl (by kernel_rfl) hS (fun _ _ _ h=>h) (fun W' hS'=>by go_simp) ?_
        refine zV 4 (.pointer (some ⟨b,8,none⟩)) rfl (by kernel_rfl) hS (fun _ _ _ h=>h) (fun W' hS'=>by go_simp) ?_
        refine zV 6 (.pointer (some ⟨CC,1,none⟩)) rfl (by kernel_rfl) hS (fun _ _ _ h=>h) (fun W' hS'=>by go_simp) ?_
        refine zV 7 (.int .i64 c.client) rfl (by kernel_rfl) hS (fun _ _ _ h=>h) (fun W' hS'=>by have q:=(hCa.ext hS' hnC).cell 1;go_simp) ?_
        refine zV 8 (.pointer (some ⟨CC,2,none⟩)) rfl (by kernel_rfl) hS (fun _ _ _ h=>h) (fun W' hS'=>by go_simp) ?_
        refine zV 9 (.int .i64 c.req) rfl (by kernel_rfl) hS (fun _ _ _ h=>h) (fun W' hS'=>by have q:=(hCa.ext hS' hnC).cell 2;go_simp) ?_
        refine zV 10 (.agg #[.int .i64 r.code,.int .i64 r.value,.slice Av 0 cv]) rfl (by kernel_rfl) hS (fun _ _ _ h=>h) (fun W' hS'=>by exact AB rfl STResult (by go_simp) (hTa.ext hS' hnT) rfl) ?_
        refine zV 11 (.agg #[.int .i64 c.client,.int .i64 c.req,.int .i64 r.code,.int .i64 r.value,.slice Av 0 cv]) rfl (by kernel_rfl) hS (fun _ _ _ h=>h) (fun W' hS'=>by go_simp) ?_
        (try simp only [Act.put,zA,zB,zC,zD,zE,zF])
        refine zO 5 (by kernel_rfl) ?_
        refine wpOp_val (v:=.slice s7.AX s7.seen.length s7.cX) (w':=W) rfl (by rfl) (by rw [← hln.out];have q6:=hMW.blk.cell 8;go_simp) ⟨hS,?_⟩
        (try simp only [Act.put,zA,zB,zC,zD,zE,zF])
        refine zO 12 (by kernel_rfl) ?_
        refine Ai (f:=36) (args:=#[.slice s7.AX s7.seen.length s7.cX,.agg #[.int .i64 c.client,.int .i64 c.req,.int .i64 r.code,.int .i64 r.value,.slice Av 0 cv],.func (.func 37) #[] #[]]) rfl (by rfl) (by go_simp) ((PI w.heap.size s7.AX s7.cX s7.seen (⟨⟨c.client,c.req,⟨r.code,r.value,[]⟩⟩,.slice Av 0 cv⟩ : SeenV) hv1 W hoW (by omega) (by omega) hup).mono ?_)
        rintro e w3 ⟨A',c',rfl,ho3,hq3,hx3⟩
        have hnb:¬ ((Value.slice s7.AX s7.seen.length s7.cX).ownBlock=some b):=fun e=>own_ne hoW hMW.blk (by decide) e
        have hS3:=hS.trans hx3 (fun q hq e=>.inr e)
        refine ⟨_,rfl,hS3,?_⟩
        (try simp only [Act.put,zA,zB,zC,zD,zE,zF])
        refine zV 13 (.pointer (some ⟨b,0,none⟩)) rfl (by kernel_rfl) hS3 (fun _ _ _ h=>h) (fun W' hS'=>by go_simp) ?_
        refine zV 14 (.pointer (some ⟨b,0,none⟩)) rfl (by kernel_rfl) hS3 (fun _ _ _ h=>h) (fun W' hS'=>by go_simp) ?_
        refine zV 15 (.pointer (some ⟨b,8,none⟩)) rfl (by kernel_rfl) hS3 (fun _ _ _ h=>h) (fun W' hS'=>by go_simp) ?_
        (try simp only [Act.put,zA,zB,zC,zD,zE,zF])
        refine zO 16 (by kernel_rfl) ?_
        have hB3:=hMW.blk.ext hx3 hnb
        have m6:w3.cell? ⟨b,8,none⟩=some (.slice s7.AX s7.nX s7.cX):=hB3.cell 8
        have m6f:w3.frozen? ⟨b,8,none⟩=false:=hB3.frozen 8
        have hs6:Ext (fun q=>q=b) w3 (w3.setCell ⟨b,8,none⟩ (.slice A' (Fsm.Ak (fun y:SeenV=>y.1.client) (⟨⟨c.client,c.req,⟨r.code,r.value,[]⟩⟩,.slice Av 0 cv⟩ : SeenV) s7.seen).length c')):=Ext.set1 _ _ _ _
        refine AC (w':=w3.setCell ⟨b,8,none⟩ (.slice A' (Fsm.Ak (fun y:SeenV=>y.1.client) (⟨⟨c.client,c.req,⟨r.code,r.value,[]⟩⟩,.slice Av 0 cv⟩ : SeenV) s7.seen).length c')) rfl (by rfl) (by go_simp) ⟨hS3.trans hs6 (fun q hq e=>.inl e),?_⟩
        (try simp only [Act.put,zA,zB,zC,zD,zE,zF])
        refine wpAnyH_done (by kernel_rfl) ?_ _
        (try simp only [Act.put,zA,zB,zC,zD,zE,zF])
        have hO3:Aw w.heap.size w3 (s7.FV A' c' (Fsm.Ak (fun y:SeenV=>y.1.client) (⟨⟨c.client,c.req,⟨r.code,r.value,[]⟩⟩,.slice Av 0 cv⟩ : SeenV) s7.seen)):=hMW.own.wX hx3 (Apart.row hoW (by decide)) ho3 (Fsm.DK (P:=fun y:SeenV=>∃ A c,y.2=.slice A 0 c∧y.1.answer.allocs=[]) HXS.out ⟨Av,cv,rfl,rfl⟩)
        have hM5:Az w.heap.size (w3.setCell ⟨b,8,none⟩ (.slice A' (Fsm.Ak (fun y:SeenV=>y.1.client) (⟨⟨c.client,c.req,⟨r.code,r.value,[]⟩⟩,.slice Av 0 cv⟩ : SeenV) s7.seen).length c')) b (s7.FV A' c' (Fsm.Ak (fun y:SeenV=>y.1.client) (⟨⟨c.client,c.req,⟨r.code,r.value,[]⟩⟩,.slice Av 0 cv⟩ : SeenV) s7.seen)) cm:=⟨hB3.Bi 8 _,hO3.keep hs6 (Apart.one hB3 (by decide)),hMW.lo⟩
        have hx5:Step u2 (w3.setCell ⟨b,8,none⟩ (.slice A' (Fsm.Ak (fun y:SeenV=>y.1.client) (⟨⟨c.client,c.req,⟨r.code,r.value,[]⟩⟩,.slice Av 0 cv⟩ : SeenV) s7.seen).length c')) b s7 (s7.FV A' c' (Fsm.Ak (fun y:SeenV=>y.1.client) (⟨⟨c.client,c.req,⟨r.code,r.value,[]⟩⟩,.slice Av 0 cv⟩ : SeenV) s7.seen)):=((Step.of0 hd).put hx3 (fun q hq=>MW.oX (s:=s7) hq) (MW.FV (s:=s7) hq3)).cell (.inl rfl) (fun q hq=>hq) _
        clear hO3 hs6 m6 m6f hB3 hS3 hS
        generalize (w3.setCell ⟨b,8,none⟩ (.slice A' (Fsm.Ak (fun y:SeenV=>y.1.client) (⟨⟨c.client,c.req,⟨r.code,r.value,[]⟩⟩,.slice Av 0 cv⟩ : SeenV) s7.seen).length c'))=w5 at hM5 hx5 ⊢
        have hR5:=hRa.step hx5 (hMa.Cn hRa (by decide))
        have hE5:=hEa.step hx5 (hMa.Cn hEa (by decide))
        have hT5:=hTa.step hx5 hnTm
        have hw5:Ext Nothing w w5:=hwa.trans hx5.ext (fun q hq e=>absurd (hMa.lo6 e) (by omega))
        have hz25:=hx5.size
        have hW5:Fsm.Wf (s7.FV A' c' (Fsm.Ak (fun y:SeenV=>y.1.client) (⟨⟨c.client,c.req,⟨r.code,r.value,[]⟩⟩,.slice Av 0 cv⟩ : SeenV) s7.seen)).data:=Fsm.Qw HEO.out.1 c
        have hE5l:(s7.FV A' c' (Fsm.Ak (fun y:SeenV=>y.1.client) (⟨⟨c.client,c.req,⟨r.code,r.value,[]⟩⟩,.slice Av 0 cv⟩ : SeenV) s7.seen)).evals.length≤33554432:=hE7l
        clear hRa hEa hTa hCa hwa hx5 hMa hnC hnT hnCm hnTm hoe hv1 hup
        go_wp2_with (first|go_skip|go_guarded|((with_reducible refine isW ?_);refine Ae rfl 34 _ rfl STResult TT rfl #[.int .i64 r.code,.int .i64 r.value,.slice Av 0 cv] (show Blk _ _ 34 _ from hT5) rfl ?_)|(go_at_call 32;(with_reducible refine (Q8 w.heap.size b (s7.FV A' c' (Fsm.Ak (fun y:SeenV=>y.1.client) (⟨⟨c.client,c.req,⟨r.code,r.value,[]⟩⟩,.slice Av 0 cv⟩ : SeenV) s7.seen)) cm r.code r.value Av 0 cv w5 hM5 hE5l hW5).mono ?_);rintro e w8 ⟨s8,rfl,hM8,hd8,hst8,hxe8⟩;have HD8:=Lib.hid hd8;clear hd8;have hR8:=hR5.step hst8 (hM5.Cn hR5 (by decide));have hE8:=hE5.step hst8 (hM5.Cn hE5 (by decide)))|((with_reducible refine isW ?_);refine Af rfl 30 _ _ rfl Aj (w.heap.size+1+1) rfl s8.arr rfl (show Blk _ _ 30 _ from hR8) rfl rfl rfl ?_;intro w9 hRw9 hxw9)|((with_reducible refine isW ?_);refine Af rfl 34 _ _ rfl STResult (w.heap.size+1+1+1) rfl #[.int .i64 r.code,.int .i64 r.value,.slice Av 0 cv] rfl (show Blk _ _ 34 _ from hE8.ext hxw9 (fun e=>absurd (show (w.heap.size+1+1+1)=(w.heap.size+1+1) from e) (by omega))) rfl rfl rfl ?_;intro w10 hEw10 hxw10))
        have hR10:=hRw9.ext hxw10 (fun e=>absurd (show (w.heap.size+1+1)=(w.heap.size+1+1+1) from e) (by omega))
        have hxx:Ext (fun q=>q=w.heap.size+1+1 ∨ q=w.heap.size+1+1+1) w8 w10:=(hxw9.mono (fun _ _ e=>.inl e)).trans hxw10 (fun _ _ e=>.inr e)
        have hw8:Ext Nothing w w8:=hw5.trans hst8.ext (fun q hq e=>absurd (hM5.lo6 e) (by omega))
        have hz58:=hst8.size
        exact bodyPost_ret (BO rfl Aj STResult rfl rfl hR10 rfl hEw10 rfl) rfl ⟨s8,r,.slice Av 0 cv,rfl,hM8.own.keep hxx (fun q e=>by rcases e with rfl|rfl;exact ⟨_,_,hR8,by decide⟩;exact ⟨_,_,hE8,by decide⟩),Fsm.NP c HRA.out (Fsm.Nq HASK.out HARG.out HFN.out (z:=((if cm then Fsm.came s7.data else s7.data),r)) (by rw [← HDV.out];exact HF7.out)) HD8.out,by rw [HRA.out];exact CJ.nil' _ _ _ _,hw8.trans hxx (fun q hq e=>by have h9:q < w.heap.size:=hq;have h8:q=w.heap.size+1+1 ∨ q=w.heap.size+1+1+1:=e;omega)⟩
        )
end Go.Proofs.YtccekmeifanipaaGreat
