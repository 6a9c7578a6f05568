/- Parts of the proof: MCancel -/
import Derived.Test.YtccekmeifanipaaGreatT11
namespace Go.Proofs.YtccekmeifanipaaGreat
set_option linter.unusedVariables false
set_option linter.unusedSimpArgs false
set_option linter.unusedSectionVars false
open Go.RowKit
theorem Step.fresh {S:Nat→Prop} {w w1 w2:World} {b:Nat} {s s1:Aa} (h:Step w w1 b s s1) (k:Ext S w1 w2) (hS:∀ q,S q→w.heap.size≤q):Step w w2 b s s1 :=
 ⟨h.ext.trans k (fun q hq e=>absurd (hS q e) (by omega)),h.sub⟩
theorem mNo (e:Int) (w:World):Calls Tryz.prog 31 #[.int .i64 e] w fun e' w'=>e' = .returned (.agg (Au e 0))∧Ext Nothing w w':=by
 go_enter Tryz.func31,Tryz.ntmps31
 go_wp2
 exact bodyPost_ret (results_cell rfl STResult (g:=w.heap.size) rfl (Blk.new w _ _) rfl) rfl ⟨rfl,Ext.Ay⟩
set_option maxRecDepth 20000 in
set_option maxHeartbeats 4000000 in
theorem PR (base b:Nat) (s:Aa) (cm:Bool) (c:Bl) (w:World) (hM:Az base w b s cm) (hb:base≤w.heap.size) (hJ:s.jobs.length≤1048576) (hDl:s.deploys.length≤1048576) (hE:s.evals.length≤33554432) (hw:Fsm.Wf s.data) :
  Calls Tryz.prog 51 #[.pointer (some ⟨b,0,none⟩),.agg c.arr] w fun e w'=>∃ s' r,e=.returned (.agg (Au r.code r.value))∧Az base w' b s' cm∧Fsm.cancel s.data c.d=(s'.data,r)∧r.allocs=[]∧Step w w' b s s':=by
 have hjl:=Lib.hid hM.own.jl
 have hnJ:s.nJ≤67108864:=by have:=hM.own.jl;omega
 have hnD:s.nD≤67108864:=by have:=hM.own.dl;omega
 rcases AV (fun x:JobV=>x.1.id == c.job.id) s.jobs with ⟨hi,hf,_⟩|⟨i,x,hi,hxi,hp,hf,hfirst⟩
 ·have hn:=Ct hf
  have HF:=Lib.hid (show Fsm.cancel s.data c.d=(s.data,⟨36,0,[]⟩) by unfold Fsm.cancel;rw [show Fsm.AU s.data c.d.job.id=none from hn];rfl)
  have HI:=Lib.hid hi
  clear hi hf hn
  obtain ⟨hxW,hCW,hRW⟩:=cmd0 w c
  have hzW:=hxW.size
  have hMW:=hM.e0 hxW
  go_enter Tryz.func51,Tryz.ntmps51
  go_upto_region 1 with (first|go_skip|go_guarded)
  generalize hC:w.heap.size=C at hCW hRW hzW ⊢
  have HC:=Lib.hid hC
  clear hC
  generalize ((w.alloc (.cells c.arr 51)).alloc (.cells #[.int .i64 0,.int .i64 0,.slice none 0 0] 34))=W at hxW hCW hRW hzW hMW ⊢
  have hsl:=hMW.own.slJ
  have ck:W.cell? ⟨C,3,none⟩=some (.int .i64 c.job.id):=hCW.cell 3
  have hd:Ext Nothing W W.drew:=(Ext.refl _ _).drew
  refine zS (S:=fun W'=>Ext Nothing W W') (by kernel_rfl) ?_
  generalize W.drew=Wd at hd ⊢
  refine zV 0 (.pointer (some ⟨b,0,none⟩)) rfl (by kernel_rfl) hd (fun _ _ _ h=>h) (fun W' hS'=>by go_simp) ?_
  refine zV 1 (.pointer (some ⟨b,0,none⟩)) rfl (by kernel_rfl) hd (fun _ _ _ h=>h) (fun W' hS'=>by go_simp) ?_
  refine zV 2 (.pointer (some ⟨b,0,none⟩)) rfl (by kernel_rfl) hd (fun _ _ _ h=>h) (fun W' hS'=>by go_simp) ?_
  refine zV 3 (.agg s.arr) rfl (by kernel_rfl) hd (fun _ _ _ h=>h) (fun W' hS'=>by exact run_load_struct (sz:=9) (b:=b) (off:=0) rfl Aj (by go_simp) (fun j u hu=>hS'.c0 (hMW.at j u hu)) rfl) ?_
  refine zV 4 (.pointer (some ⟨C,3,none⟩)) rfl (by kernel_rfl) hd (fun _ _ _ h=>h) (fun W' hS'=>by go_simp) ?_
  refine zV 5 (.pointer (some ⟨C,3,none⟩)) rfl (by kernel_rfl) hd (fun _ _ _ h=>h) (fun W' hS'=>by go_simp) ?_
  refine zV 6 (.int .i64 c.job.id) rfl (by kernel_rfl) hd (fun _ _ _ h=>h) (fun W' hS'=>by have q:=hS'.c0 ck;go_simp) ?_
  (try simp only [Act.put,zA,zB,zC,zD,zE,zF])
  refine zO 7 (by kernel_rfl) ?_
  refine Ai (f:=61) (args:=#[.agg s.arr,.int .i64 c.job.id]) rfl (by rfl) (by go_simp) ((Bu s.AJ s.nJ s.cJ s.jobs c.job.id Wd (hsl.Al hd) hnJ _ _ _ _ _ _ _ _ _ rfl).mono ?_)
  rintro e w1 ⟨rfl,hx1⟩
  (rw [HI.out])
  have hxc:=hd.tr hx1
  refine ⟨_,rfl,hxc,?_⟩
  (try simp only [Act.put,zA,zB,zC,zD,zE,zF])
  refine zV 8 (.int .i64 (-1)) rfl (by kernel_rfl) hxc (fun _ _ _ h=>h) (fun W' hS'=>by go_simp) ?_
  (try simp only [Act.put,zA,zB,zC,zD,zE,zF])
  refine wpAnyH_done (by kernel_rfl) ?_ _
  (try simp only [Act.put,zA,zB,zC,zD,zE,zF])
  clear hd hx1
  have hM1:=hMW.e0 hxc
  have hR1:=hRW.e0 hxc
  have hst:=Step.of0 (b:=b) (s:=s) (hxW.tr hxc)
  go_wp2_with (first|go_skip|go_guarded|(go_at_call 31;(with_reducible refine (mNo 36 w1).mono ?_);rintro e w8 ⟨rfl,hx8⟩;have hR8:=hR1.e0 hx8)|((with_reducible refine isW ?_);refine Af rfl 34 _ _ rfl STResult (C+1) rfl (Au 36 0) rfl hR8 rfl rfl rfl ?_;intro w9 hR9 hx9))
  have hb9:=(hM1.e0 hx8).blk.lt
  exact bodyPost_ret (results_cell rfl STResult (g:=C+1) rfl hR9 rfl) rfl ⟨s,⟨36,0,[]⟩,rfl,(hM1.e0 hx8).keep hx9 (fun e=>Blk.ne (hM1.e0 hx8).blk hR8 (by decide) e) (Apart.one hR8 (by decide)),HF.out,rfl,(hst.m0 hx8).fresh hx9 (fun q e=>by have:=HC.out;have:q=C+1:=e;omega)⟩
 have hja:Fsm.AU s.data c.d.job.id=some x.1:=Cs hf
 have HF:=Lib.hid (show Fsm.cancel s.data c.d=(Fsm.eval { s.data with jobs:=(s.jobs.set i ({ x.1 with stopped:=true },x.2)).map (·.1),deploys:=Fsm.Ap (fun d=>d.job == c.job.id) (fun d=>if d.state == 1 then { d with state:=3 } else d) s.deploys } c.job.id,⟨0,0,[]⟩) by unfold Fsm.cancel;rw [hja];simp only [];rw [show Fsm.Ap (fun j=>j.id == c.d.job.id) (fun j=>{ j with stopped:=true }) s.data.jobs=_ from Nv (f:=fun j=>{ j with stopped:=true }) hxi hp hfirst];rfl)
 have HI:=Lib.hid hi
 have hilt:(i:Int) < s.nJ:=by have:=hjl.out;have:=(List.getElem?_eq_some_iff.1 hxi).1;omega
 have hi0:(0:Int)≤(i:Int):=by omega
 have hig:¬ ((i:Int) < 0):=by omega
 have HXI:=Lib.hid hxi
 clear hi hf hja hp hfirst hxi
 obtain ⟨hxW,hCW,hRW⟩:=cmd0 w c
 have hzW:=hxW.size
 have hMW:=hM.e0 hxW
 go_enter Tryz.func51,Tryz.ntmps51
 go_upto_region 1 with (first|go_skip|go_guarded)
 generalize hC:w.heap.size=C at hCW hRW hzW ⊢
 have HC:=Lib.hid hC
 clear hC
 generalize ((w.alloc (.cells c.arr 51)).alloc (.cells #[.int .i64 0,.int .i64 0,.slice none 0 0] 34))=W at hxW hCW hRW hzW hMW ⊢
 have hsl:=hMW.own.slJ
 have ck:W.cell? ⟨C,3,none⟩=some (.int .i64 c.job.id):=hCW.cell 3
 have hd:Ext Nothing W W.drew:=(Ext.refl _ _).drew
 refine zS (S:=fun W'=>Ext Nothing W W') (by kernel_rfl) ?_
 generalize W.drew=Wd at hd ⊢
 refine zV 0 (.pointer (some ⟨b,0,none⟩)) rfl (by kernel_rfl) hd (fun _ _ _ h=>h) (fun W' hS'=>by go_simp) ?_
 refine zV 1 (.pointer (some ⟨b,0,none⟩)) rfl (by kernel_rfl) hd (fun _ _ _ h=>h) (fun W' hS'=>by go_simp) ?_
 refine zV 2 (.pointer (some ⟨b,0,none⟩)) rfl (by kernel_rfl) hd (fun _ _ _ h=>h) (fun W' hS'=>by go_simp) ?_
 refine zV 3 (.agg s.arr) rfl (by kernel_rfl) hd (fun _ _ _ h=>h) (fun W' hS'=>by exact run_load_struct (sz:=9) (b:=b) (off:=0) rfl Aj (by go_simp) (fun j u hu=>hS'.c0 (hMW.at j u hu)) rfl) ?_
 refine zV 4 (.pointer (some ⟨C,3,none⟩)) rfl (by kernel_rfl) hd (fun _ _ _ h=>h) (fun W' hS'=>by go_simp) ?_
 refine zV 5 (.pointer (some ⟨C,3,none⟩)) rfl (by kernel_rfl) hd (fun _ _ _ h=>h) (fun W' hS'=>by go_simp) ?_
 refine zV 6 (.int .i64 c.job.id) rfl (by kernel_rfl) hd (fun _ _ _ h=>h) (fun W' hS'=>by have q:=hS'.c0 ck;go_simp) ?_
 (try simp only [Act.put,zA,zB,zC,zD,zE,zF])
 refine zO 7 (by kernel_rfl) ?_
 refine Ai (f:=61) (args:=#[.agg s.arr,.int .i64 c.job.id]) rfl (by rfl) (by go_simp) ((Bu s.AJ s.nJ s.cJ s.jobs c.job.id Wd (hsl.Al hd) hnJ _ _ _ _ _ _ _ _ _ rfl).mono ?_)
 rintro e w1 ⟨rfl,hx1⟩
 (rw [HI.out])
 have hxc:=hd.tr hx1
 refine ⟨_,rfl,hxc,?_⟩
 (try simp only [Act.put,zA,zB,zC,zD,zE,zF])
 refine zV 8 (.int .i64 (i:Int)) rfl (by kernel_rfl) hxc (fun _ _ _ h=>h) (fun W' hS'=>by go_simp) ?_
 (try simp only [Act.put,zA,zB,zC,zD,zE,zF])
 refine wpAnyH_done (by kernel_rfl) ?_ _
 (try simp only [Act.put,zA,zB,zC,zD,zE,zF])
 clear hd hx1
 have hM1:=hMW.e0 hxc
 have hR1:=hRW.e0 hxc
 have hC1:=hCW.e0 hxc
 have hst:=Step.of0 (b:=b) (s:=s) (hxW.tr hxc)
 clear hxc ck hsl
 obtain ⟨g,cur,hAe,hob,hgb,_,hce,hput⟩:=hM1.own.PO HXI.out
 have m2:w1.cell? ⟨b,2,none⟩=some (.slice (some ⟨g,0,none⟩) s.nJ s.cJ):=by rw [← hAe];exact hM1.blk.cell 2
 clear hAe
 have k6:w1.cell? ⟨g,i*7+6,none⟩=some (.bool x.1.stopped):=hce 6 _ rfl
 have f6:w1.frozen? ⟨g,i*7+6,none⟩=false:=hgb.frozen _
 go_upto_region 5 with (first|go_skip|go_guarded)
 have hs4:Ext (fun q=>q=g) w1 (w1.setCell ⟨g,i*7+6,none⟩ (.bool true)):=Ext.set1 _ _ _ _
 have hO4:Aw base (w1.setCell ⟨g,i*7+6,none⟩ (.bool true)) ({ s with jobs:=s.jobs.set i ({ x.1 with stopped:=true },x.2) }:Aa):=hput 6 (.bool true) ({ x.1 with stopped:=true },x.2) (by decide) rfl rfl rfl
 have hM4:Az base (w1.setCell ⟨g,i*7+6,none⟩ (.bool true)) b ({ s with jobs:=s.jobs.set i ({ x.1 with stopped:=true },x.2) }:Aa) cm:=⟨hM1.blk.ext hs4 (fun e=>Blk.ne hM1.blk hgb (by decide) e),hO4,hM1.lo⟩
 have hst4:Step w (w1.setCell ⟨g,i*7+6,none⟩ (.bool true)) b s ({ s with jobs:=s.jobs.set i ({ x.1 with stopped:=true },x.2) }:Aa):=hst.cell (s2:=({ s with jobs:=s.jobs.set i ({ x.1 with stopped:=true },x.2) }:Aa)) (MW.oJ hob) (fun q hq=>hq) _
 have hC4:=hC1.ext hs4 (fun e=>Blk.ne hC1 hgb (by decide) e)
 have hR4:=hR1.ext hs4 (fun e=>Blk.ne hR1 hgb (by decide) e)
 clear m2 k6 f6 hput hce hs4 hO4
 generalize (w1.setCell ⟨g,i*7+6,none⟩ (.bool true))=w4 at hM4 hst4 hC4 hR4 ⊢
 have hsl:Sl w4 4 s.AD s.nD (s.deploys.map DepD.cells):=hM4.own.slD
 clear HI
 rcases AV (fun x:DepD=>x.job == c.job.id) s.deploys with ⟨hk,hkf,_⟩|⟨k,d,hk,hxk,hkp,hkf,hkfirst⟩
 ·have HI:=Lib.hid hk
  have HD:=Lib.hid (Fsm.Ew (f:=fun d:DepD=>if d.state == 1 then { d with state:=3 } else d) hkf)
  clear hk hkf
  have ck:w4.cell? ⟨C,3,none⟩=some (.int .i64 c.job.id):=hC4.cell 3
  have hd:Ext Nothing w4 w4.drew:=(Ext.refl _ _).drew
  refine zS (S:=fun W'=>Ext Nothing w4 W') (by kernel_rfl) ?_
  generalize w4.drew=Wd at hd ⊢
  refine zV 0 (.pointer (some ⟨b,0,none⟩)) rfl (by kernel_rfl) hd (fun _ _ _ h=>h) (fun W' hS'=>by go_simp) ?_
  refine zV 1 (.pointer (some ⟨b,0,none⟩)) rfl (by kernel_rfl) hd (fun _ _ _ h=>h) (fun W' hS'=>by go_simp) ?_
  refine zV 2 (.pointer (some ⟨b,0,none⟩)) rfl (by kernel_rfl) hd (fun _ _ _ h=>h) (fun W' hS'=>by go_simp) ?_
  refine zV 3 (.agg ({ s with jobs:=s.jobs.set i ({ x.1 with stopped:=true },x.2) }:Aa).arr) rfl (by kernel_rfl) hd (fun _ _ _ h=>h) (fun W' hS'=>by exact run_load_struct (sz:=9) (b:=b) (off:=0) rfl Aj (by go_simp) (fun j u hu=>hS'.c0 (hM4.at j u hu)) rfl) ?_
  refine zV 4 (.pointer (some ⟨C,3,none⟩)) rfl (by kernel_rfl) hd (fun _ _ _ h=>h) (fun W' hS'=>by go_simp) ?_
  refine zV 5 (.pointer (some ⟨C,3,none⟩)) rfl (by kernel_rfl) hd (fun _ _ _ h=>h) (fun W' hS'=>by go_simp) ?_
  refine zV 6 (.int .i64 c.job.id) rfl (by kernel_rfl) hd (fun _ _ _ h=>h) (fun W' hS'=>by have q:=hS'.c0 ck;go_simp) ?_
  (try simp only [Act.put,zA,zB,zC,zD,zE,zF])
  refine zO 7 (by kernel_rfl) ?_
  refine Ai (f:=63) (args:=#[.agg ({ s with jobs:=s.jobs.set i ({ x.1 with stopped:=true },x.2) }:Aa).arr,.int .i64 c.job.id]) rfl (by rfl) (by go_simp) ((Dm s.AD s.nD s.cD s.deploys c.job.id Wd (hsl.Al hd) hnD _ _ _ _ _ _ _ _ _ rfl).mono ?_)
  rintro e w5 ⟨rfl,hx1⟩
  (rw [HI.out])
  have hxc:=hd.tr hx1
  refine ⟨_,rfl,hxc,?_⟩
  (try simp only [Act.put,zA,zB,zC,zD,zE,zF])
  refine zV 8 (.int .i64 (-1)) rfl (by kernel_rfl) hxc (fun _ _ _ h=>h) (fun W' hS'=>by go_simp) ?_
  (try simp only [Act.put,zA,zB,zC,zD,zE,zF])
  refine wpAnyH_done (by kernel_rfl) ?_ _
  (try simp only [Act.put,zA,zB,zC,zD,zE,zF])
  clear hd hx1
  have hM5:=hM4.e0 hxc
  have hR5:=hR4.e0 hxc
  have hC5:=hC4.e0 hxc
  have hst5:=hst4.m0 hxc
  clear hxc ck hsl
  go_upto_region 8 with (first|go_skip|go_guarded)
  have cz:w5.cell? ⟨C,3,none⟩=some (.int .i64 c.job.id):=hC5.cell 3
  have hq4:base≤w5.heap.size:=by have:=hst5.size;omega
  have hq1:({ s with jobs:=s.jobs.set i ({ x.1 with stopped:=true },x.2) }:Aa).jobs.length≤67108864:=by show (s.jobs.set i _).length≤_;rw [List.length_set];omega
  have hq2:({ s with jobs:=s.jobs.set i ({ x.1 with stopped:=true },x.2) }:Aa).evals.length≤67108862:=by show s.evals.length≤_;omega
  have hq3:Fsm.Up EvalD.job ({ s with jobs:=s.jobs.set i ({ x.1 with stopped:=true },x.2) }:Aa).evals:=hw.e
  have hnR:¬ MW ({ s with jobs:=s.jobs.set i ({ x.1 with stopped:=true },x.2) }:Aa) b (C+1):=hM5.Cn hR5 (by decide)
  go_wp2_with (first|go_skip|go_guarded|(go_at_call 64;(with_reducible refine (Ef base b ({ s with jobs:=s.jobs.set i ({ x.1 with stopped:=true },x.2) }:Aa) cm c.job.id w5 hM5 hq4 hq1 hq2 hq3).mono ?_);rintro e w7 ⟨A7,c7,l7,rfl,hM9,hD7,hx7⟩;have hR7:=hR5.step hx7 hnR)|((with_reducible refine isW ?_);refine Af rfl 34 _ _ rfl STResult (C+1) rfl (Au 0 0) rfl hR7 rfl rfl rfl ?_;intro w9 hR9 hx9))
  exact bodyPost_ret (results_cell rfl STResult (g:=C+1) rfl hR9 rfl) rfl ⟨_,⟨0,0,[]⟩,rfl,hM9.keep hx9 (fun e=>Blk.ne hM9.blk hR7 (by decide) e) (Apart.one hR7 (by decide)),by rw [HF.out];exact (congrArg (fun z=>(Fsm.eval ({ ({ s with jobs:=s.jobs.set i ({ x.1 with stopped:=true },x.2) }:Aa).data with deploys:=z }:Ab) c.job.id,(⟨0,0,[]⟩ : AQ))) HD.out).trans (congrArg (fun z=>(z,(⟨0,0,[]⟩ : AQ))) hD7.symm),rfl,(hst5.trans hx7).fresh hx9 (fun q e=>by have:=HC.out;have:q=C+1:=e;omega)⟩
 obtain ⟨d0,d1,d2,d3⟩:=d
 have HI:=Lib.hid hk
 have hklt:(k:Int) < s.nD:=by have:=hM.own.dl;have:=(List.getElem?_eq_some_iff.1 hxk).1;omega
 have hk0:(0:Int)≤(k:Int):=by omega
 have hkg:decide ((0:Int)≤(k:Int))=true:=by simp
 have HD:=Lib.hid (Fsm.BF (f:=fun d:DepD=>if d.state == 1 then { d with state:=3 } else d) hxk hkp hkfirst)
 have HXK:=Lib.hid hxk
 clear hk hkf hkp hkfirst hxk
 have ck:w4.cell? ⟨C,3,none⟩=some (.int .i64 c.job.id):=hC4.cell 3
 have hd:Ext Nothing w4 w4.drew:=(Ext.refl _ _).drew
 refine zS (S:=fun W'=>Ext Nothing w4 W') (by kernel_rfl) ?_
 generalize w4.drew=Wd at hd ⊢
 refine zV 0 (.pointer (some ⟨b,0,none⟩)) rfl (by kernel_rfl) hd (fun _ _ _ h=>h) (fun W' hS'=>by go_simp) ?_
 refine zV 1 (.pointer (some ⟨b,0,none⟩)) rfl (by kernel_rfl) hd (fun _ _ _ h=>h) (fun W' hS'=>by go_simp) ?_
 refine zV 2 (.pointer (some ⟨b,0,none⟩)) rfl (by kernel_rfl) hd (fun _ _ _ h=>h) (fun W' hS'=>by go_simp) ?_
 refine zV 3 (.agg ({ s with jobs:=s.jobs.set i ({ x.1 with stopped:=true },x.2) }:Aa).arr) rfl (by kernel_rfl) hd (fun _ _ _ h=>h) (fun W' hS'=>by exact run_load_struct (sz:=9) (b:=b) (off:=0) rfl Aj (by go_simp) (fun j u hu=>hS'.c0 (hM4.at j u hu)) rfl) ?_
 refine zV 4 (.pointer (some ⟨C,3,none⟩)) rfl (by kernel_rfl) hd (fun _ _ _ h=>h) (fun W' hS'=>by go_simp) ?_
 refine zV 5 (.pointer (some ⟨C,3,none⟩)) rfl (by kernel_rfl) hd (fun _ _ _ h=>h) (fun W' hS'=>by go_simp) ?_
 refine zV 6 (.int .i64 c.job.id) rfl (by kernel_rfl) hd (fun _ _ _ h=>h) (fun W' hS'=>by have q:=hS'.c0 ck;go_simp) ?_
 (try simp only [Act.put,zA,zB,zC,zD,zE,zF])
 refine zO 7 (by kernel_rfl) ?_
 refine Ai (f:=63) (args:=#[.agg ({ s with jobs:=s.jobs.set i ({ x.1 with stopped:=true },x.2) }:Aa).arr,.int .i64 c.job.id]) rfl (by rfl) (by go_simp) ((Dm s.AD s.nD s.cD s.deploys c.job.id Wd (hsl.Al hd) hnD _ _ _ _ _ _ _ _ _ rfl).mono ?_)
 rintro e w5 ⟨rfl,hx1⟩
 (rw [HI.out])
 have hxc:=hd.tr hx1
 refine ⟨_,rfl,hxc,?_⟩
 (try simp only [Act.put,zA,zB,zC,zD,zE,zF])
 refine zV 8 (.int .i64 (k:Int)) rfl (by kernel_rfl) hxc (fun _ _ _ h=>h) (fun W' hS'=>by go_simp) ?_
 (try simp only [Act.put,zA,zB,zC,zD,zE,zF])
 refine wpAnyH_done (by kernel_rfl) ?_ _
 (try simp only [Act.put,zA,zB,zC,zD,zE,zF])
 clear hd hx1
 have hM5:=hM4.e0 hxc
 have hR5:=hR4.e0 hxc
 have hC5:=hC4.e0 hxc
 have hst5:=hst4.m0 hxc
 clear hxc ck hsl
 obtain ⟨gd,curd,hAd,hobd,hgbd,_,hced,hputd⟩:=hM5.own.Js HXK.out
 change s.AD=_ at hAd
 have m7:w5.cell? ⟨b,7,none⟩=some (.slice (some ⟨gd,0,none⟩) s.nD s.cD):=by rw [← hAd];exact hM5.blk.cell 7
 clear hAd
 have q2:w5.cell? ⟨gd,k*4+2,none⟩=some (.int .i64 d2):=hced 2 _ rfl
 have f2:w5.frozen? ⟨gd,k*4+2,none⟩=false:=hgbd.frozen _
 cases hd2:(d2 == 1) with
 | false =>
  have HD2:=Lib.hid (HD.out.trans (show s.deploys.set k (if d2 == 1 then _ else (⟨d0,d1,d2,d3⟩ : DepD))=s.deploys by rw [hd2];simp only [Bool.false_eq_true,if_false];exact set_self HXK.out))
  go_upto_region 8 with (first|go_skip|go_guarded)
  clear m7 q2 f2
  have cz:w5.cell? ⟨C,3,none⟩=some (.int .i64 c.job.id):=hC5.cell 3
  have hq4:base≤w5.heap.size:=by have:=hst5.size;omega
  have hq1:({ s with jobs:=s.jobs.set i ({ x.1 with stopped:=true },x.2) }:Aa).jobs.length≤67108864:=by show (s.jobs.set i _).length≤_;rw [List.length_set];omega
  have hq2:({ s with jobs:=s.jobs.set i ({ x.1 with stopped:=true },x.2) }:Aa).evals.length≤67108862:=by show s.evals.length≤_;omega
  have hq3:Fsm.Up EvalD.job ({ s with jobs:=s.jobs.set i ({ x.1 with stopped:=true },x.2) }:Aa).evals:=hw.e
  have hnR:¬ MW ({ s with jobs:=s.jobs.set i ({ x.1 with stopped:=true },x.2) }:Aa) b (C+1):=hM5.Cn hR5 (by decide)
  go_wp2_with (first|go_skip|go_guarded|(go_at_call 64;(with_reducible refine (Ef base b ({ s with jobs:=s.jobs.set i ({ x.1 with stopped:=true },x.2) }:Aa) cm c.job.id w5 hM5 hq4 hq1 hq2 hq3).mono ?_);rintro e w7 ⟨A7,c7,l7,rfl,hM9,hD7,hx7⟩;have hR7:=hR5.step hx7 hnR)|((with_reducible refine isW ?_);refine Af rfl 34 _ _ rfl STResult (C+1) rfl (Au 0 0) rfl hR7 rfl rfl rfl ?_;intro w9 hR9 hx9))
  exact bodyPost_ret (results_cell rfl STResult (g:=C+1) rfl hR9 rfl) rfl ⟨_,⟨0,0,[]⟩,rfl,hM9.keep hx9 (fun e=>Blk.ne hM9.blk hR7 (by decide) e) (Apart.one hR7 (by decide)),by rw [HF.out];exact (congrArg (fun z=>(Fsm.eval ({ ({ s with jobs:=s.jobs.set i ({ x.1 with stopped:=true },x.2) }:Aa).data with deploys:=z }:Ab) c.job.id,(⟨0,0,[]⟩ : AQ))) HD2.out).trans (congrArg (fun z=>(z,(⟨0,0,[]⟩ : AQ))) hD7.symm),rfl,(hst5.trans hx7).fresh hx9 (fun q e=>by have:=HC.out;have:q=C+1:=e;omega)⟩
 | true =>
  have HD2:=Lib.hid (HD.out.trans (show s.deploys.set k (if d2 == 1 then (⟨d0,d1,3,d3⟩ : DepD) else _)=s.deploys.set k ⟨d0,d1,3,d3⟩ by rw [hd2];rfl))
  go_upto_region 8 with (first|go_skip|go_guarded)
  have hs6:Ext (fun q=>q=gd) w5 (w5.setCell ⟨gd,k*4+2,none⟩ (.int .i64 3)):=Ext.set1 _ _ _ _
  have hO6:Aw base (w5.setCell ⟨gd,k*4+2,none⟩ (.int .i64 3)) ({ s with jobs:=s.jobs.set i ({ x.1 with stopped:=true },x.2),deploys:=s.deploys.set k ⟨d0,d1,3,d3⟩ }:Aa):=hputd 2 (.int .i64 3) ⟨d0,d1,3,d3⟩ (by decide) rfl
  have hM6:Az base (w5.setCell ⟨gd,k*4+2,none⟩ (.int .i64 3)) b ({ s with jobs:=s.jobs.set i ({ x.1 with stopped:=true },x.2),deploys:=s.deploys.set k ⟨d0,d1,3,d3⟩ }:Aa) cm:=⟨hM5.blk.ext hs6 (fun e=>Blk.ne hM5.blk hgbd (by decide) e),hO6,hM5.lo⟩
  have hst6:Step w (w5.setCell ⟨gd,k*4+2,none⟩ (.int .i64 3)) b s ({ s with jobs:=s.jobs.set i ({ x.1 with stopped:=true },x.2),deploys:=s.deploys.set k ⟨d0,d1,3,d3⟩ }:Aa):=hst5.cell (s2:=({ s with jobs:=s.jobs.set i ({ x.1 with stopped:=true },x.2),deploys:=s.deploys.set k ⟨d0,d1,3,d3⟩ }:Aa)) (MW.oD (s:=({ s with jobs:=s.jobs.set i ({ x.1 with stopped:=true },x.2) }:Aa)) hobd) (fun q hq=>hq) _
  have hC6:=hC5.ext hs6 (fun e=>Blk.ne hC5 hgbd (by decide) e)
  have hR6:=hR5.ext hs6 (fun e=>Blk.ne hR5 hgbd (by decide) e)
  clear m7 q2 f2 hputd hced hs6 hO6
  generalize (w5.setCell ⟨gd,k*4+2,none⟩ (.int .i64 3))=w6 at hM6 hst6 hC6 hR6 ⊢
  have cz:w6.cell? ⟨C,3,none⟩=some (.int .i64 c.job.id):=hC6.cell 3
  have hq4:base≤w6.heap.size:=by have:=hst6.size;omega
  have hq1:({ s with jobs:=s.jobs.set i ({ x.1 with stopped:=true },x.2),deploys:=s.deploys.set k ⟨d0,d1,3,d3⟩ }:Aa).jobs.length≤67108864:=by show (s.jobs.set i _).length≤_;rw [List.length_set];omega
  have hq2:({ s with jobs:=s.jobs.set i ({ x.1 with stopped:=true },x.2),deploys:=s.deploys.set k ⟨d0,d1,3,d3⟩ }:Aa).evals.length≤67108862:=by show s.evals.length≤_;omega
  have hq3:Fsm.Up EvalD.job ({ s with jobs:=s.jobs.set i ({ x.1 with stopped:=true },x.2),deploys:=s.deploys.set k ⟨d0,d1,3,d3⟩ }:Aa).evals:=hw.e
  have hnR:¬ MW ({ s with jobs:=s.jobs.set i ({ x.1 with stopped:=true },x.2),deploys:=s.deploys.set k ⟨d0,d1,3,d3⟩ }:Aa) b (C+1):=hM6.Cn hR6 (by decide)
  go_wp2_with (first|go_skip|go_guarded|(go_at_call 64;(with_reducible refine (Ef base b ({ s with jobs:=s.jobs.set i ({ x.1 with stopped:=true },x.2),deploys:=s.deploys.set k ⟨d0,d1,3,d3⟩ }:Aa) cm c.job.id w6 hM6 hq4 hq1 hq2 hq3).mono ?_);rintro e w7 ⟨A7,c7,l7,rfl,hM9,hD7,hx7⟩;have hR7:=hR6.step hx7 hnR)|((with_reducible refine isW ?_);refine Af rfl 34 _ _ rfl STResult (C+1) rfl (Au 0 0) rfl hR7 rfl rfl rfl ?_;intro w9 hR9 hx9))
  exact bodyPost_ret (results_cell rfl STResult (g:=C+1) rfl hR9 rfl) rfl ⟨_,⟨0,0,[]⟩,rfl,hM9.keep hx9 (fun e=>Blk.ne hM9.blk hR7 (by decide) e) (Apart.one hR7 (by decide)),by rw [HF.out];exact (congrArg (fun z=>(Fsm.eval ({ ({ s with jobs:=s.jobs.set i ({ x.1 with stopped:=true },x.2) }:Aa).data with deploys:=z }:Ab) c.job.id,(⟨0,0,[]⟩ : AQ))) HD2.out).trans (congrArg (fun z=>(z,(⟨0,0,[]⟩ : AQ))) hD7.symm),rfl,(hst6.trans hx7).fresh hx9 (fun q e=>by have:=HC.out;have:q=C+1:=e;omega)⟩
end Go.Proofs.YtccekmeifanipaaGreat
