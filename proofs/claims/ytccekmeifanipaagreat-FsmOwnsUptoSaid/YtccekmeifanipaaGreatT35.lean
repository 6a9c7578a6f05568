/- Parts of the proof: MPlan -/
import Derived.Test.YtccekmeifanipaaGreatT34
import Derived.Test.YtccekmeifanipaaGreatT32
import Derived.Test.YtccekmeifanipaaGreatT14
namespace Go.Proofs.YtccekmeifanipaaGreat
set_option linter.unusedVariables false
set_option linter.unusedSimpArgs false
set_option linter.unusedSectionVars false
open Go.RowKit
theorem Az.OC {base b q:Nat} {W:World} {s:Aa} {cm:Bool} {cs:Array Value} (h:Az base W b s cm) (hq:Blk W q 66 cs):¬ MW s b q:=by
 rintro (rfl|e|e|e|e|e|e|e)
 ·exact Blk.ne h.blk hq (by decide) rfl
 ·exact own_ne h.own.j.own hq (by decide) e
 ·exact own_ne h.own.t.own hq (by decide) e
 ·exact own_ne h.own.n hq (by decide) e
 ·exact own_ne h.own.a hq (by decide) e
 ·exact own_ne h.own.e hq (by decide) e
 ·exact own_ne h.own.d hq (by decide) e
 exact own_ne h.own.x hq (by decide) e
set_option maxRecDepth 20000 in
set_option maxHeartbeats 16000000 in
theorem mPlan (base b:Nat) (s:Aa) (cm:Bool) (c:Bl) (w:World) (hM:Az base w b s cm) (hc:Dx base w c) (hb:base≤w.heap.size) (hJ:s.jobs.length≤1048575) (hN:s.nodes.length≤1048575) (hA:s.allocs.length≤1048576) (hE:s.evals.length≤16777216) (hw:Fsm.Wf s.data) :
  Calls Tryz.prog 56 #[.pointer (some ⟨b,0,none⟩),.agg c.arr] w fun e w'=>∃ s' r,e=.returned (.agg (Au r.code r.value))∧Az base w' b s' cm∧Fsm.plan s.data c.d=(s'.data,r)∧r.allocs=[]∧Step w w' b s s':=by
 obtain ⟨hxW,hCW,hRW⟩:=cmd0 w c
 have hzW:=hxW.size
 have hMW:=hM.e0 hxW
 go_enter Tryz.func56,Tryz.ntmps56
 go_upto_region 1 with (first|go_skip|go_guarded)
 generalize hC:w.heap.size=C at hCW hRW hzW ⊢
 have HC:=Lib.hid hC
 clear hC
 generalize ((w.alloc (.cells c.arr 51)).alloc (.cells #[.int .i64 0,.int .i64 0,.slice none 0 0] 34))=W at hxW hCW hRW hzW hMW ⊢
 have hcp:∀ j u,c.Kl.toList[j]? = some u→W.cell? ⟨C,19+j,none⟩=some u:=fun j u hu=>by rw [hCW.cell];exact c.Q7 j u hu
 have hPp:Blk (W.alloc (.cells c.Kl 47)) W.heap.size 47 c.Kl:=Blk.new _ _ _
 have hxq:Ext Nothing W (W.alloc (.cells c.Kl 47)):=Ext.Ay
 have hMp:=hMW.e0 hxq
 have hRp:=hRW.e0 hxq
 have hxp:=hxW.tr hxq
 have hCP:C+1 < W.heap.size:=hRW.lt
 go_upto_region 2 with (first|go_skip|go_guarded|((with_reducible refine isW ?_);refine Ad rfl 47 _ rfl Pt C 19 rfl c.Kl hcp rfl ?_))
 generalize hPP:W.heap.size=P at hPp hCP ⊢
 generalize (W.alloc (.cells c.Kl 47))=wp at hPp hMp hRp hxp ⊢
 clear hcp hxq hCW hRW hMW hxW hPP
 have hnJ:s.nJ≤67108864:=by have:=hMp.own.jl;omega
 have hnE:s.nE≤67108864:=by have:=hMp.own.el;omega
 have hslj:=hMp.own.slJ
 have hsle:=hMp.own.slE
 rcases AV (fun x:EvalD=>x.job == c.pj) s.evals with ⟨hk,hkf,_⟩|⟨k,ev,hk,hek,hkp,hkf,hkfirst⟩
 ·have HK:=Lib.hid hk
  have HF:=Lib.hid (show Fsm.plan s.data c.d=(s.data,⟨34,0,[]⟩) from Fsm.NW hkf)
  clear hk hkf
  rcases AV (fun x:JobV=>x.1.id == c.pj) s.jobs with ⟨hi,_,_⟩|⟨i,x,hi,_,_,_,_⟩
  ·have HI:=Lib.hid hi
   clear hi
   refine AY (by kernel_rfl) (by kernel_rfl) ?_
   repeat (first|go_big_quiet_skip|(go_big_quiet_want;(first|((refine Bw rfl ?_);(first|(refine Ah (p:=⟨b,0,none⟩) (v:=.agg s.arr) ?_ ?_ ?_;(focus rfl);(focus (intro W' hW;exact run_load_struct (sz:=9) (b:=b) (off:=0) rfl Aj (by go_simp) (fun j u hu=>hW.c0 (hMp.at j u hu)) rfl;done)))|(refine Ah (p:=⟨P,0,none⟩) (v:=.int .i64 c.pj) ?_ ?_ ?_;(focus rfl);(focus (intro W' hW;have q:=(hPp.e0 hW).cell 0;go_simp;done))));(try simp only [Act.put,zA,zB,zC,zD,zE,zF]))|((refine BH rfl ?_);(first|(refine Ar (f:=61) (args:=#[.agg s.arr,.int .i64 c.pj]) (v:=.int .i64 (-1)) ?_ ?_ ?_;(focus (intro W' hW;go_simp;done));(focus (intro W' hW;refine (Bu s.AJ s.nJ s.cJ s.jobs c.pj W' (hslj.Al hW) hnJ _ _ _ _ _ _ _ _ _ rfl).mono ?_;intro e w' hcc;obtain ⟨he,hxu⟩:=hcc;refine ⟨?_,hxu⟩;rw [he,HI.out];done)))|(refine Ar (f:=75) (args:=#[.agg s.arr,.int .i64 c.pj]) (v:=.int .i64 (-1)) ?_ ?_ ?_;(focus (intro W' hW;go_simp;done));(focus (intro W' hW;refine (DZ s.AE s.nE s.cE s.evals c.pj W' (hsle.Al hW) hnE _ _ _ _ _ _ _ _ _ rfl).mono ?_;intro e w' hcc;obtain ⟨he,hxu⟩:=hcc;refine ⟨?_,hxu⟩;rw [he,HK.out];done))));(try simp only [Act.put,zA,zB,zC,zD,zE,zF]))|go_big_quiet_op);go_big_quiet_on))
   refine wpQuiet_nil ?_
   intro w2 hx2
   go_upto_region 3 with (first|go_skip|go_guarded)
   go_quiet (fail)
   have hdq:=(Ext.refl Nothing w2).drewN nq
   generalize w2.drewN nq=wq at hdq ⊢
   go_upto_region 4 with (first|go_skip|go_guarded)
   have hMq:=(hMp.e0 hx2).e0 hdq
   have hPq:=(hPp.e0 hx2).e0 hdq
   have hRq:=(hRp.e0 hx2).e0 hdq
   have hst:=Step.of0 (b:=b) (s:=s) ((hxp.tr hx2).tr hdq)
   go_wp2_with (first|go_skip|go_guarded|(go_at_call 31;(with_reducible refine (mNo 34 wq).mono ?_);rintro e w8 ⟨rfl,hx8⟩;have hR8:=hRq.e0 hx8)|((with_reducible refine isW ?_);refine Af rfl 34 _ _ rfl STResult (C+1) rfl (Au 34 0) rfl hR8 rfl rfl rfl ?_;intro w9 hR9 hx9))
   have hb9:=(hMq.e0 hx8).blk.lt
   exact bodyPost_ret (results_cell rfl STResult (g:=C+1) rfl hR9 rfl) rfl ⟨s,⟨34,0,[]⟩,rfl,(hMq.e0 hx8).keep hx9 (fun e=>Blk.ne (hMq.e0 hx8).blk hR8 (by decide) e) (Apart.one hR8 (by decide)),HF.out,rfl,(hst.m0 hx8).fresh hx9 (fun q e=>by have:=HC.out;have:q=C+1:=e;omega)⟩
  have HI:=Lib.hid hi
  clear hi
  have hi0:(0:Int)≤(i:Int):=by omega
  have hid:decide ((i:Int) < 0)=false:=decide_eq_false (Int.not_lt.2 hi0)
  refine AY (by kernel_rfl) (by kernel_rfl) ?_
  repeat (first|go_big_quiet_skip|(go_big_quiet_want;(first|((refine Bw rfl ?_);(first|(refine Ah (p:=⟨b,0,none⟩) (v:=.agg s.arr) ?_ ?_ ?_;(focus rfl);(focus (intro W' hW;exact run_load_struct (sz:=9) (b:=b) (off:=0) rfl Aj (by go_simp) (fun j u hu=>hW.c0 (hMp.at j u hu)) rfl;done)))|(refine Ah (p:=⟨P,0,none⟩) (v:=.int .i64 c.pj) ?_ ?_ ?_;(focus rfl);(focus (intro W' hW;have q:=(hPp.e0 hW).cell 0;go_simp;done))));(try simp only [Act.put,zA,zB,zC,zD,zE,zF]))|((refine BH rfl ?_);(first|(refine Ar (f:=61) (args:=#[.agg s.arr,.int .i64 c.pj]) (v:=.int .i64 (i:Int)) ?_ ?_ ?_;(focus (intro W' hW;go_simp;done));(focus (intro W' hW;refine (Bu s.AJ s.nJ s.cJ s.jobs c.pj W' (hslj.Al hW) hnJ _ _ _ _ _ _ _ _ _ rfl).mono ?_;intro e w' hcc;obtain ⟨he,hxu⟩:=hcc;refine ⟨?_,hxu⟩;rw [he,HI.out];done)))|(refine Ar (f:=75) (args:=#[.agg s.arr,.int .i64 c.pj]) (v:=.int .i64 (-1)) ?_ ?_ ?_;(focus (intro W' hW;go_simp;done));(focus (intro W' hW;refine (DZ s.AE s.nE s.cE s.evals c.pj W' (hsle.Al hW) hnE _ _ _ _ _ _ _ _ _ rfl).mono ?_;intro e w' hcc;obtain ⟨he,hxu⟩:=hcc;refine ⟨?_,hxu⟩;rw [he,HK.out];done))));(try simp only [Act.put,zA,zB,zC,zD,zE,zF]))|go_big_quiet_op);go_big_quiet_on))
  refine wpQuiet_nil ?_
  intro w2 hx2
  go_upto_region 3 with (first|go_skip|go_guarded)
  go_quiet (fail)
  have hdq:=(Ext.refl Nothing w2).drewN nq
  generalize w2.drewN nq=wq at hdq ⊢
  go_upto_region 4 with (first|go_skip|go_guarded)
  have hMq:=(hMp.e0 hx2).e0 hdq
  have hPq:=(hPp.e0 hx2).e0 hdq
  have hRq:=(hRp.e0 hx2).e0 hdq
  have hst:=Step.of0 (b:=b) (s:=s) ((hxp.tr hx2).tr hdq)
  go_wp2_with (first|go_skip|go_guarded|(go_at_call 31;(with_reducible refine (mNo 34 wq).mono ?_);rintro e w8 ⟨rfl,hx8⟩;have hR8:=hRq.e0 hx8)|((with_reducible refine isW ?_);refine Af rfl 34 _ _ rfl STResult (C+1) rfl (Au 34 0) rfl hR8 rfl rfl rfl ?_;intro w9 hR9 hx9))
  have hb9:=(hMq.e0 hx8).blk.lt
  exact bodyPost_ret (results_cell rfl STResult (g:=C+1) rfl hR9 rfl) rfl ⟨s,⟨34,0,[]⟩,rfl,(hMq.e0 hx8).keep hx9 (fun e=>Blk.ne (hMq.e0 hx8).blk hR8 (by decide) e) (Apart.one hR8 (by decide)),HF.out,rfl,(hst.m0 hx8).fresh hx9 (fun q e=>by have:=HC.out;have:q=C+1:=e;omega)⟩
 have HK:=Lib.hid hk
 rcases AV (fun x:JobV=>x.1.id == c.pj) s.jobs with ⟨hi,hf,_⟩|⟨i,x,hi,hxi,hp,hf,hfirst⟩
 ·have HI:=Lib.hid hi
  have HF:=Lib.hid (show Fsm.plan s.data c.d=(s.data,⟨34,0,[]⟩) from Fsm.OQ (Ct hf))
  clear hi hf hk hkf hek hkp hkfirst
  have hk0:(0:Int)≤(k:Int):=by omega
  have hkd:decide ((k:Int) < 0)=false:=decide_eq_false (Int.not_lt.2 hk0)
  refine AY (by kernel_rfl) (by kernel_rfl) ?_
  repeat (first|go_big_quiet_skip|(go_big_quiet_want;(first|((refine Bw rfl ?_);(first|(refine Ah (p:=⟨b,0,none⟩) (v:=.agg s.arr) ?_ ?_ ?_;(focus rfl);(focus (intro W' hW;exact run_load_struct (sz:=9) (b:=b) (off:=0) rfl Aj (by go_simp) (fun j u hu=>hW.c0 (hMp.at j u hu)) rfl;done)))|(refine Ah (p:=⟨P,0,none⟩) (v:=.int .i64 c.pj) ?_ ?_ ?_;(focus rfl);(focus (intro W' hW;have q:=(hPp.e0 hW).cell 0;go_simp;done))));(try simp only [Act.put,zA,zB,zC,zD,zE,zF]))|((refine BH rfl ?_);(first|(refine Ar (f:=61) (args:=#[.agg s.arr,.int .i64 c.pj]) (v:=.int .i64 (-1)) ?_ ?_ ?_;(focus (intro W' hW;go_simp;done));(focus (intro W' hW;refine (Bu s.AJ s.nJ s.cJ s.jobs c.pj W' (hslj.Al hW) hnJ _ _ _ _ _ _ _ _ _ rfl).mono ?_;intro e w' hcc;obtain ⟨he,hxu⟩:=hcc;refine ⟨?_,hxu⟩;rw [he,HI.out];done)))|(refine Ar (f:=75) (args:=#[.agg s.arr,.int .i64 c.pj]) (v:=.int .i64 (k:Int)) ?_ ?_ ?_;(focus (intro W' hW;go_simp;done));(focus (intro W' hW;refine (DZ s.AE s.nE s.cE s.evals c.pj W' (hsle.Al hW) hnE _ _ _ _ _ _ _ _ _ rfl).mono ?_;intro e w' hcc;obtain ⟨he,hxu⟩:=hcc;refine ⟨?_,hxu⟩;rw [he,HK.out];done))));(try simp only [Act.put,zA,zB,zC,zD,zE,zF]))|go_big_quiet_op);go_big_quiet_on))
  refine wpQuiet_nil ?_
  intro w2 hx2
  go_upto_region 3 with (first|go_skip|go_guarded)
  go_quiet (fail)
  have hdq:=(Ext.refl Nothing w2).drewN nq
  generalize w2.drewN nq=wq at hdq ⊢
  go_upto_region 4 with (first|go_skip|go_guarded)
  have hMq:=(hMp.e0 hx2).e0 hdq
  have hPq:=(hPp.e0 hx2).e0 hdq
  have hRq:=(hRp.e0 hx2).e0 hdq
  have hst:=Step.of0 (b:=b) (s:=s) ((hxp.tr hx2).tr hdq)
  go_wp2_with (first|go_skip|go_guarded|(go_at_call 31;(with_reducible refine (mNo 34 wq).mono ?_);rintro e w8 ⟨rfl,hx8⟩;have hR8:=hRq.e0 hx8)|((with_reducible refine isW ?_);refine Af rfl 34 _ _ rfl STResult (C+1) rfl (Au 34 0) rfl hR8 rfl rfl rfl ?_;intro w9 hR9 hx9))
  have hb9:=(hMq.e0 hx8).blk.lt
  exact bodyPost_ret (results_cell rfl STResult (g:=C+1) rfl hR9 rfl) rfl ⟨s,⟨34,0,[]⟩,rfl,(hMq.e0 hx8).keep hx9 (fun e=>Blk.ne (hMq.e0 hx8).blk hR8 (by decide) e) (Apart.one hR8 (by decide)),HF.out,rfl,(hst.m0 hx8).fresh hx9 (fun q e=>by have:=HC.out;have:q=C+1:=e;omega)⟩
 have HI:=Lib.hid hi
 have HJA:=Lib.hid (show Fsm.AU s.data c.d.plan.job=some x.1 from Cs hf)
 have HEA:=Lib.hid (show Fsm.II s.data c.d.plan.job=some ev from hkf)
 have HXI:=Lib.hid hxi
 have HEK:=Lib.hid hek
 have HKP:=Lib.hid hkp
 have HKF:=Lib.hid hkfirst
 obtain ⟨gJ,_,hAJ,hobJ,hgbJ,hi1,hceJ,_⟩:=hMp.own.PO hxi
 obtain ⟨gE,_,hAE,hobE,hgbE,hk1,hceE,_⟩:=hMp.own.Ju hek
 have HAJ:=Lib.hid (show s.AJ=some ⟨gJ,0,none⟩ from hAJ)
 have HAE:=Lib.hid (show s.AE=some ⟨gE,0,none⟩ from hAE)
 have hi0:(0:Int)≤(i:Int):=by omega
 have hk0:(0:Int)≤(k:Int):=by omega
 have hid:decide ((i:Int) < 0)=false:=decide_eq_false (Int.not_lt.2 hi0)
 have hkd:decide ((k:Int) < 0)=false:=decide_eq_false (Int.not_lt.2 hk0)
 clear hi hf hp hfirst hk hkf hek hkp hkfirst hxi hAJ hAE
 obtain ⟨⟨j0,j1,j2,j3,jg,j5,j6⟩,jv⟩:=x
 obtain ⟨e0,e1,e2,e3⟩:=ev
 cases t1:(j5 != c.pv) with
 | true =>
  have HF:=Lib.hid (show Fsm.plan s.data c.d=(s.data,⟨34,0,[]⟩) from Fsm.Ja HJA.out HEA.out (show (!(j5 == c.pv) || !(e2 == 1) || !(e3 == c.pi))=true by rw [show (j5 == c.pv)=false from by simpa using t1];rfl))
  refine AY (by kernel_rfl) (by kernel_rfl) ?_
  repeat (first|go_big_quiet_skip|(go_big_quiet_want;(first|((refine Bw rfl ?_);(first|(refine Ah (p:=⟨b,0,none⟩) (v:=.agg s.arr) ?_ ?_ ?_;(focus rfl);(focus (intro W' hW;exact run_load_struct (sz:=9) (b:=b) (off:=0) rfl Aj (by go_simp) (fun j u hu=>hW.c0 (hMp.at j u hu)) rfl;done)))|(refine Ah (p:=⟨P,0,none⟩) (v:=.int .i64 c.pj) ?_ ?_ ?_;(focus rfl);(focus (intro W' hW;have q:=(hPp.e0 hW).cell 0;go_simp;done))));(try simp only [Act.put,zA,zB,zC,zD,zE,zF]))|((refine BH rfl ?_);(first|(refine Ar (f:=61) (args:=#[.agg s.arr,.int .i64 c.pj]) (v:=.int .i64 (i:Int)) ?_ ?_ ?_;(focus (intro W' hW;go_simp;done));(focus (intro W' hW;refine (Bu s.AJ s.nJ s.cJ s.jobs c.pj W' (hslj.Al hW) hnJ _ _ _ _ _ _ _ _ _ rfl).mono ?_;intro e w' hcc;obtain ⟨he,hxu⟩:=hcc;refine ⟨?_,hxu⟩;rw [he,HI.out];done)))|(refine Ar (f:=75) (args:=#[.agg s.arr,.int .i64 c.pj]) (v:=.int .i64 (k:Int)) ?_ ?_ ?_;(focus (intro W' hW;go_simp;done));(focus (intro W' hW;refine (DZ s.AE s.nE s.cE s.evals c.pj W' (hsle.Al hW) hnE _ _ _ _ _ _ _ _ _ rfl).mono ?_;intro e w' hcc;obtain ⟨he,hxu⟩:=hcc;refine ⟨?_,hxu⟩;rw [he,HK.out];done))));(try simp only [Act.put,zA,zB,zC,zD,zE,zF]))|go_big_quiet_op);go_big_quiet_on))
  refine wpQuiet_nil ?_
  intro w2 hx2
  have m2:w2.cell? ⟨b,2,none⟩=some (.slice (some ⟨gJ,0,none⟩) s.nJ s.cJ):=by rw [← HAJ.out];exact (hMp.e0 hx2).blk.cell 2
  have m6:w2.cell? ⟨b,6,none⟩=some (.slice (some ⟨gE,0,none⟩) s.nE s.cE):=by rw [← HAE.out];exact (hMp.e0 hx2).blk.cell 6
  have kj5:w2.cell? ⟨gJ,i*7+5,none⟩=some (.int .i64 j5):=hx2.c0 (hceJ 5 _ rfl)
  have ke2:w2.cell? ⟨gE,k*4+2,none⟩=some (.int .i64 e2):=hx2.c0 (hceE 2 _ rfl)
  have ke3:w2.cell? ⟨gE,k*4+3,none⟩=some (.int .i64 e3):=hx2.c0 (hceE 3 _ rfl)
  have p1:w2.cell? ⟨P,1,none⟩=some (.int .i64 c.pv):=(hPp.e0 hx2).cell 1
  have p2:w2.cell? ⟨P,2,none⟩=some (.int .i64 c.pi):=(hPp.e0 hx2).cell 2
  go_upto_region 3 with (first|go_skip|go_guarded)
  go_quiet (fail)
  have hdq:=(Ext.refl Nothing w2).drewN nq
  generalize w2.drewN nq=wq at hdq ⊢
  go_upto_region 4 with (first|go_skip|go_guarded)
  have hMq:=(hMp.e0 hx2).e0 hdq
  have hPq:=(hPp.e0 hx2).e0 hdq
  have hRq:=(hRp.e0 hx2).e0 hdq
  have hst:=Step.of0 (b:=b) (s:=s) ((hxp.tr hx2).tr hdq)
  go_wp2_with (first|go_skip|go_guarded|(go_at_call 31;(with_reducible refine (mNo 34 wq).mono ?_);rintro e w8 ⟨rfl,hx8⟩;have hR8:=hRq.e0 hx8)|((with_reducible refine isW ?_);refine Af rfl 34 _ _ rfl STResult (C+1) rfl (Au 34 0) rfl hR8 rfl rfl rfl ?_;intro w9 hR9 hx9))
  have hb9:=(hMq.e0 hx8).blk.lt
  exact bodyPost_ret (results_cell rfl STResult (g:=C+1) rfl hR9 rfl) rfl ⟨s,⟨34,0,[]⟩,rfl,(hMq.e0 hx8).keep hx9 (fun e=>Blk.ne (hMq.e0 hx8).blk hR8 (by decide) e) (Apart.one hR8 (by decide)),HF.out,rfl,(hst.m0 hx8).fresh hx9 (fun q e=>by have:=HC.out;have:q=C+1:=e;omega)⟩
 | false =>
  cases t2:(e2 != 1) with
  | true =>
   have HF:=Lib.hid (show Fsm.plan s.data c.d=(s.data,⟨34,0,[]⟩) from Fsm.Ja HJA.out HEA.out (show (!(j5 == c.pv) || !(e2 == 1) || !(e3 == c.pi))=true by rw [show (e2 == 1)=false from by simpa using t2];simp))
   refine AY (by kernel_rfl) (by kernel_rfl) ?_
   repeat (first|go_big_quiet_skip|(go_big_quiet_want;(first|((refine Bw rfl ?_);(first|(refine Ah (p:=⟨b,0,none⟩) (v:=.agg s.arr) ?_ ?_ ?_;(focus rfl);(focus (intro W' hW;exact run_load_struct (sz:=9) (b:=b) (off:=0) rfl Aj (by go_simp) (fun j u hu=>hW.c0 (hMp.at j u hu)) rfl;done)))|(refine Ah (p:=⟨P,0,none⟩) (v:=.int .i64 c.pj) ?_ ?_ ?_;(focus rfl);(focus (intro W' hW;have q:=(hPp.e0 hW).cell 0;go_simp;done))));(try simp only [Act.put,zA,zB,zC,zD,zE,zF]))|((refine BH rfl ?_);(first|(refine Ar (f:=61) (args:=#[.agg s.arr,.int .i64 c.pj]) (v:=.int .i64 (i:Int)) ?_ ?_ ?_;(focus (intro W' hW;go_simp;done));(focus (intro W' hW;refine (Bu s.AJ s.nJ s.cJ s.jobs c.pj W' (hslj.Al hW) hnJ _ _ _ _ _ _ _ _ _ rfl).mono ?_;intro e w' hcc;obtain ⟨he,hxu⟩:=hcc;refine ⟨?_,hxu⟩;rw [he,HI.out];done)))|(refine Ar (f:=75) (args:=#[.agg s.arr,.int .i64 c.pj]) (v:=.int .i64 (k:Int)) ?_ ?_ ?_;(focus (intro W' hW;go_simp;done));(focus (intro W' hW;refine (DZ s.AE s.nE s.cE s.evals c.pj W' (hsle.Al hW) hnE _ _ _ _ _ _ _ _ _ rfl).mono ?_;intro e w' hcc;obtain ⟨he,hxu⟩:=hcc;refine ⟨?_,hxu⟩;rw [he,HK.out];done))));(try simp only [Act.put,zA,zB,zC,zD,zE,zF]))|go_big_quiet_op);go_big_quiet_on))
   refine wpQuiet_nil ?_
   intro w2 hx2
   have m2:w2.cell? ⟨b,2,none⟩=some (.slice (some ⟨gJ,0,none⟩) s.nJ s.cJ):=by rw [← HAJ.out];exact (hMp.e0 hx2).blk.cell 2
   have m6:w2.cell? ⟨b,6,none⟩=some (.slice (some ⟨gE,0,none⟩) s.nE s.cE):=by rw [← HAE.out];exact (hMp.e0 hx2).blk.cell 6
   have kj5:w2.cell? ⟨gJ,i*7+5,none⟩=some (.int .i64 j5):=hx2.c0 (hceJ 5 _ rfl)
   have ke2:w2.cell? ⟨gE,k*4+2,none⟩=some (.int .i64 e2):=hx2.c0 (hceE 2 _ rfl)
   have ke3:w2.cell? ⟨gE,k*4+3,none⟩=some (.int .i64 e3):=hx2.c0 (hceE 3 _ rfl)
   have p1:w2.cell? ⟨P,1,none⟩=some (.int .i64 c.pv):=(hPp.e0 hx2).cell 1
   have p2:w2.cell? ⟨P,2,none⟩=some (.int .i64 c.pi):=(hPp.e0 hx2).cell 2
   go_upto_region 3 with (first|go_skip|go_guarded)
   go_quiet (fail)
   have hdq:=(Ext.refl Nothing w2).drewN nq
   generalize w2.drewN nq=wq at hdq ⊢
   go_upto_region 4 with (first|go_skip|go_guarded)
   have hMq:=(hMp.e0 hx2).e0 hdq
   have hPq:=(hPp.e0 hx2).e0 hdq
   have hRq:=(hRp.e0 hx2).e0 hdq
   have hst:=Step.of0 (b:=b) (s:=s) ((hxp.tr hx2).tr hdq)
   go_wp2_with (first|go_skip|go_guarded|(go_at_call 31;(with_reducible refine (mNo 34 wq).mono ?_);rintro e w8 ⟨rfl,hx8⟩;have hR8:=hRq.e0 hx8)|((with_reducible refine isW ?_);refine Af rfl 34 _ _ rfl STResult (C+1) rfl (Au 34 0) rfl hR8 rfl rfl rfl ?_;intro w9 hR9 hx9))
   have hb9:=(hMq.e0 hx8).blk.lt
   exact bodyPost_ret (results_cell rfl STResult (g:=C+1) rfl hR9 rfl) rfl ⟨s,⟨34,0,[]⟩,rfl,(hMq.e0 hx8).keep hx9 (fun e=>Blk.ne (hMq.e0 hx8).blk hR8 (by decide) e) (Apart.one hR8 (by decide)),HF.out,rfl,(hst.m0 hx8).fresh hx9 (fun q e=>by have:=HC.out;have:q=C+1:=e;omega)⟩
  | false =>
   cases t3:(e3 != c.pi) with
   | true =>
    have HF:=Lib.hid (show Fsm.plan s.data c.d=(s.data,⟨34,0,[]⟩) from Fsm.Ja HJA.out HEA.out (show (!(j5 == c.pv) || !(e2 == 1) || !(e3 == c.pi))=true by rw [show (e3 == c.pi)=false from by simpa using t3];simp))
    refine AY (by kernel_rfl) (by kernel_rfl) ?_
    repeat (first|go_big_quiet_skip|(go_big_quiet_want;(first|((refine Bw rfl ?_);(first|(refine Ah (p:=⟨b,0,none⟩) (v:=.agg s.arr) ?_ ?_ ?_;(focus rfl);(focus (intro W' hW;exact run_load_struct (sz:=9) (b:=b) (off:=0) rfl Aj (by go_simp) (fun j u hu=>hW.c0 (hMp.at j u hu)) rfl;done)))|(refine Ah (p:=⟨P,0,none⟩) (v:=.int .i64 c.pj) ?_ ?_ ?_;(focus rfl);(focus (intro W' hW;have q:=(hPp.e0 hW).cell 0;go_simp;done))));(try simp only [Act.put,zA,zB,zC,zD,zE,zF]))|((refine BH rfl ?_);(first|(refine Ar (f:=61) (args:=#[.agg s.arr,.int .i64 c.pj]) (v:=.int .i64 (i:Int)) ?_ ?_ ?_;(focus (intro W' hW;go_simp;done));(focus (intro W' hW;refine (Bu s.AJ s.nJ s.cJ s.jobs c.pj W' (hslj.Al hW) hnJ _ _ _ _ _ _ _ _ _ rfl).mono ?_;intro e w' hcc;obtain ⟨he,hxu⟩:=hcc;refine ⟨?_,hxu⟩;rw [he,HI.out];done)))|(refine Ar (f:=75) (args:=#[.agg s.arr,.int .i64 c.pj]) (v:=.int .i64 (k:Int)) ?_ ?_ ?_;(focus (intro W' hW;go_simp;done));(focus (intro W' hW;refine (DZ s.AE s.nE s.cE s.evals c.pj W' (hsle.Al hW) hnE _ _ _ _ _ _ _ _ _ rfl).mono ?_;intro e w' hcc;obtain ⟨he,hxu⟩:=hcc;refine ⟨?_,hxu⟩;rw [he,HK.out];done))));(try simp only [Act.put,zA,zB,zC,zD,zE,zF]))|go_big_quiet_op);go_big_quiet_on))
    refine wpQuiet_nil ?_
    intro w2 hx2
    have m2:w2.cell? ⟨b,2,none⟩=some (.slice (some ⟨gJ,0,none⟩) s.nJ s.cJ):=by rw [← HAJ.out];exact (hMp.e0 hx2).blk.cell 2
    have m6:w2.cell? ⟨b,6,none⟩=some (.slice (some ⟨gE,0,none⟩) s.nE s.cE):=by rw [← HAE.out];exact (hMp.e0 hx2).blk.cell 6
    have kj5:w2.cell? ⟨gJ,i*7+5,none⟩=some (.int .i64 j5):=hx2.c0 (hceJ 5 _ rfl)
    have ke2:w2.cell? ⟨gE,k*4+2,none⟩=some (.int .i64 e2):=hx2.c0 (hceE 2 _ rfl)
    have ke3:w2.cell? ⟨gE,k*4+3,none⟩=some (.int .i64 e3):=hx2.c0 (hceE 3 _ rfl)
    have p1:w2.cell? ⟨P,1,none⟩=some (.int .i64 c.pv):=(hPp.e0 hx2).cell 1
    have p2:w2.cell? ⟨P,2,none⟩=some (.int .i64 c.pi):=(hPp.e0 hx2).cell 2
    go_upto_region 3 with (first|go_skip|go_guarded)
    go_quiet (fail)
    have hdq:=(Ext.refl Nothing w2).drewN nq
    generalize w2.drewN nq=wq at hdq ⊢
    go_upto_region 4 with (first|go_skip|go_guarded)
    have hMq:=(hMp.e0 hx2).e0 hdq
    have hPq:=(hPp.e0 hx2).e0 hdq
    have hRq:=(hRp.e0 hx2).e0 hdq
    have hst:=Step.of0 (b:=b) (s:=s) ((hxp.tr hx2).tr hdq)
    go_wp2_with (first|go_skip|go_guarded|(go_at_call 31;(with_reducible refine (mNo 34 wq).mono ?_);rintro e w8 ⟨rfl,hx8⟩;have hR8:=hRq.e0 hx8)|((with_reducible refine isW ?_);refine Af rfl 34 _ _ rfl STResult (C+1) rfl (Au 34 0) rfl hR8 rfl rfl rfl ?_;intro w9 hR9 hx9))
    have hb9:=(hMq.e0 hx8).blk.lt
    exact bodyPost_ret (results_cell rfl STResult (g:=C+1) rfl hR9 rfl) rfl ⟨s,⟨34,0,[]⟩,rfl,(hMq.e0 hx8).keep hx9 (fun e=>Blk.ne (hMq.e0 hx8).blk hR8 (by decide) e) (Apart.one hR8 (by decide)),HF.out,rfl,(hst.m0 hx8).fresh hx9 (fun q e=>by have:=HC.out;have:q=C+1:=e;omega)⟩
   | false =>
    have HPG:=Lib.hid (show (!(j5 == c.pv) || !(e2 == 1) || !(e3 == c.pi))=false by rw [show (j5 == c.pv)=true from by simpa using t1,show (e2 == 1)=true from by simpa using t2,show (e3 == c.pi)=true from by simpa using t3];rfl)
    refine AY (by kernel_rfl) (by kernel_rfl) ?_
    repeat (first|go_big_quiet_skip|(go_big_quiet_want;(first|((refine Bw rfl ?_);(first|(refine Ah (p:=⟨b,0,none⟩) (v:=.agg s.arr) ?_ ?_ ?_;(focus rfl);(focus (intro W' hW;exact run_load_struct (sz:=9) (b:=b) (off:=0) rfl Aj (by go_simp) (fun j u hu=>hW.c0 (hMp.at j u hu)) rfl;done)))|(refine Ah (p:=⟨P,0,none⟩) (v:=.int .i64 c.pj) ?_ ?_ ?_;(focus rfl);(focus (intro W' hW;have q:=(hPp.e0 hW).cell 0;go_simp;done))));(try simp only [Act.put,zA,zB,zC,zD,zE,zF]))|((refine BH rfl ?_);(first|(refine Ar (f:=61) (args:=#[.agg s.arr,.int .i64 c.pj]) (v:=.int .i64 (i:Int)) ?_ ?_ ?_;(focus (intro W' hW;go_simp;done));(focus (intro W' hW;refine (Bu s.AJ s.nJ s.cJ s.jobs c.pj W' (hslj.Al hW) hnJ _ _ _ _ _ _ _ _ _ rfl).mono ?_;intro e w' hcc;obtain ⟨he,hxu⟩:=hcc;refine ⟨?_,hxu⟩;rw [he,HI.out];done)))|(refine Ar (f:=75) (args:=#[.agg s.arr,.int .i64 c.pj]) (v:=.int .i64 (k:Int)) ?_ ?_ ?_;(focus (intro W' hW;go_simp;done));(focus (intro W' hW;refine (DZ s.AE s.nE s.cE s.evals c.pj W' (hsle.Al hW) hnE _ _ _ _ _ _ _ _ _ rfl).mono ?_;intro e w' hcc;obtain ⟨he,hxu⟩:=hcc;refine ⟨?_,hxu⟩;rw [he,HK.out];done))));(try simp only [Act.put,zA,zB,zC,zD,zE,zF]))|go_big_quiet_op);go_big_quiet_on))
    refine wpQuiet_nil ?_
    intro w2 hx2
    have m2:w2.cell? ⟨b,2,none⟩=some (.slice (some ⟨gJ,0,none⟩) s.nJ s.cJ):=by rw [← HAJ.out];exact (hMp.e0 hx2).blk.cell 2
    have m6:w2.cell? ⟨b,6,none⟩=some (.slice (some ⟨gE,0,none⟩) s.nE s.cE):=by rw [← HAE.out];exact (hMp.e0 hx2).blk.cell 6
    have kj5:w2.cell? ⟨gJ,i*7+5,none⟩=some (.int .i64 j5):=hx2.c0 (hceJ 5 _ rfl)
    have ke2:w2.cell? ⟨gE,k*4+2,none⟩=some (.int .i64 e2):=hx2.c0 (hceE 2 _ rfl)
    have ke3:w2.cell? ⟨gE,k*4+3,none⟩=some (.int .i64 e3):=hx2.c0 (hceE 3 _ rfl)
    have p1:w2.cell? ⟨P,1,none⟩=some (.int .i64 c.pv):=(hPp.e0 hx2).cell 1
    have p2:w2.cell? ⟨P,2,none⟩=some (.int .i64 c.pi):=(hPp.e0 hx2).cell 2
    go_upto_region 3 with (first|go_skip|go_guarded)
    go_quiet (fail)
    have hdq:=(Ext.refl Nothing w2).drewN nq
    generalize w2.drewN nq=wq at hdq ⊢
    go_upto_region 5 with (first|go_skip|go_guarded)
    have hMq:=(hMp.e0 hx2).e0 hdq
    have hPq:=(hPp.e0 hx2).e0 hdq
    have hRq:=(hRp.e0 hx2).e0 hdq
    have hst:=Step.of0 (b:=b) (s:=s) ((hxp.tr hx2).tr hdq)
    have hsA0:=Lib.hid hM.own.al
    have hssl:=Lib.hid hc.s.len
    have hpsl:=Lib.hid hc.p.len
    have hsn:=hc.sl
    have hpn:=hc.pl
    have hnA:s.nA≤1048576:=by have:=hM.own.al;omega
    have p3:wq.cell? ⟨P,3,none⟩=some (.slice c.SA c.sn c.sc):=hPq.cell 3
    have hnR:¬ MW s b (C+1):=fun e=>by have:=hM.FL e;have:=HC.out;omega
    clear hx2 hdq hPp hRp hMp hxp hslj hsle hceJ hceE m2 m6 kj5 ke2 ke3 p1 p2 hgbJ hgbE hid hkd t1 t2 t3
    go_wp2
    clear p3
    go_loopw [89] (fun ki wr=>∃ t:Nat,t≤c.sn∧ki=.int .i64 t∧∃ aL,aL.length=s.nA∧aL=Fsm.stops c.pj s.allocs (c.stops.take t)∧Az base wr b ({ s with allocs:=aL }:Aa) cm∧Blk wr P 47 c.Kl∧Blk wr (C+1) 34 #[.int .i64 0,.int .i64 0,.slice none 0 0]∧Step w wr b s ({ s with allocs:=aL }:Aa)) (fun ki _=>c.sn - (intOf ki).toNat)
    case atStart=>exact ⟨0,Nat.zero_le _,rfl,s.allocs,hsA0.out.symm,rfl,hMq,hPq,hRq,hst⟩
    case round =>
     obtain ⟨t,ht,rfl,aL,hla,hstp0,hMr,hPr,hRr,hsr⟩:=hrel
     clear hMq hPq hRq hst
     by_cases hlt:t < c.sn
     ·have hci:=hc.keep (hsr.ext.mono (fun q _ e=>(hM.mw e).1))
      obtain ⟨hjn,bs,off,hSe,hsce⟩:=hci.s.get (Ext.refl Nothing wr) hlt
      have hstp:=Ex (fun m id=>Fsm.Ap (fun a:Ac=>a.id == id) (fun a:Ac=>if a.job == c.pj && !Bv a then { a with stop:=true } else a) m) s.allocs c.stops t hjn
      rw [show List.foldl _ s.allocs (c.stops.take t)=aL from hstp0.symm] at hstp
      generalize c.stops[t]=id at hsce hstp
      rw [hSe]
      have q0:wr.cell? ⟨bs,off+t,none⟩=some (.int .i64 id):=by have:=hsce 0 _ rfl;simpa using this
      have hk0' : (0:Int)≤(t:Int):=by omega
      have hk1' : (t:Int) < c.sn:=by omega
      have HT:=Lib.hid hlt
      have HLA:=Lib.hid hla
      have HST:=Lib.hid (show Fsm.stops c.pj s.allocs (c.stops.take (t+1))=Fsm.Ap (fun a:Ac=>a.id == id) (fun a:Ac=>if a.job == c.pj && !Bv a then { a with stop:=true } else a) aL from hstp)
      clear hSe hstp hstp0 hla hci hsce hlt
      have hslA:Sl wr 11 s.AA s.nA (aL.map Ac.cells):=hMr.own.slA
      have hnA2:s.nA≤67108864:=by omega
      rcases AV (fun x:Ac=>x.id == id) aL with ⟨hi,hf,_⟩|⟨m,y,hi,hy,hp,hf,hfirst⟩
      ·have hs1:=Lib.hid (show aL=Fsm.stops c.pj s.allocs (c.stops.take (t+1)) by rw [HST.out];exact (Fsm.Ew hf).symm)
       have HI:=Lib.hid hi
       clear hi hf
       go_upto_region 9 with (first|go_skip|go_guarded|((with_reducible refine isW ?_);refine Ad rfl 30 _ rfl Aj b 0 rfl s.arr (hMr.at) rfl ?_)|(go_at_call 76;(with_reducible refine (Fx s.AA s.nA s.cA aL id wr hslA hnA2 _ _ _ _ _ _ _ _ _ rfl).mono ?_);rintro e w1 ⟨rfl,hx1⟩;(rw [HI.out])))
       refine AY (by kernel_rfl) (by kernel_rfl) ?_
       repeat (first|go_big_quiet_skip|(go_big_quiet_want;(first|go_big_quiet_op);go_big_quiet_on))
       refine wpQuiet_nil ?_
       intro w3 hx3
       go_wp2_with (first|go_skip|go_guarded)
       go_roundw
       case rel=>exact ⟨t+1,HT.out,by go_num,aL,HLA.out,hs1.out,(hMr.e0 hx1).e0 hx3,(hPr.e0 hx1).e0 hx3,(hRr.e0 hx1).e0 hx3,(hsr.m0 hx1).m0 hx3⟩
       case measure=>have:=HT.out;simp [intOf];omega
      obtain ⟨y0,y1,y2,y3,y4,y5,y6,⟨y7,y8⟩,y9,y10⟩:=y
      have HTS:=Lib.hid (Fsm.BF (f:=(fun a:Ac=>if a.job == c.pj && !Bv a then { a with stop:=true } else a)) hy hp hfirst)
      have HY:=Lib.hid hy
      have HI:=Lib.hid hi
      have hm0:(0:Int)≤(m:Int):=by omega
      have hmg:decide ((0:Int)≤(m:Int))=true:=by simp
      obtain ⟨g,_,hAg,hob,hgb,hm1,hce,_⟩:=hMr.own.LB (show ({ s with allocs:=aL }:Aa).allocs[m]? = some ⟨y0,y1,y2,y3,y4,y5,y6,⟨y7,y8⟩,y9,y10⟩ from hy)
      have hm1:(m:Int) < s.nA:=hm1
      have HAG:=Lib.hid (show s.AA=some ⟨g,0,none⟩ from hAg)
      clear hi hf hy hp hfirst hAg
      go_upto_region 9 with (first|go_skip|go_guarded|((with_reducible refine isW ?_);refine Ad rfl 30 _ rfl Aj b 0 rfl s.arr (hMr.at) rfl ?_)|(go_at_call 76;(with_reducible refine (Fx s.AA s.nA s.cA aL id wr hslA hnA2 _ _ _ _ _ _ _ _ _ rfl).mono ?_);rintro e w1 ⟨rfl,hx1⟩;(rw [HI.out])))
      have m5:w1.cell? ⟨b,5,none⟩=some (.slice (some ⟨g,0,none⟩) s.nA s.cA):=by rw [← HAG.out];exact (hMr.e0 hx1).blk.cell 5
      have k1:w1.cell? ⟨g,m*11+1,none⟩=some (.int .i64 y1):=hx1.c0 (hce 1 _ rfl)
      have hce1:∀ j u,(#[.int .i64 y0,.int .i64 y1,.int .i64 y2,.int .i64 y3,.int .i64 y4,.int .i64 y5,.int .i64 y6,.int .i64 y7,.int .i64 y8,.bool y9,.int .i64 y10]:Array Value).toList[j]? = some u→w1.cell? ⟨g,m*11+j,none⟩=some u:=fun j u hu=>hx1.c0 (hce j u hu)
      have p0:w1.cell? ⟨P,0,none⟩=some (.int .i64 c.pj):=(hPr.e0 hx1).cell 0
      clear hce
      cases v1:(y1 == c.pj) with
      | false =>
       have hs1:=Lib.hid (show aL=Fsm.stops c.pj s.allocs (c.stops.take (t+1)) by rw [HST.out];exact (HTS.out.trans (by show aL.set m (if (y1 == c.pj && !Bv _)=true then _ else _)=aL;rw [if_neg (by rw [v1];simp)];exact set_self HY.out)).symm)
       refine AY (by kernel_rfl) (by kernel_rfl) ?_
       repeat (first|go_big_quiet_skip|(go_big_quiet_want;(first|((refine Bw rfl ?_);(first|(refine Ah (p:=⟨b,5,none⟩) (v:=.slice (some ⟨g,0,none⟩) s.nA s.cA) ?_ ?_ ?_;(focus rfl);(focus (intro W' hW;have q:=hW.c0 m5;go_simp;done)))|(refine Ah (p:=⟨g,m*11+1,none⟩) (v:=.int .i64 y1) ?_ ?_ ?_;(focus rfl);(focus (intro W' hW;have q:=hW.c0 k1;go_simp;done)))|(refine Ah (p:=⟨P,0,none⟩) (v:=.int .i64 c.pj) ?_ ?_ ?_;(focus rfl);(focus (intro W' hW;have q:=hW.c0 p0;go_simp;done)))|(refine Ah (p:=⟨g,m*11,none⟩) (v:=.agg #[.int .i64 y0,.int .i64 y1,.int .i64 y2,.int .i64 y3,.int .i64 y4,.int .i64 y5,.int .i64 y6,.int .i64 y7,.int .i64 y8,.bool y9,.int .i64 y10]) ?_ ?_ ?_;(focus rfl);(focus (intro W' hW;exact run_load_struct (sz:=11) (b:=g) (off:=m*11) rfl Ba (by go_simp) (fun j u hu=>hW.c0 (hce1 j u hu)) rfl;done))));(try simp only [Act.put,zA,zB,zC,zD,zE,zF]);(try simp only [v1]))|((refine BH rfl ?_);(first|(refine Ar (f:=74) (args:=#[.agg #[.int .i64 y0,.int .i64 y1,.int .i64 y2,.int .i64 y3,.int .i64 y4,.int .i64 y5,.int .i64 y6,.int .i64 y7,.int .i64 y8,.bool y9,.int .i64 y10]]) (v:=.bool (decide (3≤y10))) ?_ ?_ ?_;(focus (intro W' hW;go_simp;done));(focus (intro W' hW;refine (Bt #[.int .i64 y0,.int .i64 y1,.int .i64 y2,.int .i64 y3,.int .i64 y4,.int .i64 y5,.int .i64 y6,.int .i64 y7,.int .i64 y8,.bool y9,.int .i64 y10] y10 W' rfl rfl).mono ?_;intro e w' hcc;obtain ⟨he,hxu⟩:=hcc;refine ⟨?_,hxu⟩;exact he;done))));(try simp only [Act.put,zA,zB,zC,zD,zE,zF]);(try simp only [v1]))|go_big_quiet_op);go_big_quiet_on))
       refine wpQuiet_nil ?_
       intro w3 hx3
       go_wp2_with (first|go_skip|go_guarded)
       go_roundw
       case rel=>exact ⟨t+1,HT.out,by go_num,aL,HLA.out,hs1.out,(hMr.e0 hx1).e0 hx3,(hPr.e0 hx1).e0 hx3,(hRr.e0 hx1).e0 hx3,(hsr.m0 hx1).m0 hx3⟩
       case measure=>have:=HT.out;simp [intOf];omega
      | true =>
       cases v2:decide (3≤y10) with
       | true =>
        have hs1:=Lib.hid (show aL=Fsm.stops c.pj s.allocs (c.stops.take (t+1)) by rw [HST.out];exact (HTS.out.trans (by show aL.set m (if (y1 == c.pj && !Bv _)=true then _ else _)=aL;rw [if_neg (by rw [v1];simp [Bv];simpa using v2)];exact set_self HY.out)).symm)
        refine AY (by kernel_rfl) (by kernel_rfl) ?_
        repeat (first|go_big_quiet_skip|(go_big_quiet_want;(first|((refine Bw rfl ?_);(first|(refine Ah (p:=⟨b,5,none⟩) (v:=.slice (some ⟨g,0,none⟩) s.nA s.cA) ?_ ?_ ?_;(focus rfl);(focus (intro W' hW;have q:=hW.c0 m5;go_simp;done)))|(refine Ah (p:=⟨g,m*11+1,none⟩) (v:=.int .i64 y1) ?_ ?_ ?_;(focus rfl);(focus (intro W' hW;have q:=hW.c0 k1;go_simp;done)))|(refine Ah (p:=⟨P,0,none⟩) (v:=.int .i64 c.pj) ?_ ?_ ?_;(focus rfl);(focus (intro W' hW;have q:=hW.c0 p0;go_simp;done)))|(refine Ah (p:=⟨g,m*11,none⟩) (v:=.agg #[.int .i64 y0,.int .i64 y1,.int .i64 y2,.int .i64 y3,.int .i64 y4,.int .i64 y5,.int .i64 y6,.int .i64 y7,.int .i64 y8,.bool y9,.int .i64 y10]) ?_ ?_ ?_;(focus rfl);(focus (intro W' hW;exact run_load_struct (sz:=11) (b:=g) (off:=m*11) rfl Ba (by go_simp) (fun j u hu=>hW.c0 (hce1 j u hu)) rfl;done))));(try simp only [Act.put,zA,zB,zC,zD,zE,zF]);(try simp only [v1]);(try simp only [v2]))|((refine BH rfl ?_);(first|(refine Ar (f:=74) (args:=#[.agg #[.int .i64 y0,.int .i64 y1,.int .i64 y2,.int .i64 y3,.int .i64 y4,.int .i64 y5,.int .i64 y6,.int .i64 y7,.int .i64 y8,.bool y9,.int .i64 y10]]) (v:=.bool (decide (3≤y10))) ?_ ?_ ?_;(focus (intro W' hW;go_simp;done));(focus (intro W' hW;refine (Bt #[.int .i64 y0,.int .i64 y1,.int .i64 y2,.int .i64 y3,.int .i64 y4,.int .i64 y5,.int .i64 y6,.int .i64 y7,.int .i64 y8,.bool y9,.int .i64 y10] y10 W' rfl rfl).mono ?_;intro e w' hcc;obtain ⟨he,hxu⟩:=hcc;refine ⟨?_,hxu⟩;exact he;done))));(try simp only [Act.put,zA,zB,zC,zD,zE,zF]);(try simp only [v1]);(try simp only [v2]))|go_big_quiet_op);go_big_quiet_on))
        refine wpQuiet_nil ?_
        intro w3 hx3
        go_wp2_with (first|go_skip|go_guarded)
        go_roundw
        case rel=>exact ⟨t+1,HT.out,by go_num,aL,HLA.out,hs1.out,(hMr.e0 hx1).e0 hx3,(hPr.e0 hx1).e0 hx3,(hRr.e0 hx1).e0 hx3,(hsr.m0 hx1).m0 hx3⟩
        case measure=>have:=HT.out;simp [intOf];omega
       | false =>
        have hs1:=Lib.hid (show aL.set m ⟨y0,y1,y2,y3,y4,y5,y6,⟨y7,y8⟩,true,y10⟩=Fsm.stops c.pj s.allocs (c.stops.take (t+1)) by rw [HST.out];exact (HTS.out.trans (by show aL.set m (if (y1 == c.pj && !Bv _)=true then _ else _)=_;rw [if_pos (by rw [v1];simp [Bv];simpa using v2)])).symm)
        refine AY (by kernel_rfl) (by kernel_rfl) ?_
        repeat (first|go_big_quiet_skip|(go_big_quiet_want;(first|((refine Bw rfl ?_);(first|(refine Ah (p:=⟨b,5,none⟩) (v:=.slice (some ⟨g,0,none⟩) s.nA s.cA) ?_ ?_ ?_;(focus rfl);(focus (intro W' hW;have q:=hW.c0 m5;go_simp;done)))|(refine Ah (p:=⟨g,m*11+1,none⟩) (v:=.int .i64 y1) ?_ ?_ ?_;(focus rfl);(focus (intro W' hW;have q:=hW.c0 k1;go_simp;done)))|(refine Ah (p:=⟨P,0,none⟩) (v:=.int .i64 c.pj) ?_ ?_ ?_;(focus rfl);(focus (intro W' hW;have q:=hW.c0 p0;go_simp;done)))|(refine Ah (p:=⟨g,m*11,none⟩) (v:=.agg #[.int .i64 y0,.int .i64 y1,.int .i64 y2,.int .i64 y3,.int .i64 y4,.int .i64 y5,.int .i64 y6,.int .i64 y7,.int .i64 y8,.bool y9,.int .i64 y10]) ?_ ?_ ?_;(focus rfl);(focus (intro W' hW;exact run_load_struct (sz:=11) (b:=g) (off:=m*11) rfl Ba (by go_simp) (fun j u hu=>hW.c0 (hce1 j u hu)) rfl;done))));(try simp only [Act.put,zA,zB,zC,zD,zE,zF]);(try simp only [v1]);(try simp only [v2]))|((refine BH rfl ?_);(first|(refine Ar (f:=74) (args:=#[.agg #[.int .i64 y0,.int .i64 y1,.int .i64 y2,.int .i64 y3,.int .i64 y4,.int .i64 y5,.int .i64 y6,.int .i64 y7,.int .i64 y8,.bool y9,.int .i64 y10]]) (v:=.bool (decide (3≤y10))) ?_ ?_ ?_;(focus (intro W' hW;go_simp;done));(focus (intro W' hW;refine (Bt #[.int .i64 y0,.int .i64 y1,.int .i64 y2,.int .i64 y3,.int .i64 y4,.int .i64 y5,.int .i64 y6,.int .i64 y7,.int .i64 y8,.bool y9,.int .i64 y10] y10 W' rfl rfl).mono ?_;intro e w' hcc;obtain ⟨he,hxu⟩:=hcc;refine ⟨?_,hxu⟩;exact he;done))));(try simp only [Act.put,zA,zB,zC,zD,zE,zF]);(try simp only [v1]);(try simp only [v2]))|go_big_quiet_op);go_big_quiet_on))
        refine wpQuiet_nil ?_
        intro w3 hx3
        have hM3:=(hMr.e0 hx1).e0 hx3
        have hP3:=(hPr.e0 hx1).e0 hx3
        have hR3:=(hRr.e0 hx1).e0 hx3
        have hs3:=(hsr.m0 hx1).m0 hx3
        obtain ⟨g2,_,hAg2,hob2,hgb2,_,hce2,hput2⟩:=hM3.own.LB (show ({ s with allocs:=aL }:Aa).allocs[m]? = some ⟨y0,y1,y2,y3,y4,y5,y6,⟨y7,y8⟩,y9,y10⟩ from HY.out)
        have hgg:g=g2:=by have h7:s.AA=some ⟨g2,0,none⟩:=hAg2;rw [HAG.out] at h7;injection h7 with h7;injection h7
        subst hgg
        clear hAg2
        have hO5:Aw base (w3.setCell ⟨g,m*11+9,none⟩ (.bool true)) ({ s with allocs:=aL.set m ⟨y0,y1,y2,y3,y4,y5,y6,⟨y7,y8⟩,true,y10⟩ }:Aa):=hput2 9 (.bool true) ⟨y0,y1,y2,y3,y4,y5,y6,⟨y7,y8⟩,true,y10⟩ (by decide) rfl
        have hs5:Ext (fun q=>q=g) w3 (w3.setCell ⟨g,m*11+9,none⟩ (.bool true)):=Ext.set1 _ _ _ _
        have m5q:w3.cell? ⟨b,5,none⟩=some (.slice (some ⟨g,0,none⟩) s.nA s.cA):=hx3.c0 m5
        have k9q:w3.cell? ⟨g,m*11+9,none⟩=some (.bool y9):=hce2 9 _ rfl
        have f9q:w3.frozen? ⟨g,m*11+9,none⟩=false:=hgb2.frozen _
        have hM5:Az base (w3.setCell ⟨g,m*11+9,none⟩ (.bool true)) b ({ s with allocs:=aL.set m ⟨y0,y1,y2,y3,y4,y5,y6,⟨y7,y8⟩,true,y10⟩ }:Aa) cm:=⟨hM3.blk.ext hs5 (fun e=>Blk.ne hM3.blk hgb2 (by decide) e),hO5,hM3.lo⟩
        have hP5:=hP3.ext hs5 (fun e=>Blk.ne hP3 hgb2 (by decide) e)
        have hR5:=hR3.ext hs5 (fun e=>Blk.ne hR3 hgb2 (by decide) e)
        have hst5:Step w (w3.setCell ⟨g,m*11+9,none⟩ (.bool true)) b s ({ s with allocs:=aL.set m ⟨y0,y1,y2,y3,y4,y5,y6,⟨y7,y8⟩,true,y10⟩ }:Aa):=hs3.cell (s2:=({ s with allocs:=aL.set m ⟨y0,y1,y2,y3,y4,y5,y6,⟨y7,y8⟩,true,y10⟩ }:Aa)) (MW.oA (s:=({ s with allocs:=aL }:Aa)) hob2) (fun q hq=>hq) _
        clear m5 k1 hce1 p0 hce2 hput2
        go_wp2_with (first|go_skip|go_guarded)
        go_roundw
        case rel=>exact ⟨t+1,HT.out,by go_num,aL.set m ⟨y0,y1,y2,y3,y4,y5,y6,⟨y7,y8⟩,true,y10⟩,by rw [List.length_set];exact HLA.out,hs1.out,hM5,hP5,hR5,hst5⟩
        case measure=>have:=HT.out;simp [intOf];omega
     have hnl2:¬ ((t:Int) < c.sn):=by omega
     have HSTP:=Lib.hid (show Fsm.stops c.pj s.allocs c.stops=aL by rw [hstp0,List.take_of_length_le (by have:=hssl.out;omega)])
     have hal0:aL.length≤1048576:=by omega
     clear hstp0
     obtain ⟨wo,rfl⟩ : ∃ wo:World,wo=wr:=⟨_,rfl⟩
     have p4:wo.cell? ⟨P,4,none⟩=some (.slice c.PA c.pn c.pc):=hPr.cell 4
     have hco:=hc.keep (hsr.ext.mono (fun q _ e=>(hM.mw e).1))
     go_wp2
     clear p4
     go_loopw [11,139] (fun nv iv wr=>∃ t2:Nat,t2≤c.pn∧iv=.int .i64 t2∧∃ A ca,nv=.slice A t2 ca∧wr.ownsRow wo.heap.size 3 1 (.slice A t2 ca) t2 (((c.places.take t2).map Ac.node).flatMap BB)∧Ext Nothing wo wr) (fun _ iv _=>c.pn - (intOf iv).toNat)
     case atStart=>exact ⟨0,Nat.zero_le _,rfl,none,0,rfl,World.ownsRow_nil _ _ _ _,Ext.refl _ _⟩
     case round =>
      obtain ⟨t2,ht2,rfl,A,ca,rfl,hown,hx⟩:=hrel
      by_cases hlt2:t2 < c.pn
      ·obtain ⟨hjn,bp,off,hPe,hpce⟩:=hco.p.get hx hlt2
       have hnx:=Fsm.Jk c.places t2 hjn
       generalize c.places[t2]=x at hpce hnx
       obtain ⟨x0,x1,x2,x3,x4,x5,x6,⟨x7,x8⟩,x9,x10⟩:=x
       rw [hPe]
       have hce:∀ j u,(#[.int .i64 x0,.int .i64 x1,.int .i64 x2,.int .i64 x3,.int .i64 x4,.int .i64 x5,.int .i64 x6,.int .i64 x7,.int .i64 x8,.bool x9,.int .i64 x10]:Array Value).toList[j]? = some u→wr.cell? ⟨bp,off+t2*11+j,none⟩=some u:=hpce
       have hk0' : (0:Int)≤(t2:Int):=by omega
       have hk1' : (t2:Int) < c.pn:=by omega
       have HT:=Lib.hid hlt2
       have HNX:=Lib.hid hnx
       clear hPe hnx hpce hlt2
       have hxa:Ext Nothing wr (wr.alloc (.cells #[.int .i64 x0,.int .i64 x1,.int .i64 x2,.int .i64 x3,.int .i64 x4,.int .i64 x5,.int .i64 x6,.int .i64 x7,.int .i64 x8,.bool x9,.int .i64 x10] 55)):=Ext.Ay
       have hQ:Blk (wr.alloc (.cells #[.int .i64 x0,.int .i64 x1,.int .i64 x2,.int .i64 x3,.int .i64 x4,.int .i64 x5,.int .i64 x6,.int .i64 x7,.int .i64 x8,.bool x9,.int .i64 x10] 55)) wr.heap.size 55 #[.int .i64 x0,.int .i64 x1,.int .i64 x2,.int .i64 x3,.int .i64 x4,.int .i64 x5,.int .i64 x6,.int .i64 x7,.int .i64 x8,.bool x9,.int .i64 x10]:=Blk.new _ _ _
       have hownq:=Am hown hxa (fun _ _ e=>e)
       have hzq:wo.heap.size≤(wr.alloc (.cells #[.int .i64 x0,.int .i64 x1,.int .i64 x2,.int .i64 x3,.int .i64 x4,.int .i64 x5,.int .i64 x6,.int .i64 x7,.int .i64 x8,.bool x9,.int .i64 x10] 55)).heap.size:=(hx.tr hxa).size
       go_upto_region 16 with (first|go_skip|go_guarded|((with_reducible refine isW ?_);refine Ad rfl 55 _ rfl Ba bp (off+t2*11) rfl #[.int .i64 x0,.int .i64 x1,.int .i64 x2,.int .i64 x3,.int .i64 x4,.int .i64 x5,.int .i64 x6,.int .i64 x7,.int .i64 x8,.bool x9,.int .i64 x10] hce rfl ?_))
       generalize hQQ:wr.heap.size=Q at hQ ⊢
       clear hQQ
       generalize (wr.alloc (.cells #[.int .i64 x0,.int .i64 x1,.int .i64 x2,.int .i64 x3,.int .i64 x4,.int .i64 x5,.int .i64 x6,.int .i64 x7,.int .i64 x8,.bool x9,.int .i64 x10] 55))=wq at hQ hxa hownq hzq ⊢
       have q5:wq.cell? ⟨Q,5,none⟩=some (.int .i64 x5):=hQ.cell 5
       clear hce
       go_wp2_with (first|go_skip|go_guarded|((with_reducible refine Jh ?_);refine D7 rfl rfl 45 _ rfl _ _ rfl Rs #[.int .i64 x5] rfl rfl wo.heap.size (.slice A t2 ca) t2 (((c.places.take t2).map Ac.node).flatMap BB) rfl rfl hownq rfl (by omega) hzq ?_;intro A1 c1 wa owna hxp))
       go_roundw
       case rel=>exact ⟨t2+1,HT.out,by go_num,A1,c1,rfl,(by rw [HNX.out];exact owna),(hx.tr hxa).trans hxp (fun q hq e=>absurd (BM hownq e) (by omega))⟩
       case measure=>have:=HT.out;simp [intOf];omega
      have hnl3:¬ ((t2:Int) < c.pn):=by omega
      have hte:t2=c.pn:=by omega
      subst hte
      rw [List.take_of_length_le (show c.places.length≤c.pn by have:=hpsl.out;omega)] at hown
      have hpn2:c.pn≤67108864:=by omega
      go_wp2_with (first|go_skip|go_guarded|(go_at_call 77;(with_reducible refine (QZ wo.heap.size A c.pn ca (c.places.map Ac.node) wr hown hpn2).mono ?_);rintro e ws ⟨rfl,hos,hxs⟩)|(go_at_call 78;(with_reducible refine (Ph wo.heap.size A c.pn ca _ ws hos hpn2).mono ?_);rintro e wk ⟨rfl,hok,hxk⟩;(rw [Fsm.Kv] at hok ⊢)))
      have hxwk:Ext Nothing wo wk:=(hx.trans hxs (fun q hq e=>absurd (BM hown e) (by omega))).trans hxk (fun q hq e=>absurd (BM hown e) (by omega))
      generalize hns:Fsm.BK c.places=ns at hok ⊢
      have HNS:=Lib.hid hns
      have hnsl:ns.length≤c.pn:=by rw [← hns];have:=Fsm.EL c.places;have:=hpsl.out;omega
      clear hns
      have hSN:Sl wk 1 A ns.length (ns.map BB):=Sl.Bd (fun _=>rfl) hok rfl
      have hAb:∀ q,A.map (·.block)=some q→ns.map BB ≠ []→¬ MW ({ s with allocs:=aL }:Aa) b q:=fun q hq _ e=>by have h1:=hMr.FL e;have h2:=BM hok (show (Value.slice A ns.length ca).ownBlock=some q by cases A with|none=>simp at hq|some a=>simpa [Value.ownBlock] using hq);omega
      have hM2:=hMr.e0 hxwk
      have hP2:=hPr.e0 hxwk
      have hR2:=hRr.e0 hxwk
      have hs2:=hsr.m0 hxwk
      clear hMr hPr hRr hsr hco hown hos hok hxs hxk hx hxwk
      go_loopw [14,154] (fun av iv wr=>∃ k2:Nat,k2≤ns.length∧iv=.int .i64 k2∧∃ sV aB,av=.bool aB∧Az base wr b sV cm∧Hid ((ns.take k2).foldl (Fsm.CE ⟨j0,j1,j2,j3,jg,j5,j6⟩ c.places) (({ s with allocs:=aL }:Aa).data,true)=(sV.data,aB))∧Blk wr P 47 c.Kl∧Blk wr (C+1) 34 #[.int .i64 0,.int .i64 0,.slice none 0 0]∧Step w wr b s sV∧Step wk wr b ({ s with allocs:=aL }:Aa) sV) (fun _ iv _=>ns.length - (intOf iv).toNat)
      case atStart=>exact ⟨0,Nat.zero_le _,rfl,({ s with allocs:=aL }:Aa),true,rfl,hM2,Lib.hid rfl,hP2,hR2,hs2,Step.refl _ _ _⟩
      case round =>
       obtain ⟨k2,hk2,rfl,sV,aB,rfl,hMr,hfold,hPr,hRr,hsr,hsk⟩:=hrel
       clear hM2 hP2 hR2 hs2
       have HPK:=Lib.hid (show Fsm.D8 ({ s with allocs:=aL }:Aa).data sV.data from by have h9:=Fsm.LK ⟨j0,j1,j2,j3,jg,j5,j6⟩ c.places (ns.take k2) (({ s with allocs:=aL }:Aa).data,true);rw [hfold.out] at h9;exact h9)
       obtain ⟨wi,rfl⟩ : ∃ wi:World,wi=wr:=⟨_,rfl⟩
       by_cases hlt3:k2 < ns.length
       ·have hSNr:=hSN.step hsk hAb
        obtain ⟨hjn,bn,offn,hAe,hnce⟩:=hSNr.get (Ext.refl Nothing wi) hlt3
        have hft:=Fsm.NT ⟨j0,j1,j2,j3,jg,j5,j6⟩ c.places ns k2 hjn (({ s with allocs:=aL }:Aa).data,true)
        generalize ns[k2]=nd at hnce hft
        rw [hAe]
        have n0:wi.cell? ⟨bn,offn+k2,none⟩=some (.int .i64 nd):=by have:=hnce 0 _ rfl;simpa using this
        have hk0' : (0:Int)≤(k2:Int):=by omega
        have hk1' : (k2:Int) < ns.length:=by omega
        have HT3:=Lib.hid hlt3
        have HFT:=Lib.hid hft
        clear hft hAe hnce hSNr hlt3
        have p4:wi.cell? ⟨P,4,none⟩=some (.slice c.PA c.pn c.pc):=hPr.cell 4
        have hci:=hc.keep (hsr.ext.mono (fun q _ e=>(hM.mw e).1))
        go_wp2
        clear p4 n0
        go_loopw [17,161] (fun lv iv wr=>∃ t:Nat,t≤c.pn∧iv=.int .i64 t∧∃ LA lc l,lv=.slice LA l.length lc∧wr.ownsRow wi.heap.size 55 11 (.slice LA l.length lc) l.length (l.flatMap Ac.cells)∧Hid (l=(c.places.take t).filter (fun x=>x.node == nd))∧Ext Nothing wi wr) (fun _ iv _=>c.pn - (intOf iv).toNat)
        case atStart=>exact ⟨0,Nat.zero_le _,rfl,none,0,[],rfl,World.ownsRow_nil _ _ _ _,Lib.hid rfl,Ext.refl _ _⟩
        case round =>
         obtain ⟨t3,ht3,rfl,LA,lc,l,rfl,hown,hls,hx⟩:=hrel
         by_cases hlt4:t3 < c.pn
         ·obtain ⟨hjn,bp,off,hPe,hpce⟩:=hci.p.get hx hlt4
          have hnx:=Fsm.LD (fun x:Ac=>x.node == nd) c.places t3 hjn
          generalize c.places[t3]=x at hpce hnx
          obtain ⟨x0,x1,x2,x3,x4,x5,x6,⟨x7,x8⟩,x9,x10⟩:=x
          rw [hPe]
          have hce:∀ j u,(#[.int .i64 x0,.int .i64 x1,.int .i64 x2,.int .i64 x3,.int .i64 x4,.int .i64 x5,.int .i64 x6,.int .i64 x7,.int .i64 x8,.bool x9,.int .i64 x10]:Array Value).toList[j]? = some u→wr.cell? ⟨bp,off+t3*11+j,none⟩=some u:=hpce
          have hk0'' : (0:Int)≤(t3:Int):=by omega
          have hk1'' : (t3:Int) < c.pn:=by omega
          have HT:=Lib.hid hlt4
          have hll:l.length≤t3:=by rw [hls.out];exact Nat.le_trans (List.length_filter_le _ _) (by rw [List.length_take];omega)
          clear hPe hpce hlt4
          have hxa:Ext Nothing wr (wr.alloc (.cells #[.int .i64 x0,.int .i64 x1,.int .i64 x2,.int .i64 x3,.int .i64 x4,.int .i64 x5,.int .i64 x6,.int .i64 x7,.int .i64 x8,.bool x9,.int .i64 x10] 55)):=Ext.Ay
          have hQ:Blk (wr.alloc (.cells #[.int .i64 x0,.int .i64 x1,.int .i64 x2,.int .i64 x3,.int .i64 x4,.int .i64 x5,.int .i64 x6,.int .i64 x7,.int .i64 x8,.bool x9,.int .i64 x10] 55)) wr.heap.size 55 #[.int .i64 x0,.int .i64 x1,.int .i64 x2,.int .i64 x3,.int .i64 x4,.int .i64 x5,.int .i64 x6,.int .i64 x7,.int .i64 x8,.bool x9,.int .i64 x10]:=Blk.new _ _ _
          have hownq:=Am hown hxa (fun _ _ e=>e)
          have hzq:wi.heap.size≤(wr.alloc (.cells #[.int .i64 x0,.int .i64 x1,.int .i64 x2,.int .i64 x3,.int .i64 x4,.int .i64 x5,.int .i64 x6,.int .i64 x7,.int .i64 x8,.bool x9,.int .i64 x10] 55)).heap.size:=(hx.tr hxa).size
          go_upto_region 27 with (first|go_skip|go_guarded|((with_reducible refine isW ?_);refine Ad rfl 55 _ rfl Ba bp (off+t3*11) rfl #[.int .i64 x0,.int .i64 x1,.int .i64 x2,.int .i64 x3,.int .i64 x4,.int .i64 x5,.int .i64 x6,.int .i64 x7,.int .i64 x8,.bool x9,.int .i64 x10] hce rfl ?_))
          generalize hQQ:wr.heap.size=Q at hQ ⊢
          clear hQQ
          generalize (wr.alloc (.cells #[.int .i64 x0,.int .i64 x1,.int .i64 x2,.int .i64 x3,.int .i64 x4,.int .i64 x5,.int .i64 x6,.int .i64 x7,.int .i64 x8,.bool x9,.int .i64 x10] 55))=wq at hQ hxa hownq hzq ⊢
          have q5:wq.cell? ⟨Q,5,none⟩=some (.int .i64 x5):=hQ.cell 5
          clear hce
          cases e5:(x5 == nd) with
          | false =>
           have HL1:=Lib.hid (show l=(c.places.take (t3+1)).filter (fun x=>x.node == nd) by rw [hnx,← hls.out];simp [e5])
           clear hnx
           go_wp2_with (first|go_skip|go_guarded)
           go_roundw
           case rel=>exact ⟨t3+1,HT.out,by go_num,LA,lc,l,rfl,hownq,HL1,hx.tr hxa⟩
           case measure=>have:=HT.out;simp [intOf];omega
          | true =>
           have HL1:=Lib.hid (show l ++ [⟨x0,x1,x2,x3,x4,x5,x6,⟨x7,x8⟩,x9,x10⟩]=(c.places.take (t3+1)).filter (fun x=>x.node == nd) by rw [hnx,← hls.out];simp [e5])
           clear hnx
           go_wp2_with (first|go_skip|go_guarded|((with_reducible refine isW ?_);refine Ae rfl 55 _ rfl Ba Q rfl #[.int .i64 x0,.int .i64 x1,.int .i64 x2,.int .i64 x3,.int .i64 x4,.int .i64 x5,.int .i64 x6,.int .i64 x7,.int .i64 x8,.bool x9,.int .i64 x10] (show Blk _ _ 55 _ from hQ) rfl ?_)|((with_reducible refine Jh ?_);refine D7 rfl rfl 25 _ rfl _ _ rfl SRAlloc #[.int .i64 x0,.int .i64 x1,.int .i64 x2,.int .i64 x3,.int .i64 x4,.int .i64 x5,.int .i64 x6,.int .i64 x7,.int .i64 x8,.bool x9,.int .i64 x10] rfl rfl wi.heap.size (.slice LA l.length lc) l.length (l.flatMap Ac.cells) rfl rfl hownq rfl (by omega) hzq ?_;intro A1 c1 wa owna hxp))
           go_roundw
           case rel=>exact ⟨t3+1,HT.out,by go_num,A1,c1,l ++ [⟨x0,x1,x2,x3,x4,x5,x6,⟨x7,x8⟩,x9,x10⟩],by rw [List.length_append];rfl,(by have o:=CG (f:=Ac.cells) (x:=(⟨x0,x1,x2,x3,x4,x5,x6,⟨x7,x8⟩,x9,x10⟩ : Ac)) owna rfl rfl;simpa using o),HL1,(hx.tr hxa).trans hxp (fun q hq e=>absurd (BM hownq e) (by omega))⟩
           case measure=>have:=HT.out;simp [intOf];omega
         have hnl5:¬ ((t3:Int) < c.pn):=by omega
         have hll:=hls.out
         rw [List.take_of_length_le (show c.places.length≤t3 by have:=hpsl.out;omega)] at hll
         have HLL:=Lib.hid hll
         clear hls
         have hLs:Sl wr 11 LA l.length (l.map Ac.cells):=Sl.Bd (fun _=>rfl) hown rfl
         have hl9:l.length≤4194304:=by rw [hll];have:=List.length_filter_le (fun x:Ac=>x.node == nd) c.places;have:=hpsl.out;omega
         have hls2:∀ x∈l,(x.node == nd)=true:=fun x hx=>by rw [hll] at hx;exact (List.mem_filter.1 hx).2
         clear hll
         have hMw:=hMr.e0 hx
         have hPw:=hPr.e0 hx
         have hRw:=hRr.e0 hx
         have hsw:=hsr.m0 hx
         have hskw:=hsk.m0 hx
         have hbw:base≤wr.heap.size:=by have:=hsw.size;omega
         have hLn:∀ q,LA.map (·.block)=some q→l.map Ac.cells ≠ []→¬ MW sV b q:=fun q hq _ e=>by have h1:=hMr.FL e;have h2:=BM hown (show (Value.slice LA l.length lc).ownBlock=some q by cases LA with|none=>simp at hq|some a=>simpa [Value.ownBlock] using hq);omega
         obtain ⟨y,hyi,hy1⟩ : ∃ y:JobV,sV.jobs[i]? = some y∧y.1=⟨j0,j1,j2,j3,jg,j5,j6⟩:=by
          have h9:(sV.jobs.map (·.1))[i]? = some ⟨j0,j1,j2,j3,jg,j5,j6⟩:=by rw [show sV.jobs.map (·.1)=s.jobs.map (·.1) from HPK.out.jobs,List.getElem?_map,HXI.out];rfl
          rw [List.getElem?_map] at h9
          obtain ⟨y,h1,h2⟩:=Option.map_eq_some_iff.1 h9
          exact ⟨y,h1,h2⟩
         obtain ⟨yj,yv⟩:=y
         change yj=_ at hy1
         subst hy1
         obtain ⟨GA,gn,gc,hgv,hgo,hgl,hgn⟩:=hMw.own.j.grp _ (List.mem_of_getElem? hyi)
         change yv=_ at hgv
         subst hgv
         change gn=jg.length at hgl
         have hG:Sl wr 3 GA gn (jg.map Ao.cells):=Sl.Bd (fun _=>rfl) hgo hgl
         have hGn:∀ q,GA.map (·.block)=some q→jg.map Ao.cells ≠ []→¬ MW sV b q:=fun q hq _=>by obtain ⟨cs,hcs⟩:=CY hgo (show (Value.slice GA gn gc).ownBlock=some q by cases GA with|none=>simp at hq|some a=>simpa [Value.ownBlock] using hq);exact hMw.OC hcs
         obtain ⟨gJ2,_,hAJ2,_,hgbJ2,hi2,hceJ2,_⟩:=hMw.own.PO hyi
         have m2:wr.cell? ⟨b,2,none⟩=some (.slice (some ⟨gJ2,0,none⟩) sV.nJ sV.cJ):=by rw [← hAJ2];exact hMw.blk.cell 2
         have hceJ:∀ j u,(#[.int .i64 j0,.int .i64 j1,.int .i64 j2,.int .i64 j3,.slice GA gn gc,.int .i64 j5,.bool j6]:Array Value).toList[j]? = some u→wr.cell? ⟨gJ2,i*7+j,none⟩=some u:=hceJ2
         clear hceJ2 hAJ2 hgl
         have hcg:∀ g∈jg,0≤g.count∧g.count≤4:=(hw.jc ⟨j0,j1,j2,j3,jg,j5,j6⟩ (by show _∈s.jobs.map (·.1);exact List.mem_map.2 ⟨_,List.mem_of_getElem? HXI.out,rfl⟩)).2
         have hJ9:sV.jobs.length≤1048576:=by have h9:=congrArg List.length (show sV.jobs.map (·.1)=s.jobs.map (·.1) from HPK.out.jobs);simp only [List.length_map] at h9;omega
         have hN9:sV.nodes.length≤1048576:=by have h9:sV.nodes=s.nodes:=HPK.out.nodes;rw [h9];omega
         have hA9:sV.allocs.length≤4194304:=by have h9:sV.allocs.length≤aL.length ∨ sV.allocs.length≤64:=HPK.out.len;omega
         have hnP:¬ MW sV b P:=hMw.Cn hPw (by decide)
         have hnR9:¬ MW sV b (C+1):=hMw.Cn hRw (by decide)
         have HFO:∀ s5 r5,Fsm.places sV.data ⟨j0,j1,j2,j3,jg,j5,j6⟩ nd l=(s5,r5)→Hid ((ns.take (k2+1)).foldl (Fsm.CE ⟨j0,j1,j2,j3,jg,j5,j6⟩ c.places) (({ s with allocs:=aL }:Aa).data,true)=(s5,aB && r5)):=fun s5 r5 h9=>Lib.hid (by rw [HFT.out,hfold.out];unfold Fsm.CE;rw [← Fsm.Jn,← HLL.out,h9])
         cases aB with
         | false =>
          go_wp2_with (first|go_skip|go_guarded|((with_reducible refine isW ?_);refine Ad rfl 39 _ rfl STJob gJ2 (i*7) rfl #[.int .i64 j0,.int .i64 j1,.int .i64 j2,.int .i64 j3,.slice GA gn gc,.int .i64 j5,.bool j6] hceJ rfl ?_)|(go_at_call 79;(with_reducible refine (Oh base b sV cm j0 j1 j2 j3 jg j5 j6 GA gn gc nd LA l.length lc l wr hMw hbw hJ9 hN9 hA9 hl9 hG hGn hgn hcg hLs hLn hls2).mono ?_);rintro e w5 ⟨s5,r5,rfl,hM5,hD5,hst5⟩))
          have HF5:=HFO _ _ hD5
          go_roundw
          case rel=>exact ⟨k2+1,HT3.out,by go_num,s5,_,rfl,hM5,HF5,hPw.step hst5 hnP,hRw.step hst5 hnR9,hsw.trans hst5,hskw.trans hst5⟩
          case measure=>have:=HT3.out;simp [intOf];omega
         | true =>
          go_wp2_with (first|go_skip|go_guarded|((with_reducible refine isW ?_);refine Ad rfl 39 _ rfl STJob gJ2 (i*7) rfl #[.int .i64 j0,.int .i64 j1,.int .i64 j2,.int .i64 j3,.slice GA gn gc,.int .i64 j5,.bool j6] hceJ rfl ?_)|(go_at_call 79;(with_reducible refine (Oh base b sV cm j0 j1 j2 j3 jg j5 j6 GA gn gc nd LA l.length lc l wr hMw hbw hJ9 hN9 hA9 hl9 hG hGn hgn hcg hLs hLn hls2).mono ?_);rintro e w5 ⟨s5,r5,rfl,hM5,hD5,hst5⟩))
          have HF5:=HFO _ _ hD5
          go_roundw
          case rel=>exact ⟨k2+1,HT3.out,by go_num,s5,_,rfl,hM5,HF5,hPw.step hst5 hnP,hRw.step hst5 hnR9,hsw.trans hst5,hskw.trans hst5⟩
          case measure=>have:=HT3.out;simp [intOf];omega
       have hnl6:¬ ((k2:Int) < ns.length):=by omega
       have hfo:=hfold.out
       rw [List.take_of_length_le (show ns.length≤k2 by omega)] at hfo
       have HPL:=Lib.hid (Fsm.PQ HJA.out HEA.out HPG.out (z:=(sV.data,aB)) (by show (Fsm.BK c.places).foldl (Fsm.CE ⟨j0,j1,j2,j3,jg,j5,j6⟩ c.places) (({ s.data with allocs:=Fsm.stops c.pj s.allocs c.stops }:Ab),true)=_;rw [HSTP.out,HNS.out];exact hfo))
       clear hfo hfold
       obtain ⟨gE2,_,hAE2,hobE2,hgbE2,hkE2,hceE2,_⟩:=hMr.own.Ju (show sV.evals[k]? = some ⟨e0,e1,e2,e3⟩ by rw [show sV.evals=s.evals from HPK.out.evals];exact HEK.out)
       have HAE2:=Lib.hid (show sV.AE=some ⟨gE2,0,none⟩ from hAE2)
       have m6:wi.cell? ⟨b,6,none⟩=some (.slice (some ⟨gE2,0,none⟩) sV.nE sV.cE):=by rw [← hAE2];exact hMr.blk.cell 6
       have m9:wi.cell? ⟨b,9,none⟩=some (.int .i64 s.index):=by rw [show s.index=sV.index from HPK.out.index.symm];exact hMr.blk.cell 9
       clear hAE2
       have hxt:Ext Nothing wi (wi.alloc (.cells (Au 0 s.index) 34)):=Ext.Ay
       have hT:Blk (wi.alloc (.cells (Au 0 s.index) 34)) wi.heap.size 34 (Au 0 s.index):=Blk.new _ _ _
       have hMt:=hMr.e0 hxt
       have hPt:=hPr.e0 hxt
       have hRt:=hRr.e0 hxt
       have hst:=hsr.m0 hxt
       have hzt:=hsr.size
       have hRT:C+1 < wi.heap.size:=hRr.lt
       go_upto_region 34 with (first|go_skip|go_guarded)
       have m6:=hxt.c0 m6
       have hceE2:∀ j u,(EvalD.cells ⟨e0,e1,e2,e3⟩)[j]? = some u→(wi.alloc (.cells (Au 0 s.index) 34)).cell? ⟨gE2,k*4+j,none⟩=some u:=fun j u hu=>hxt.c0 (hceE2 j u hu)
       have hgbt:=hgbE2.e0 hxt
       clear m9 hxt hMr hPr hRr hsr hsk hgbE2
       generalize hTT:wi.heap.size=T at hT hzt hRT ⊢
       clear hTT
       generalize (wi.alloc (.cells (Au 0 s.index) 34))=wt at hT hMt hPt hRt hst m6 hceE2 hgbt ⊢
       have k2c:wt.cell? ⟨gE2,k*4+2,none⟩=some (.int .i64 e2):=hceE2 2 _ rfl
       have k3c:wt.cell? ⟨gE2,k*4+3,none⟩=some (.int .i64 e3):=hceE2 3 _ rfl
       have f2:wt.frozen? ⟨gE2,k*4+2,none⟩=false:=hgbt.frozen _
       have f3:wt.frozen? ⟨gE2,k*4+3,none⟩=false:=hgbt.frozen _
       have p5:wt.cell? ⟨P,5,none⟩=some (.bool c.blocked):=hPt.cell 5
       clear hceE2
       cases aB with
       | false =>
        have HPF:=Lib.hid (show Fsm.plan s.data c.d=(({ sV with evals:=sV.evals.set k ⟨e0,e1,e2,s.index⟩ }:Aa).data,⟨35,s.index,[]⟩) by rw [HPL.out];simp only [Bool.not_false,if_true];exact congrArg (fun ev=>(({ sV.data with evals:=ev }:Ab),(⟨35,s.index,[]⟩ : AQ))) (show Fsm.Ap (fun e:EvalD=>e.job == c.pj) (fun e=>{ e with index:=s.index }) sV.evals=sV.evals.set k ⟨e0,e1,e2,s.index⟩ from by rw [show sV.evals=s.evals from HPK.out.evals];exact Fsm.BF (f:=fun e:EvalD=>{ e with index:=s.index }) HEK.out HKP.out HKF.out))
        obtain ⟨gE3,_,hAE3,_,_,_,_,hput3⟩:=hMt.own.Ju (show sV.evals[k]? = some ⟨e0,e1,e2,e3⟩ by rw [show sV.evals=s.evals from HPK.out.evals];exact HEK.out)
        have hgg:gE2=gE3:=by have h7:sV.AE=some ⟨gE3,0,none⟩:=hAE3;rw [HAE2.out] at h7;injection h7 with h7;injection h7
        subst hgg
        clear hAE3
        have hs6:Ext (fun q=>q=gE2) wt (wt.setCell ⟨gE2,k*4+3,none⟩ (.int .i64 s.index)):=Ext.set1 _ _ _ _
        have hO6:Aw base (wt.setCell ⟨gE2,k*4+3,none⟩ (.int .i64 s.index)) ({ sV with evals:=sV.evals.set k ⟨e0,e1,e2,s.index⟩ }:Aa):=hput3 3 (.int .i64 s.index) ⟨e0,e1,e2,s.index⟩ (by decide) rfl
        have hM6:Az base (wt.setCell ⟨gE2,k*4+3,none⟩ (.int .i64 s.index)) b ({ sV with evals:=sV.evals.set k ⟨e0,e1,e2,s.index⟩ }:Aa) cm:=⟨hMt.blk.ext hs6 (fun e=>Blk.ne hMt.blk hgbt (by decide) e),hO6,hMt.lo⟩
        have hT6:=hT.ext hs6 (fun e=>Blk.ne hT hgbt (by decide) e)
        have hR6:=hRt.ext hs6 (fun e=>Blk.ne hRt hgbt (by decide) e)
        have hst6:Step w (wt.setCell ⟨gE2,k*4+3,none⟩ (.int .i64 s.index)) b s ({ sV with evals:=sV.evals.set k ⟨e0,e1,e2,s.index⟩ }:Aa):=hst.cell (s2:=({ sV with evals:=sV.evals.set k ⟨e0,e1,e2,s.index⟩ }:Aa)) (MW.oE (s:=sV) hobE2) (fun q hq=>hq) _
        have m9:wt.cell? ⟨b,9,none⟩=some (.int .i64 s.index):=by rw [show s.index=sV.index from HPK.out.index.symm];exact hMt.blk.cell 9
        go_upto_region 38 with (first|go_skip|go_guarded)
        clear m6 k2c k3c f2 f3 p5 m9 hput3 hs6 hO6
        generalize (wt.setCell ⟨gE2,k*4+3,none⟩ (.int .i64 s.index))=w6 at hM6 hT6 hR6 hst6 ⊢
        have t0:w6.cell? ⟨T,0,none⟩=some (.int .i64 0):=hT6.cell 0
        have t0f:w6.frozen? ⟨T,0,none⟩=false:=hT6.frozen 0
        have hs7:Ext (fun q=>q=T) w6 (w6.setCell ⟨T,0,none⟩ (.int .i64 35)):=Ext.set1 _ _ _ _
        have hT7:Blk (w6.setCell ⟨T,0,none⟩ (.int .i64 35)) T 34 (Au 35 s.index):=hT6.Bi 0 _
        have hM7:=hM6.keep hs7 (fun e=>Blk.ne hM6.blk hT6 (by decide) e) (Apart.one hT6 (by decide))
        have hR7:=hR6.ext hs7 (fun e=>absurd (show C+1=T from e) (by omega))
        have hst7:=hst6.fresh hs7 (fun q e=>by have:q=T:=e;omega)
        go_upto_region 41 with (first|go_skip|go_guarded)
        clear t0 t0f hs7 hM6 hT6 hR6 hst6
        generalize (w6.setCell ⟨T,0,none⟩ (.int .i64 35))=w7 at hM7 hT7 hR7 hst7 ⊢
        go_wp2_with (first|go_skip|go_guarded|((with_reducible refine isW ?_);refine Ae rfl 34 _ rfl STResult T rfl (Au 35 s.index) (show Blk _ _ 34 _ from hT7) rfl ?_)|((with_reducible refine isW ?_);refine Af rfl 34 _ _ rfl STResult (C+1) rfl (Au 35 s.index) rfl hR7 rfl rfl rfl ?_;intro w9 hR9 hx9))
        exact bodyPost_ret (results_cell rfl STResult (g:=C+1) rfl hR9 rfl) rfl ⟨({ sV with evals:=sV.evals.set k ⟨e0,e1,e2,s.index⟩ }:Aa),⟨35,s.index,[]⟩,rfl,hM7.keep hx9 (fun e=>Blk.ne hM7.blk hR7 (by decide) e) (Apart.one hR7 (by decide)),HPF.out,rfl,hst7.fresh hx9 (fun q e=>by have:=HC.out;have:q=C+1:=e;omega)⟩
       | true =>
        cases hbl:c.blocked with
        | false =>
         have HPF:=Lib.hid (show Fsm.plan s.data c.d=(({ sV with evals:=sV.evals.set k ⟨e0,e1,3,e3⟩ }:Aa).data,⟨0,s.index,[]⟩) by rw [HPL.out];simp only [Bool.not_true,Bool.false_eq_true,if_false];rw [show c.d.plan.blocked=false from hbl];exact congrArg (fun ev=>(({ sV.data with evals:=ev }:Ab),(⟨0,s.index,[]⟩ : AQ))) (show Fsm.Ap (fun e:EvalD=>e.job == c.pj) (fun e=>{ e with state:=3 }) sV.evals=sV.evals.set k ⟨e0,e1,3,e3⟩ from by rw [show sV.evals=s.evals from HPK.out.evals];exact Fsm.BF (f:=fun e:EvalD=>{ e with state:=3 }) HEK.out HKP.out HKF.out))
         rw [hbl] at p5
         clear hbl
         obtain ⟨gE3,_,hAE3,_,_,_,_,hput3⟩:=hMt.own.Ju (show sV.evals[k]? = some ⟨e0,e1,e2,e3⟩ by rw [show sV.evals=s.evals from HPK.out.evals];exact HEK.out)
         have hgg:gE2=gE3:=by have h7:sV.AE=some ⟨gE3,0,none⟩:=hAE3;rw [HAE2.out] at h7;injection h7 with h7;injection h7
         subst hgg
         clear hAE3
         have hs6:Ext (fun q=>q=gE2) wt (wt.setCell ⟨gE2,k*4+2,none⟩ (.int .i64 3)):=Ext.set1 _ _ _ _
         have hO6:Aw base (wt.setCell ⟨gE2,k*4+2,none⟩ (.int .i64 3)) ({ sV with evals:=sV.evals.set k ⟨e0,e1,3,e3⟩ }:Aa):=hput3 2 (.int .i64 3) ⟨e0,e1,3,e3⟩ (by decide) rfl
         have hM6:Az base (wt.setCell ⟨gE2,k*4+2,none⟩ (.int .i64 3)) b ({ sV with evals:=sV.evals.set k ⟨e0,e1,3,e3⟩ }:Aa) cm:=⟨hMt.blk.ext hs6 (fun e=>Blk.ne hMt.blk hgbt (by decide) e),hO6,hMt.lo⟩
         have hT6:=hT.ext hs6 (fun e=>Blk.ne hT hgbt (by decide) e)
         have hR6:=hRt.ext hs6 (fun e=>Blk.ne hRt hgbt (by decide) e)
         have hst6:Step w (wt.setCell ⟨gE2,k*4+2,none⟩ (.int .i64 3)) b s ({ sV with evals:=sV.evals.set k ⟨e0,e1,3,e3⟩ }:Aa):=hst.cell (s2:=({ sV with evals:=sV.evals.set k ⟨e0,e1,3,e3⟩ }:Aa)) (MW.oE (s:=sV) hobE2) (fun q hq=>hq) _
         go_upto_region 41 with (first|go_skip|go_guarded)
         clear m6 k2c k3c f2 f3 p5 hput3 hs6 hO6
         generalize (wt.setCell ⟨gE2,k*4+2,none⟩ (.int .i64 3))=w6 at hM6 hT6 hR6 hst6 ⊢
         go_wp2_with (first|go_skip|go_guarded|((with_reducible refine isW ?_);refine Ae rfl 34 _ rfl STResult T rfl (Au 0 s.index) (show Blk _ _ 34 _ from hT6) rfl ?_)|((with_reducible refine isW ?_);refine Af rfl 34 _ _ rfl STResult (C+1) rfl (Au 0 s.index) rfl hR6 rfl rfl rfl ?_;intro w9 hR9 hx9))
         exact bodyPost_ret (results_cell rfl STResult (g:=C+1) rfl hR9 rfl) rfl ⟨({ sV with evals:=sV.evals.set k ⟨e0,e1,3,e3⟩ }:Aa),⟨0,s.index,[]⟩,rfl,hM6.keep hx9 (fun e=>Blk.ne hM6.blk hR6 (by decide) e) (Apart.one hR6 (by decide)),HPF.out,rfl,hst6.fresh hx9 (fun q e=>by have:=HC.out;have:q=C+1:=e;omega)⟩
        | true =>
         have HPF:=Lib.hid (show Fsm.plan s.data c.d=(({ sV with evals:=sV.evals.set k ⟨e0,e1,2,e3⟩ }:Aa).data,⟨0,s.index,[]⟩) by rw [HPL.out];simp only [Bool.not_true,Bool.false_eq_true,if_false];rw [show c.d.plan.blocked=true from hbl];exact congrArg (fun ev=>(({ sV.data with evals:=ev }:Ab),(⟨0,s.index,[]⟩ : AQ))) (show Fsm.Ap (fun e:EvalD=>e.job == c.pj) (fun e=>{ e with state:=2 }) sV.evals=sV.evals.set k ⟨e0,e1,2,e3⟩ from by rw [show sV.evals=s.evals from HPK.out.evals];exact Fsm.BF (f:=fun e:EvalD=>{ e with state:=2 }) HEK.out HKP.out HKF.out))
         rw [hbl] at p5
         clear hbl
         obtain ⟨gE3,_,hAE3,_,_,_,_,hput3⟩:=hMt.own.Ju (show sV.evals[k]? = some ⟨e0,e1,e2,e3⟩ by rw [show sV.evals=s.evals from HPK.out.evals];exact HEK.out)
         have hgg:gE2=gE3:=by have h7:sV.AE=some ⟨gE3,0,none⟩:=hAE3;rw [HAE2.out] at h7;injection h7 with h7;injection h7
         subst hgg
         clear hAE3
         have hs6:Ext (fun q=>q=gE2) wt (wt.setCell ⟨gE2,k*4+2,none⟩ (.int .i64 2)):=Ext.set1 _ _ _ _
         have hO6:Aw base (wt.setCell ⟨gE2,k*4+2,none⟩ (.int .i64 2)) ({ sV with evals:=sV.evals.set k ⟨e0,e1,2,e3⟩ }:Aa):=hput3 2 (.int .i64 2) ⟨e0,e1,2,e3⟩ (by decide) rfl
         have hM6:Az base (wt.setCell ⟨gE2,k*4+2,none⟩ (.int .i64 2)) b ({ sV with evals:=sV.evals.set k ⟨e0,e1,2,e3⟩ }:Aa) cm:=⟨hMt.blk.ext hs6 (fun e=>Blk.ne hMt.blk hgbt (by decide) e),hO6,hMt.lo⟩
         have hT6:=hT.ext hs6 (fun e=>Blk.ne hT hgbt (by decide) e)
         have hR6:=hRt.ext hs6 (fun e=>Blk.ne hRt hgbt (by decide) e)
         have hst6:Step w (wt.setCell ⟨gE2,k*4+2,none⟩ (.int .i64 2)) b s ({ sV with evals:=sV.evals.set k ⟨e0,e1,2,e3⟩ }:Aa):=hst.cell (s2:=({ sV with evals:=sV.evals.set k ⟨e0,e1,2,e3⟩ }:Aa)) (MW.oE (s:=sV) hobE2) (fun q hq=>hq) _
         go_upto_region 41 with (first|go_skip|go_guarded)
         clear m6 k2c k3c f2 f3 p5 hput3 hs6 hO6
         generalize (wt.setCell ⟨gE2,k*4+2,none⟩ (.int .i64 2))=w6 at hM6 hT6 hR6 hst6 ⊢
         go_wp2_with (first|go_skip|go_guarded|((with_reducible refine isW ?_);refine Ae rfl 34 _ rfl STResult T rfl (Au 0 s.index) (show Blk _ _ 34 _ from hT6) rfl ?_)|((with_reducible refine isW ?_);refine Af rfl 34 _ _ rfl STResult (C+1) rfl (Au 0 s.index) rfl hR6 rfl rfl rfl ?_;intro w9 hR9 hx9))
         exact bodyPost_ret (results_cell rfl STResult (g:=C+1) rfl hR9 rfl) rfl ⟨({ sV with evals:=sV.evals.set k ⟨e0,e1,2,e3⟩ }:Aa),⟨0,s.index,[]⟩,rfl,hM6.keep hx9 (fun e=>Blk.ne hM6.blk hR6 (by decide) e) (Apart.one hR6 (by decide)),HPF.out,rfl,hst6.fresh hx9 (fun q e=>by have:=HC.out;have:q=C+1:=e;omega)⟩
end Go.Proofs.YtccekmeifanipaaGreat
