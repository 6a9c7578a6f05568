/- Parts of the proof: MBegin MSubmit -/
import Derived.Test.YtccekmeifanipaaGreatT20
import Derived.Test.YtccekmeifanipaaGreatT16
import Derived.Test.YtccekmeifanipaaGreatT12
namespace Go.Proofs.YtccekmeifanipaaGreat
set_option linter.unusedVariables false
set_option linter.unusedSimpArgs false
set_option linter.unusedSectionVars false
section
open Go.RowKit
set_option maxRecDepth 20000 in
set_option maxHeartbeats 8000000 in
theorem QU (base b:Nat) (s:Aa) (cm:Bool) (x0 x1 x2 x3:Int) (xg:List Ao) (x5:Int) (x6:Bool) (GA:Option Addr) (gn gc:Nat) (w:World) (hM:Az base w b s cm) (hb:base≤w.heap.size) (hG:Sl w 3 GA gn (xg.map Ao.cells)) (hgn:gn≤1048576) (hc:Fsm.cnt ⟨x0,x1,x2,x3,xg,x5,x6⟩)
  (hJ:s.jobs.length≤1048575) (hA:s.allocs.length≤1048576) (hDl:s.deploys.length≤1048575) (hSt:s.stable.length≤33554432) (hE:s.evals.length≤33554432) (hw:Fsm.Wf s.data) :
  Calls Tryz.prog 62 #[.pointer (some ⟨b,0,none⟩),.agg #[.int .i64 x0,.int .i64 x1,.int .i64 x2,.int .i64 x3,.slice GA gn gc,.int .i64 x5,.bool x6]] w fun e w'=>∃ s',e=.returned (.tuple #[])∧Az base w' b s' cm∧s'.data=Fsm.begins s.data ⟨x0,x1,x2,x3,xg,x5,x6⟩∧Step w w' b s s':=by
 have hxa:Ext Nothing w (w.alloc (.cells #[.int .i64 x0,.int .i64 x1,.int .i64 x2,.int .i64 x3,.slice GA gn gc,.int .i64 x5,.bool x6] 39)):=Ext.Ay
 have hBx:Blk (w.alloc (.cells #[.int .i64 x0,.int .i64 x1,.int .i64 x2,.int .i64 x3,.slice GA gn gc,.int .i64 x5,.bool x6] 39)) w.heap.size 39 #[.int .i64 x0,.int .i64 x1,.int .i64 x2,.int .i64 x3,.slice GA gn gc,.int .i64 x5,.bool x6]:=Blk.new _ _ _
 have hxaz:=hxa.size
 have hnq:¬ MW s b w.heap.size:=fun e=>by have:=hM.FL e;omega
 have hbl:=hM.blk.lt
 have hln:=Lib.hid hM.own.jl
 go_enter Tryz.func62,Tryz.ntmps62
 go_upto_region 1 with (first|go_skip|go_guarded)
 generalize hQ:w.heap.size=QQ at hBx hxaz hnq hbl ⊢
 have HQQ:=Lib.hid hQ
 clear hQ
 generalize (w.alloc (.cells #[.int .i64 x0,.int .i64 x1,.int .i64 x2,.int .i64 x3,.slice GA gn gc,.int .i64 x5,.bool x6] 39))=w5 at hxa hBx hxaz ⊢
 have k4:w5.cell? ⟨QQ,4,none⟩=some (.slice GA gn gc):=hBx.cell 4
 have hgsx:=hG.Al hxa
 have hgn2:gn≤67108864:=by omega
 go_upto_region 2 with (first|go_skip|go_guarded|(go_at_call 84;(with_reducible refine (FM GA gn gc xg w5 hgsx hgn2).mono ?_);rintro e w6 ⟨v',rfl,hog,hx6⟩;obtain ⟨GA2,gc2,rfl⟩:=Bn hog;have hBx6:=hBx.e0 hx6;have k4:w6.cell? ⟨QQ,4,none⟩=some (.slice GA gn gc):=hBx6.cell 4;have k4f:w6.frozen? ⟨QQ,4,none⟩=false:=hBx6.frozen 4))
 have hx7:Ext Nothing w (w6.setCell ⟨QQ,4,none⟩ (.slice GA2 xg.length gc2)):=(hxa.tr hx6).setCell (p:=⟨QQ,4,none⟩) (.inl (by have:=HQQ.out;show w.heap.size≤QQ;omega)) _
 have hs7:Ext (fun q=>q=QQ) w6 (w6.setCell ⟨QQ,4,none⟩ (.slice GA2 xg.length gc2)):=Ext.set1 _ _ _ _
 have hBx7:Blk (w6.setCell ⟨QQ,4,none⟩ (.slice GA2 xg.length gc2)) QQ 39 #[.int .i64 x0,.int .i64 x1,.int .i64 x2,.int .i64 x3,.slice GA2 xg.length gc2,.int .i64 x5,.bool x6]:=hBx6.Bi 4 _
 have hM7:=hM.e0 hx7
 have hog7:=Am hog hs7 (fun g hg e=>own_ne hog hBx6 (by decide) (by rw [← show g=QQ from e];exact hg))
 have hz7:=hx7.size
 have hgl:=Lib.hid hG.len
 generalize (w6.setCell ⟨QQ,4,none⟩ (.slice GA2 xg.length gc2))=w7 at hx7 hBx7 hM7 hog7 hz7 ⊢
 clear hs7 hBx hBx6 hog k4 k4f hx6 hgsx
 have hoe:w7.ownsRow base 39 7 (.slice s.AJ s.jobs.length s.cJ) s.jobs.length (s.jobs.flatMap JobV.cells):=by have h9:=hM7.own.j.own;rw [hln.out] at h9;exact h9
 have hd:Ext Nothing w7 w7.drew:=(Ext.refl _ _).drew
 refine zS (S:=fun W'=>Ext (fun q=>q=b ∨ (Value.slice s.AJ s.jobs.length s.cJ).ownBlock=some q) w7 W') (by kernel_rfl) ?_
 have hS:=hd.any (S:=fun q=>q=b ∨ (Value.slice s.AJ s.jobs.length s.cJ).ownBlock=some q)
 generalize w7.drew=W at hd hS ⊢
 have hMW:=hM7.e0 hd
 have hoW:=Am hoe hd (fun _ _ e=>e)
 have hdw:=hd.size
 refine zV 0 (.pointer (some ⟨b,0,none⟩)) rfl (by kernel_rfl) hS (fun _ _ _ h=>h) (fun W' hS'=>by go_simp) ?_
 refine zV 1 (.pointer (some ⟨b,0,none⟩)) rfl (by kernel_rfl) hS (fun _ _ _ h=>h) (fun W' hS'=>by go_simp) ?_
 refine zV 2 (.pointer (some ⟨b,0,none⟩)) rfl (by kernel_rfl) hS (fun _ _ _ h=>h) (fun W' hS'=>by go_simp) ?_
 refine zV 3 (.pointer (some ⟨b,0,none⟩)) rfl (by kernel_rfl) hS (fun _ _ _ h=>h) (fun W' hS'=>by go_simp) ?_
 refine zV 4 (.pointer (some ⟨b,2,none⟩)) rfl (by kernel_rfl) hS (fun _ _ _ h=>h) (fun W' hS'=>by go_simp) ?_
 refine zV 6 (.agg #[.int .i64 x0,.int .i64 x1,.int .i64 x2,.int .i64 x3,.slice GA2 xg.length gc2,.int .i64 x5,.bool x6]) rfl (by kernel_rfl) hS (fun _ _ _ h=>h) (fun W' hS'=>by exact AB rfl STJob (by go_simp) (hBx7.ext hS' (fun e=>e.elim (fun e=>hnq (.inl e)) (fun e=>hnq (MW.oJ e)))) rfl) ?_
 (try simp only [Act.put,zA,zB,zC,zD,zE,zF])
 refine zO 5 (by kernel_rfl) ?_
 refine wpOp_val (v:=.slice s.AJ s.jobs.length s.cJ) (w':=W) rfl (by rfl) (by rw [← hln.out];have q6:=hMW.blk.cell 2;go_simp) ⟨hS,?_⟩
 (try simp only [Act.put,zA,zB,zC,zD,zE,zF])
 refine zO 7 (by kernel_rfl) ?_
 refine Ai (f:=89) (args:=#[.slice s.AJ s.jobs.length s.cJ,.agg #[.int .i64 x0,.int .i64 x1,.int .i64 x2,.int .i64 x3,.slice GA2 xg.length gc2,.int .i64 x5,.bool x6],.func (.func 90) #[] #[]]) rfl (by rfl) (by go_simp) ((Qx base s.AJ s.cJ s.jobs ((⟨x0,x1,x2,x3,xg,x5,x6⟩,.slice GA2 xg.length gc2):JobV) (fun z hz=>(List.mem_cons.1 hz).elim (fun e=>by rw [e];rfl) (fun hz=>by obtain ⟨_,_,_,hv,_⟩:=hMW.own.j.grp z hz;rw [hv];rfl)) W hoW (by omega) (by omega) (OE hw.j)).mono ?_)
 rintro e w3 ⟨A',c',rfl,ho3,hq3,hx3⟩
 have hog3:=Am (Am hog7 hd (fun _ _ e=>e)) hx3 (fun g hg e=>by obtain ⟨csg,hBg⟩:=CY (Am hog7 hd (fun _ _ e=>e)) hg;exact own_ne hoW hBg (by decide) e)
 have hgrp:∀ y∈(Fsm.Ak (fun y:JobV=>y.1.id) ((⟨x0,x1,x2,x3,xg,x5,x6⟩,.slice GA2 xg.length gc2):JobV) s.jobs),Cq base w3 y:=Fsm.DK (P:=Cq base w3) (fun y hy=>(hMW.own.j.grp y hy).keep hx3 (Apart.row hoW (by decide))) (Cq.new (j:=(⟨x0,x1,x2,x3,xg,x5,x6⟩ : Aq)) hog3 rfl (by have:=hgl.out;omega) (by have:=HQQ.out;omega))
 have hnb:¬ ((Value.slice s.AJ s.jobs.length s.cJ).ownBlock=some b):=fun e=>own_ne hoW hMW.blk (by decide) e
 have hS3:=hS.trans hx3 (fun q hq e=>.inr e)
 refine ⟨_,rfl,hS3,?_⟩
 (try simp only [Act.put,zA,zB,zC,zD,zE,zF])
 refine zV 8 (.pointer (some ⟨b,0,none⟩)) rfl (by kernel_rfl) hS3 (fun _ _ _ h=>h) (fun W' hS'=>by go_simp) ?_
 refine zV 9 (.pointer (some ⟨b,0,none⟩)) rfl (by kernel_rfl) hS3 (fun _ _ _ h=>h) (fun W' hS'=>by go_simp) ?_
 refine zV 10 (.pointer (some ⟨b,2,none⟩)) rfl (by kernel_rfl) hS3 (fun _ _ _ h=>h) (fun W' hS'=>by go_simp) ?_
 (try simp only [Act.put,zA,zB,zC,zD,zE,zF])
 refine zO 11 (by kernel_rfl) ?_
 have hB3:=hMW.blk.ext hx3 hnb
 have m6:w3.cell? ⟨b,2,none⟩=some (.slice s.AJ s.nJ s.cJ):=hB3.cell 2
 have m6f:w3.frozen? ⟨b,2,none⟩=false:=hB3.frozen 2
 have hs6:Ext (fun q=>q=b) w3 (w3.setCell ⟨b,2,none⟩ (.slice A' ((Fsm.Ak (fun y:JobV=>y.1.id) ((⟨x0,x1,x2,x3,xg,x5,x6⟩,.slice GA2 xg.length gc2):JobV) s.jobs)).length c')):=Ext.set1 _ _ _ _
 refine AC (w':=w3.setCell ⟨b,2,none⟩ (.slice A' ((Fsm.Ak (fun y:JobV=>y.1.id) ((⟨x0,x1,x2,x3,xg,x5,x6⟩,.slice GA2 xg.length gc2):JobV) s.jobs)).length c')) rfl (by rfl) (by go_simp) ⟨hS3.trans hs6 (fun q hq e=>.inl e),?_⟩
 (try simp only [Act.put,zA,zB,zC,zD,zE,zF])
 refine wpAnyH_done (by kernel_rfl) ?_ _
 (try simp only [Act.put,zA,zB,zC,zD,zE,zF])
 have hO3:Aw base w3 (s.Cz A' c' (Fsm.Ak (fun y:JobV=>y.1.id) ((⟨x0,x1,x2,x3,xg,x5,x6⟩,.slice GA2 xg.length gc2):JobV) s.jobs)):=hMW.own.pJ hx3 ho3 hq3 hgrp
 have hM5:Az base (w3.setCell ⟨b,2,none⟩ (.slice A' ((Fsm.Ak (fun y:JobV=>y.1.id) ((⟨x0,x1,x2,x3,xg,x5,x6⟩,.slice GA2 xg.length gc2):JobV) s.jobs)).length c')) b (s.Cz A' c' (Fsm.Ak (fun y:JobV=>y.1.id) ((⟨x0,x1,x2,x3,xg,x5,x6⟩,.slice GA2 xg.length gc2):JobV) s.jobs)) cm:=⟨hB3.Bi 2 _,hO3.keep hs6 (Apart.one hB3 (by decide)),hMW.lo⟩
 have hx5:Step w7 (w3.setCell ⟨b,2,none⟩ (.slice A' ((Fsm.Ak (fun y:JobV=>y.1.id) ((⟨x0,x1,x2,x3,xg,x5,x6⟩,.slice GA2 xg.length gc2):JobV) s.jobs)).length c')) b s (s.Cz A' c' (Fsm.Ak (fun y:JobV=>y.1.id) ((⟨x0,x1,x2,x3,xg,x5,x6⟩,.slice GA2 xg.length gc2):JobV) s.jobs)):=((Step.of0 hd).put hx3 (fun q hq=>MW.oJ (s:=s) hq) (MW.Cz (s:=s) hq3)).cell (.inl rfl) (fun q hq=>hq) _
 have hBx9:=(((hBx7.e0 hd).ext hx3 (fun e=>hnq (MW.oJ e))).ext hs6 (fun e=>hnq (.inl e)))
 clear hO3 hs6 m6 m6f hB3 hS3 hS
 generalize (w3.setCell ⟨b,2,none⟩ (.slice A' ((Fsm.Ak (fun y:JobV=>y.1.id) ((⟨x0,x1,x2,x3,xg,x5,x6⟩,.slice GA2 xg.length gc2):JobV) s.jobs)).length c'))=w5 at hM5 hx5 hBx9 ⊢
 have hQ7:QQ < w7.heap.size:=hBx7.lt
 have hnq5:=hx5.not hnq hQ7
 have hz5:=hx5.size
 have hdat:(s.Cz A' c' (Fsm.Ak (fun y:JobV=>y.1.id) ((⟨x0,x1,x2,x3,xg,x5,x6⟩,.slice GA2 xg.length gc2):JobV) s.jobs)).data=({ s.data with jobs:=Fsm.Ak Aq.id (⟨x0,x1,x2,x3,xg,x5,x6⟩ : Aq) s.data.jobs }:Ab):=congrArg (fun z=>({ s.data with jobs:=z }:Ab)) (Jb ((⟨x0,x1,x2,x3,xg,x5,x6⟩,.slice GA2 xg.length gc2):JobV) s.jobs)
 have hW5:Fsm.Wf (s.Cz A' c' (Fsm.Ak (fun y:JobV=>y.1.id) ((⟨x0,x1,x2,x3,xg,x5,x6⟩,.slice GA2 xg.length gc2):JobV) s.jobs)).data:=by rw [hdat];exact Fsm.Kc hw hc
 have HDAT:=Lib.hid hdat
 clear hdat
 have hlen:(Fsm.Ak (fun y:JobV=>y.1.id) ((⟨x0,x1,x2,x3,xg,x5,x6⟩,.slice GA2 xg.length gc2):JobV) s.jobs).length≤s.jobs.length+1:=Fsm.Cr _
 have hq1:(s.Cz A' c' (Fsm.Ak (fun y:JobV=>y.1.id) ((⟨x0,x1,x2,x3,xg,x5,x6⟩,.slice GA2 xg.length gc2):JobV) s.jobs)).jobs.length≤1048576:=by show (Fsm.Ak (fun y:JobV=>y.1.id) ((⟨x0,x1,x2,x3,xg,x5,x6⟩,.slice GA2 xg.length gc2):JobV) s.jobs).length≤_;omega
 have hst:=(Step.of0 hx7 (b:=b) (s:=s)).trans hx5
 clear hBx7 hM7 hog7 hMW hoW hd hdw hx3 ho3 hq3 hgrp hog3 hnb hoe
 have k1:w5.cell? ⟨QQ,1,none⟩=some (.int .i64 x1):=hBx9.cell 1
 have k0:w5.cell? ⟨QQ,0,none⟩=some (.int .i64 x0):=hBx9.cell 0
 have k5:w5.cell? ⟨QQ,5,none⟩=some (.int .i64 x5):=hBx9.cell 5
 cases e1:(x1 == 1) with
 | true =>
  have m9:w5.cell? ⟨b,9,none⟩=some (.int .i64 s.index):=hM5.blk.cell 9
  go_upto_region 4 with (first|go_skip|go_guarded)
  go_still_tail 10,(by kernel_rfl)
  have hdz:Ext Nothing w5 w5.drew:=(Ext.refl _ _).drew
  change wpList _ _ _ _ _ w5.drew
  generalize w5.drew=w6 at hdz ⊢
  have hM6:=hM5.e0 hdz
  have hBx6:=hBx9.e0 hdz
  have hz6:=hdz.size
  clear k0 k1 k5 m9
  have hb6:base≤w6.heap.size:=by omega
  have hd6:(s.Cz A' c' (Fsm.Ak (fun y:JobV=>y.1.id) ((⟨x0,x1,x2,x3,xg,x5,x6⟩,.slice GA2 xg.length gc2):JobV) s.jobs)).deploys.length≤67108862:=by show s.deploys.length≤_;omega
  have hu6:Fsm.Up DepD.job (s.Cz A' c' (Fsm.Ak (fun y:JobV=>y.1.id) ((⟨x0,x1,x2,x3,xg,x5,x6⟩,.slice GA2 xg.length gc2):JobV) s.jobs)).deploys:=hW5.d
  have hj9:(s.Cz A' c' (Fsm.Ak (fun y:JobV=>y.1.id) ((⟨x0,x1,x2,x3,xg,x5,x6⟩,.slice GA2 xg.length gc2):JobV) s.jobs)).jobs.length≤1048576:=hq1
  have hpl:=Fsm.Cr (key:=DepD.job) (x:=(⟨x0,x5,1,s.index⟩ : DepD)) s.deploys
  go_upto_region 5 with (first|go_skip|go_guarded|(go_at_call 91;(with_reducible refine (Pw base b (s.Cz A' c' (Fsm.Ak (fun y:JobV=>y.1.id) ((⟨x0,x1,x2,x3,xg,x5,x6⟩,.slice GA2 xg.length gc2):JobV) s.jobs)) cm (⟨x0,x5,1,s.index⟩ : DepD) w6 hM6 hb6 hd6 hu6).mono ?_);rintro e w8 ⟨A3,c3,rfl,hM8,hx8⟩))
  replace hM8:Az base w8 b ((s.Cz A' c' (Fsm.Ak (fun y:JobV=>y.1.id) ((⟨x0,x1,x2,x3,xg,x5,x6⟩,.slice GA2 xg.length gc2):JobV) s.jobs)).DT A3 c3 (Fsm.Ak DepD.job (⟨x0,x5,1,s.index⟩ : DepD) s.deploys)) cm:=hM8
  replace hx8:Step w6 w8 b (s.Cz A' c' (Fsm.Ak (fun y:JobV=>y.1.id) ((⟨x0,x1,x2,x3,xg,x5,x6⟩,.slice GA2 xg.length gc2):JobV) s.jobs)) ((s.Cz A' c' (Fsm.Ak (fun y:JobV=>y.1.id) ((⟨x0,x1,x2,x3,xg,x5,x6⟩,.slice GA2 xg.length gc2):JobV) s.jobs)).DT A3 c3 (Fsm.Ak DepD.job (⟨x0,x5,1,s.index⟩ : DepD) s.deploys)):=hx8
  have hnq6:¬ MW (s.Cz A' c' (Fsm.Ak (fun y:JobV=>y.1.id) ((⟨x0,x1,x2,x3,xg,x5,x6⟩,.slice GA2 xg.length gc2):JobV) s.jobs)) b QQ:=hnq5
  have hBx8:=hBx6.step hx8 hnq6
  have hnq8:=hx8.not hnq6 hBx6.lt
  have hz8:=hx8.size
  have hW8:Fsm.Wf ((s.Cz A' c' (Fsm.Ak (fun y:JobV=>y.1.id) ((⟨x0,x1,x2,x3,xg,x5,x6⟩,.slice GA2 xg.length gc2):JobV) s.jobs)).DT A3 c3 (Fsm.Ak DepD.job (⟨x0,x5,1,s.index⟩ : DepD) s.deploys)).data:=Fsm.MX hW5 (⟨x0,x5,1,s.index⟩ : DepD)
  have g1:((s.Cz A' c' (Fsm.Ak (fun y:JobV=>y.1.id) ((⟨x0,x1,x2,x3,xg,x5,x6⟩,.slice GA2 xg.length gc2):JobV) s.jobs)).DT A3 c3 (Fsm.Ak DepD.job (⟨x0,x5,1,s.index⟩ : DepD) s.deploys)).jobs.length≤1048576:=hq1
  have g2:((s.Cz A' c' (Fsm.Ak (fun y:JobV=>y.1.id) ((⟨x0,x1,x2,x3,xg,x5,x6⟩,.slice GA2 xg.length gc2):JobV) s.jobs)).DT A3 c3 (Fsm.Ak DepD.job (⟨x0,x5,1,s.index⟩ : DepD) s.deploys)).allocs.length≤1048576:=hA
  have g3:((s.Cz A' c' (Fsm.Ak (fun y:JobV=>y.1.id) ((⟨x0,x1,x2,x3,xg,x5,x6⟩,.slice GA2 xg.length gc2):JobV) s.jobs)).DT A3 c3 (Fsm.Ak DepD.job (⟨x0,x5,1,s.index⟩ : DepD) s.deploys)).deploys.length≤1048576:=by show (Fsm.Ak DepD.job (⟨x0,x5,1,s.index⟩ : DepD) s.deploys).length≤_;omega
  have g4:((s.Cz A' c' (Fsm.Ak (fun y:JobV=>y.1.id) ((⟨x0,x1,x2,x3,xg,x5,x6⟩,.slice GA2 xg.length gc2):JobV) s.jobs)).DT A3 c3 (Fsm.Ak DepD.job (⟨x0,x5,1,s.index⟩ : DepD) s.deploys)).stable.length≤33554432:=hSt
  have hb8:base≤w8.heap.size:=by omega
  go_upto_region 6 with (first|go_skip|go_guarded|(go_at_call 73;(with_reducible refine (OI base b ((s.Cz A' c' (Fsm.Ak (fun y:JobV=>y.1.id) ((⟨x0,x1,x2,x3,xg,x5,x6⟩,.slice GA2 xg.length gc2):JobV) s.jobs)).DT A3 c3 (Fsm.Ak DepD.job (⟨x0,x5,1,s.index⟩ : DepD) s.deploys)) cm w8 hM8 hb8 g1 g2 g3 g4 hW8).mono ?_);rintro e w9 ⟨dL,A5,n5,c5,l5,rfl,hM9,hD9,hdl9,hl9,hx9⟩))
  have hBx10:=hBx8.step hx9 hnq8
  have k0:w9.cell? ⟨QQ,0,none⟩=some (.int .i64 x0):=hBx10.cell 0
  have hz9:=hx9.size
  have hbz:base≤w9.heap.size:=by omega
  have hj9:({ ((s.Cz A' c' (Fsm.Ak (fun y:JobV=>y.1.id) ((⟨x0,x1,x2,x3,xg,x5,x6⟩,.slice GA2 xg.length gc2):JobV) s.jobs)).DT A3 c3 (Fsm.Ak DepD.job (⟨x0,x5,1,s.index⟩ : DepD) s.deploys)) with deploys:=dL,AS:=A5,nS:=n5,cS:=c5,stable:=l5 }:Aa).jobs.length≤67108864:=by show (Fsm.Ak (fun y:JobV=>y.1.id) ((⟨x0,x1,x2,x3,xg,x5,x6⟩,.slice GA2 xg.length gc2):JobV) s.jobs).length≤_;omega
  have he9:({ ((s.Cz A' c' (Fsm.Ak (fun y:JobV=>y.1.id) ((⟨x0,x1,x2,x3,xg,x5,x6⟩,.slice GA2 xg.length gc2):JobV) s.jobs)).DT A3 c3 (Fsm.Ak DepD.job (⟨x0,x5,1,s.index⟩ : DepD) s.deploys)) with deploys:=dL,AS:=A5,nS:=n5,cS:=c5,stable:=l5 }:Aa).evals.length≤67108862:=by show s.evals.length≤_;omega
  have hu9:Fsm.Up EvalD.job ({ ((s.Cz A' c' (Fsm.Ak (fun y:JobV=>y.1.id) ((⟨x0,x1,x2,x3,xg,x5,x6⟩,.slice GA2 xg.length gc2):JobV) s.jobs)).DT A3 c3 (Fsm.Ak DepD.job (⟨x0,x5,1,s.index⟩ : DepD) s.deploys)) with deploys:=dL,AS:=A5,nS:=n5,cS:=c5,stable:=l5 }:Aa).evals:=hW5.e
  have HD9:=Lib.hid hD9
  clear hD9
  go_wp2_with (first|go_skip|go_guarded|(go_at_call 64;(with_reducible refine (Ef base b ({ ((s.Cz A' c' (Fsm.Ak (fun y:JobV=>y.1.id) ((⟨x0,x1,x2,x3,xg,x5,x6⟩,.slice GA2 xg.length gc2):JobV) s.jobs)).DT A3 c3 (Fsm.Ak DepD.job (⟨x0,x5,1,s.index⟩ : DepD) s.deploys)) with deploys:=dL,AS:=A5,nS:=n5,cS:=c5,stable:=l5 }:Aa) cm x0 w9 hM9 hbz hj9 he9 hu9).mono ?_);rintro e w11 ⟨A9,c9,l9,rfl,hM11,hD11,hx11⟩))
  go_end0
  exact ⟨_,rfl,hM11,hD11.trans (by rw [HD9.out];show Fsm.eval (Fsm.looked ({ (s.Cz A' c' (Fsm.Ak (fun y:JobV=>y.1.id) ((⟨x0,x1,x2,x3,xg,x5,x6⟩,.slice GA2 xg.length gc2):JobV) s.jobs)).data with deploys:=Fsm.Ak DepD.job (⟨x0,x5,1,s.index⟩ : DepD) s.deploys }:Ab)) x0=_;rw [HDAT.out];unfold Fsm.begins;simp only [e1];rfl),((hst.m0 hdz).trans hx8).trans (hx9.trans hx11)⟩
 | false =>
  have hbz:base≤w5.heap.size:=by omega
  have hj9:(s.Cz A' c' (Fsm.Ak (fun y:JobV=>y.1.id) ((⟨x0,x1,x2,x3,xg,x5,x6⟩,.slice GA2 xg.length gc2):JobV) s.jobs)).jobs.length≤67108864:=by omega
  have he9:(s.Cz A' c' (Fsm.Ak (fun y:JobV=>y.1.id) ((⟨x0,x1,x2,x3,xg,x5,x6⟩,.slice GA2 xg.length gc2):JobV) s.jobs)).evals.length≤67108862:=by show s.evals.length≤_;omega
  have hu9:Fsm.Up EvalD.job (s.Cz A' c' (Fsm.Ak (fun y:JobV=>y.1.id) ((⟨x0,x1,x2,x3,xg,x5,x6⟩,.slice GA2 xg.length gc2):JobV) s.jobs)).evals:=hW5.e
  go_wp2_with (first|go_skip|go_guarded|(go_at_call 64;(with_reducible refine (Ef base b (s.Cz A' c' (Fsm.Ak (fun y:JobV=>y.1.id) ((⟨x0,x1,x2,x3,xg,x5,x6⟩,.slice GA2 xg.length gc2):JobV) s.jobs)) cm x0 w5 hM5 hbz hj9 he9 hu9).mono ?_);rintro e w11 ⟨A9,c9,l9,rfl,hM11,hD11,hx11⟩))
  go_end0
  exact ⟨_,rfl,hM11,hD11.trans (by rw [HDAT.out];unfold Fsm.begins;simp only [e1];rfl),hst.trans hx11⟩
end
section
open Go.RowKit
set_option maxRecDepth 20000 in
set_option maxHeartbeats 8000000 in
theorem PX (base b:Nat) (s:Aa) (cm:Bool) (c:Bl) (w:World) (hM:Az base w b s cm) (hc:Dx base w c) (hb:base≤w.heap.size) (hJ:s.jobs.length≤1048575) (hA:s.allocs.length≤1048576) (hDl:s.deploys.length≤1048575) (hSt:s.stable.length≤33554432) (hE:s.evals.length≤33554432) (hw:Fsm.Wf s.data) :
  Calls Tryz.prog 50 #[.pointer (some ⟨b,0,none⟩),.agg c.arr] w fun e w'=>∃ s' r,e=.returned (.agg (Au r.code r.value))∧Az base w' b s' cm∧Fsm.BZ s.data c.d=(s'.data,r)∧r.allocs=[]∧Step w w' b s s':=by
 have hjl:=Lib.hid hM.own.jl
 have hnJ:s.nJ≤67108864:=by have:=hM.own.jl;omega
 cases hok:Fsm.Dw c.job with
 | false =>
  have HF:=Lib.hid (show Fsm.BZ s.data c.d=(s.data,⟨30,0,[]⟩) by unfold Fsm.BZ;rw [show Fsm.Dw c.d.job=false from hok];rfl)
  have HER:=Lib.hid (show Eu ⟨c.job.id,c.job.ty,c.job.prio,c.job.par,c.job.groups,c.job.ver,c.job.stopped⟩=30 from J7 hok)
  clear hok
  obtain ⟨hxW,hCW,hRW⟩:=cmd0 w c
  have hzW:=hxW.size
  have hMW:=hM.e0 hxW
  go_enter Tryz.func50,Tryz.ntmps50
  go_upto_region 1 with (first|go_skip|go_guarded)
  generalize hC:w.heap.size=C at hCW hRW hzW ⊢
  have HC:=Lib.hid hC
  clear hC
  generalize ((w.alloc (.cells c.arr 51)).alloc (.cells #[.int .i64 0,.int .i64 0,.slice none 0 0] 34))=W at hxW hCW hRW hzW hMW ⊢
  have hg0:=hc.g.Al hxW
  have hcj:∀ j u,c.Mr.toList[j]? = some u→W.cell? ⟨C,3+j,none⟩=some u:=fun j u hu=>by rw [hCW.cell];exact c.Qd j u hu
  go_upto_region 3 with (first|go_skip|((with_reducible refine isW ?_);refine Ad rfl 39 _ rfl STJob C 3 rfl c.Mr (by first|exact hcj1|exact hcj) rfl ?_)|(go_at_call 60;(with_reducible refine (MR c.job.id c.job.ty c.job.prio c.job.par c.job.groups c.job.ver c.job.stopped c.GA c.gn c.gc W hg0 hc.gl).mono ?_);rintro e w1 ⟨rfl,hx1⟩;(rw [HER.out]);have hcj1:∀ j u,c.Mr.toList[j]? = some u→w1.cell? ⟨C,3+j,none⟩=some u:=fun j u hu=>hx1.c0 (hcj j u hu)))
  have hM1:=hMW.e0 hx1
  have hR1:=hRW.e0 hx1
  have hst:=Step.of0 (b:=b) (s:=s) (hxW.tr hx1)
  go_wp2_with (first|go_skip|go_guarded|(go_at_call 31;(with_reducible refine (mNo 30 w1).mono ?_);rintro e w8 ⟨rfl,hx8⟩;have hR8:=hR1.e0 hx8)|((with_reducible refine isW ?_);refine Af rfl 34 _ _ rfl STResult (C+1) rfl (Au 30 0) rfl hR8 rfl rfl rfl ?_;intro w9 hR9 hx9))
  have hb9:=(hM1.e0 hx8).blk.lt
  exact bodyPost_ret (results_cell rfl STResult (g:=C+1) rfl hR9 rfl) rfl ⟨s,⟨30,0,[]⟩,rfl,(hM1.e0 hx8).keep hx9 (fun e=>Blk.ne (hM1.e0 hx8).blk hR8 (by decide) e) (Apart.one hR8 (by decide)),HF.out,rfl,(hst.m0 hx8).fresh hx9 (fun q e=>by have:=HC.out;have:q=C+1:=e;omega)⟩
 | true =>
  have HER:=Lib.hid (show Eu ⟨c.job.id,c.job.ty,c.job.prio,c.job.par,c.job.groups,c.job.ver,c.job.stopped⟩=0 from JV hok)
  have HOK:=Lib.hid hok
  clear hok
  obtain ⟨hxW,hCW,hRW⟩:=cmd0 w c
  have hzW:=hxW.size
  have hMW:=hM.e0 hxW
  go_enter Tryz.func50,Tryz.ntmps50
  go_upto_region 1 with (first|go_skip|go_guarded)
  generalize hC:w.heap.size=C at hCW hRW hzW ⊢
  have HC:=Lib.hid hC
  clear hC
  generalize ((w.alloc (.cells c.arr 51)).alloc (.cells #[.int .i64 0,.int .i64 0,.slice none 0 0] 34))=W at hxW hCW hRW hzW hMW ⊢
  have hg0:=hc.g.Al hxW
  have hcj:∀ j u,c.Mr.toList[j]? = some u→W.cell? ⟨C,3+j,none⟩=some u:=fun j u hu=>by rw [hCW.cell];exact c.Qd j u hu
  go_upto_region 6 with (first|go_skip|((with_reducible refine isW ?_);refine Ad rfl 39 _ rfl STJob C 3 rfl c.Mr (by first|exact hcj1|exact hcj) rfl ?_)|(go_at_call 60;(with_reducible refine (MR c.job.id c.job.ty c.job.prio c.job.par c.job.groups c.job.ver c.job.stopped c.GA c.gn c.gc W hg0 hc.gl).mono ?_);rintro e w1 ⟨rfl,hx1⟩;(rw [HER.out]);have hcj1:∀ j u,c.Mr.toList[j]? = some u→w1.cell? ⟨C,3+j,none⟩=some u:=fun j u hu=>hx1.c0 (hcj j u hu)))
  have hJj:Blk (w1.alloc (.cells #[.int .i64 c.job.id,.int .i64 c.job.ty,.int .i64 c.job.prio,.int .i64 c.job.par,.slice c.GA c.gn c.gc,.int .i64 1,.bool false] 39)) w1.heap.size 39 #[.int .i64 c.job.id,.int .i64 c.job.ty,.int .i64 c.job.prio,.int .i64 c.job.par,.slice c.GA c.gn c.gc,.int .i64 1,.bool false]:=Blk.new _ _ _
  have hxj1:Ext Nothing w1 (w1.alloc (.cells #[.int .i64 c.job.id,.int .i64 c.job.ty,.int .i64 c.job.prio,.int .i64 c.job.par,.slice c.GA c.gn c.gc,.int .i64 1,.bool false] 39)):=Ext.Ay
  have hxj:Ext Nothing w (w1.alloc (.cells #[.int .i64 c.job.id,.int .i64 c.job.ty,.int .i64 c.job.prio,.int .i64 c.job.par,.slice c.GA c.gn c.gc,.int .i64 1,.bool false] 39)):=(hxW.tr hx1).tr hxj1
  have hMj:=(hMW.e0 hx1).e0 hxj1
  have hRj:=(hRW.e0 hx1).e0 hxj1
  have hz1:C+1 < w1.heap.size:=(hRW.e0 hx1).lt
  clear hcj1 hcj hxj1
  generalize w1.heap.size=J at hJj hz1 ⊢
  generalize (w1.alloc (.cells #[.int .i64 c.job.id,.int .i64 c.job.ty,.int .i64 c.job.prio,.int .i64 c.job.par,.slice c.GA c.gn c.gc,.int .i64 1,.bool false] 39))=wj at hJj hxj hMj hRj ⊢
  have hsl:=hMj.own.slJ
  rcases AV (fun x:JobV=>x.1.id == c.job.id) s.jobs with ⟨hi,hf,_⟩|⟨i,x,hi,hxi,hp,hf,_⟩
  ·have HN:=Lib.hid (Ct hf)
   have HI:=Lib.hid hi
   clear hi hf
   have ck:wj.cell? ⟨J,0,none⟩=some (.int .i64 c.job.id):=hJj.cell 0
   have hd:Ext Nothing wj wj.drew:=(Ext.refl _ _).drew
   refine zS (S:=fun W'=>Ext Nothing wj W') (by kernel_rfl) ?_
   generalize wj.drew=Wd at hd ⊢
   refine zV 0 (.pointer (some ⟨b,0,none⟩)) rfl (by kernel_rfl) hd (fun _ _ _ h=>h) (fun W' hS'=>by go_simp) ?_
   refine zV 1 (.pointer (some ⟨b,0,none⟩)) rfl (by kernel_rfl) hd (fun _ _ _ h=>h) (fun W' hS'=>by go_simp) ?_
   refine zV 2 (.pointer (some ⟨b,0,none⟩)) rfl (by kernel_rfl) hd (fun _ _ _ h=>h) (fun W' hS'=>by go_simp) ?_
   refine zV 3 (.agg s.arr) rfl (by kernel_rfl) hd (fun _ _ _ h=>h) (fun W' hS'=>by exact run_load_struct (sz:=9) (b:=b) (off:=0) rfl Aj (by go_simp) (fun j u hu=>hS'.c0 (hMj.at j u hu)) rfl) ?_
   refine zV 4 (.pointer (some ⟨J,0,none⟩)) rfl (by kernel_rfl) hd (fun _ _ _ h=>h) (fun W' hS'=>by go_simp) ?_
   refine zV 5 (.int .i64 c.job.id) rfl (by kernel_rfl) hd (fun _ _ _ h=>h) (fun W' hS'=>by have q:=hS'.c0 ck;go_simp) ?_
   (try simp only [Act.put,zA,zB,zC,zD,zE,zF])
   refine zO 6 (by kernel_rfl) ?_
   refine Ai (f:=61) (args:=#[.agg s.arr,.int .i64 c.job.id]) rfl (by rfl) (by go_simp) ((Bu s.AJ s.nJ s.cJ s.jobs c.job.id Wd (hsl.Al hd) hnJ _ _ _ _ _ _ _ _ _ rfl).mono ?_)
   rintro e w4 ⟨rfl,hx1⟩
   (rw [HI.out])
   have hxc:=hd.tr hx1
   refine ⟨_,rfl,hxc,?_⟩
   (try simp only [Act.put,zA,zB,zC,zD,zE,zF])
   refine zV 7 (.int .i64 (-1)) rfl (by kernel_rfl) hxc (fun _ _ _ h=>h) (fun W' hS'=>by go_simp) ?_
   (try simp only [Act.put,zA,zB,zC,zD,zE,zF])
   refine wpAnyH_done (by kernel_rfl) ?_ _
   (try simp only [Act.put,zA,zB,zC,zD,zE,zF])
   clear hd hx1
   have hM4:=hMj.e0 hxc
   have hR4:=hRj.e0 hxc
   have hJ4:=hJj.e0 hxc
   have hx4:=hxj.tr hxc
   clear hxc ck
   have m2:w4.cell? ⟨b,2,none⟩=some (.slice s.AJ s.nJ s.cJ):=hM4.blk.cell 2
   by_cases h6:6≤s.nJ
   ·have HF:=Lib.hid (show Fsm.BZ s.data c.d=(s.data,⟨2,0,[]⟩) by unfold Fsm.BZ;rw [show Fsm.Dw c.d.job=true from HOK.out,show Fsm.AU s.data c.d.job.id=none from HN.out];simp only [];rw [if_pos (show 6≤s.data.jobs.length by show 6≤(s.jobs.map (·.1)).length;rw [List.length_map];have:=hjl.out;omega)];rfl)
    have h6' : decide ((6:Int)≤(s.nJ:Int))=true:=by simp;omega
    go_upto_region 8 with (first|go_skip|go_guarded)
    have hst:=Step.of0 (b:=b) (s:=s) hx4
    go_wp2_with (first|go_skip|go_guarded|(go_at_call 31;(with_reducible refine (mNo 2 w4).mono ?_);rintro e w8 ⟨rfl,hx8⟩;have hR8:=hR4.e0 hx8)|((with_reducible refine isW ?_);refine Af rfl 34 _ _ rfl STResult (C+1) rfl (Au 2 0) rfl hR8 rfl rfl rfl ?_;intro w9 hR9 hx9))
    have hb9:=(hM4.e0 hx8).blk.lt
    exact bodyPost_ret (results_cell rfl STResult (g:=C+1) rfl hR9 rfl) rfl ⟨s,⟨2,0,[]⟩,rfl,(hM4.e0 hx8).keep hx9 (fun e=>Blk.ne (hM4.e0 hx8).blk hR8 (by decide) e) (Apart.one hR8 (by decide)),HF.out,rfl,(hst.m0 hx8).fresh hx9 (fun q e=>by have:=HC.out;have:q=C+1:=e;omega)⟩
   have HF:=Lib.hid (show Fsm.BZ s.data c.d=(Fsm.begins s.data ⟨c.job.id,c.job.ty,c.job.prio,c.job.par,c.job.groups,1,false⟩,⟨0,1,[]⟩) by unfold Fsm.BZ;rw [show Fsm.Dw c.d.job=true from HOK.out,show Fsm.AU s.data c.d.job.id=none from HN.out];simp only [];rw [if_neg (show ¬ 6≤s.data.jobs.length by show ¬ 6≤(s.jobs.map (·.1)).length;rw [List.length_map];have:=hjl.out;omega)];rfl)
   have h6' : decide ((6:Int)≤(s.nJ:Int))=false:=by simp;omega
   go_upto_region 14 with (first|go_skip|go_guarded)
   clear m2 h6'
   have hq4:base≤w4.heap.size:=by have:=hx4.size;omega
   have hGq:=hc.g.Al hx4
   have hqc:Fsm.cnt ⟨c.job.id,c.job.ty,c.job.prio,c.job.par,c.job.groups,1,false⟩:=Fsm.Gt HOK.out
   have hnR:¬ MW s b (C+1):=hM4.Cn hR4 (by decide)
   have hnJb:¬ MW s b J:=fun e=>by have:=hM.FL e;have:=HC.out;omega
   have hgl:=hc.gl
   have hst:=Step.of0 (b:=b) (s:=s) hx4
   go_wp2_with (first|go_skip|go_guarded|((with_reducible refine isW ?_);refine Ae rfl 39 _ rfl STJob J rfl #[.int .i64 c.job.id,.int .i64 c.job.ty,.int .i64 c.job.prio,.int .i64 c.job.par,.slice c.GA c.gn c.gc,.int .i64 1,.bool false] hJ4 rfl ?_)|(go_at_call 62;(with_reducible refine (QU base b s cm c.job.id c.job.ty c.job.prio c.job.par c.job.groups 1 false c.GA c.gn c.gc w4 hM4 hq4 hGq hgl hqc hJ hA hDl hSt hE hw).mono ?_);rintro e w7 ⟨s7,rfl,hM7,hD7,hx7⟩;have hR7:=hR4.step hx7 hnR;have j57:w7.cell? ⟨J,5,none⟩=some (.int .i64 1):=(hJ4.step hx7 hnJb).cell 5)|((with_reducible refine isW ?_);refine Af rfl 34 _ _ rfl STResult (C+1) rfl (Au 0 1) rfl hR7 rfl rfl rfl ?_;intro w9 hR9 hx9))
   exact bodyPost_ret (results_cell rfl STResult (g:=C+1) rfl hR9 rfl) rfl ⟨_,⟨0,1,[]⟩,rfl,hM7.keep hx9 (fun e=>Blk.ne hM7.blk hR7 (by decide) e) (Apart.one hR7 (by decide)),by rw [HF.out,hD7],rfl,(hst.trans hx7).fresh hx9 (fun q e=>by have:=HC.out;have:q=C+1:=e;omega)⟩
  have hja:Fsm.AU s.data c.d.job.id=some x.1:=Cs hf
  obtain ⟨hi1,hi2⟩:=List.getElem?_eq_some_iff.1 hxi
  obtain ⟨_,g,off,hAe,hce⟩:=hsl.get (Ext.refl Nothing wj) (k:=i) (by have:=hjl.out;omega)
  rw [hi2] at hce
  have hgx:=hMj.own.j.grp x (List.mem_of_getElem? hxi)
  have hk0:(0:Int)≤(i:Int):=by omega
  have hk1:(i:Int) < s.nJ:=by have:=hjl.out;omega
  have hng:¬ ((i:Int) < 0):=by omega
  have hkg:decide ((0:Int)≤(i:Int))=true:=by simp
  obtain ⟨⟨x0,x1,x2,x3,xg,x5,x6⟩,xv⟩:=x
  obtain ⟨GA,gn,gc,hgv,hgq⟩:=hgx
  clear hgq
  change xv=_ at hgv
  subst hgv
  have HI:=Lib.hid hi
  have HA:=Lib.hid hAe
  have HJA:=Lib.hid hja
  have HCE:=Lib.hid (show ∀ j u,(#[.int .i64 x0,.int .i64 x1,.int .i64 x2,.int .i64 x3,.slice GA gn gc,.int .i64 x5,.bool x6]:Array Value).toList[j]? = some u→wj.cell? ⟨g,off+i*7+j,none⟩=some u from hce)
  clear hi hf hi2 hAe hxi hp hja hce
  have ck:wj.cell? ⟨J,0,none⟩=some (.int .i64 c.job.id):=hJj.cell 0
  have hd:Ext Nothing wj wj.drew:=(Ext.refl _ _).drew
  refine zS (S:=fun W'=>Ext Nothing wj W') (by kernel_rfl) ?_
  generalize wj.drew=Wd at hd ⊢
  refine zV 0 (.pointer (some ⟨b,0,none⟩)) rfl (by kernel_rfl) hd (fun _ _ _ h=>h) (fun W' hS'=>by go_simp) ?_
  refine zV 1 (.pointer (some ⟨b,0,none⟩)) rfl (by kernel_rfl) hd (fun _ _ _ h=>h) (fun W' hS'=>by go_simp) ?_
  refine zV 2 (.pointer (some ⟨b,0,none⟩)) rfl (by kernel_rfl) hd (fun _ _ _ h=>h) (fun W' hS'=>by go_simp) ?_
  refine zV 3 (.agg s.arr) rfl (by kernel_rfl) hd (fun _ _ _ h=>h) (fun W' hS'=>by exact run_load_struct (sz:=9) (b:=b) (off:=0) rfl Aj (by go_simp) (fun j u hu=>hS'.c0 (hMj.at j u hu)) rfl) ?_
  refine zV 4 (.pointer (some ⟨J,0,none⟩)) rfl (by kernel_rfl) hd (fun _ _ _ h=>h) (fun W' hS'=>by go_simp) ?_
  refine zV 5 (.int .i64 c.job.id) rfl (by kernel_rfl) hd (fun _ _ _ h=>h) (fun W' hS'=>by have q:=hS'.c0 ck;go_simp) ?_
  (try simp only [Act.put,zA,zB,zC,zD,zE,zF])
  refine zO 6 (by kernel_rfl) ?_
  refine Ai (f:=61) (args:=#[.agg s.arr,.int .i64 c.job.id]) rfl (by rfl) (by go_simp) ((Bu s.AJ s.nJ s.cJ s.jobs c.job.id Wd (hsl.Al hd) hnJ _ _ _ _ _ _ _ _ _ rfl).mono ?_)
  rintro e w4 ⟨rfl,hx1⟩
  (rw [HI.out])
  have hxc:=hd.tr hx1
  refine ⟨_,rfl,hxc,?_⟩
  (try simp only [Act.put,zA,zB,zC,zD,zE,zF])
  refine zV 7 (.int .i64 (i:Int)) rfl (by kernel_rfl) hxc (fun _ _ _ h=>h) (fun W' hS'=>by go_simp) ?_
  (try simp only [Act.put,zA,zB,zC,zD,zE,zF])
  refine wpAnyH_done (by kernel_rfl) ?_ _
  (try simp only [Act.put,zA,zB,zC,zD,zE,zF])
  clear hd hx1
  have hM4:=hMj.e0 hxc
  have hR4:=hRj.e0 hxc
  have hJ4:=hJj.e0 hxc
  have hx4:=hxj.tr hxc
  clear ck
  have hce4:∀ j u,(#[.int .i64 x0,.int .i64 x1,.int .i64 x2,.int .i64 x3,.slice GA gn gc,.int .i64 x5,.bool x6]:Array Value).toList[j]? = some u→w4.cell? ⟨g,off+i*7+j,none⟩=some u:=fun j u hu=>hxc.c0 (HCE.out j u hu)
  clear hxc
  have m2:w4.cell? ⟨b,2,none⟩=some (.slice (some ⟨g,off,none⟩) s.nJ s.cJ):=by rw [← HA.out];exact hM4.blk.cell 2
  have hxh1:Ext Nothing w4 (w4.alloc (.cells #[.int .i64 x0,.int .i64 x1,.int .i64 x2,.int .i64 x3,.slice GA gn gc,.int .i64 x5,.bool x6] 39)):=Ext.Ay
  have hBh:Blk (w4.alloc (.cells #[.int .i64 x0,.int .i64 x1,.int .i64 x2,.int .i64 x3,.slice GA gn gc,.int .i64 x5,.bool x6] 39)) w4.heap.size 39 #[.int .i64 x0,.int .i64 x1,.int .i64 x2,.int .i64 x3,.slice GA gn gc,.int .i64 x5,.bool x6]:=Blk.new _ _ _
  go_upto_region 11 with (first|go_skip|go_guarded|((with_reducible refine isW ?_);refine Ad rfl 39 _ rfl STJob g (off+i*7) rfl #[.int .i64 x0,.int .i64 x1,.int .i64 x2,.int .i64 x3,.slice GA gn gc,.int .i64 x5,.bool x6] hce4 rfl ?_))
  have hMh:=hM4.e0 hxh1
  have hRh:=hR4.e0 hxh1
  have hJh:=hJ4.e0 hxh1
  have hxh:=hx4.tr hxh1
  have hzJ:J < w4.heap.size:=hJ4.lt
  clear m2 hce4
  generalize w4.heap.size=H at hBh hzJ ⊢
  generalize (w4.alloc (.cells #[.int .i64 x0,.int .i64 x1,.int .i64 x2,.int .i64 x3,.slice GA gn gc,.int .i64 x5,.bool x6] 39))=wh at hxh1 hBh hMh hRh hJh hxh ⊢
  have q1:wh.cell? ⟨H,1,none⟩=some (.int .i64 x1):=hBh.cell 1
  have q5:wh.cell? ⟨H,5,none⟩=some (.int .i64 x5):=hBh.cell 5
  have j1:wh.cell? ⟨J,1,none⟩=some (.int .i64 c.job.ty):=hJh.cell 1
  have hst:=Step.of0 (b:=b) (s:=s) hxh
  cases h1:(x1 != c.job.ty) with
  | true =>
   have HF:=Lib.hid (show Fsm.BZ s.data c.d=(s.data,⟨30,0,[]⟩) by unfold Fsm.BZ;rw [show Fsm.Dw c.d.job=true from HOK.out,HJA.out];simp only [];rw [if_pos (show ((!(x1 == c.d.job.ty)) || decide (Fsm.BU≤x5))=true from by rw [show (!(x1 == c.d.job.ty))=true from h1];rfl)];rfl)
   go_upto_region 12 with (first|go_skip|go_guarded)
   clear q1 q5 j1
   go_wp2_with (first|go_skip|go_guarded|(go_at_call 31;(with_reducible refine (mNo 30 wh).mono ?_);rintro e w8 ⟨rfl,hx8⟩;have hR8:=hRh.e0 hx8)|((with_reducible refine isW ?_);refine Af rfl 34 _ _ rfl STResult (C+1) rfl (Au 30 0) rfl hR8 rfl rfl rfl ?_;intro w9 hR9 hx9))
   have hb9:=(hMh.e0 hx8).blk.lt
   exact bodyPost_ret (results_cell rfl STResult (g:=C+1) rfl hR9 rfl) rfl ⟨s,⟨30,0,[]⟩,rfl,(hMh.e0 hx8).keep hx9 (fun e=>Blk.ne (hMh.e0 hx8).blk hR8 (by decide) e) (Apart.one hR8 (by decide)),HF.out,rfl,(hst.m0 hx8).fresh hx9 (fun q e=>by have:=HC.out;have:q=C+1:=e;omega)⟩
  | false =>
   by_cases h5:1099511627776≤x5
   ·have h5' : decide (1099511627776≤x5)=true:=by simpa using h5
    have HF:=Lib.hid (show Fsm.BZ s.data c.d=(s.data,⟨30,0,[]⟩) by unfold Fsm.BZ;rw [show Fsm.Dw c.d.job=true from HOK.out,HJA.out];simp only [];rw [if_pos (show ((!(x1 == c.d.job.ty)) || decide (Fsm.BU≤x5))=true from by rw [show decide (Fsm.BU≤x5)=true from h5'];simp)];rfl)
    go_upto_region 12 with (first|go_skip|go_guarded)
    clear q1 q5 j1
    go_wp2_with (first|go_skip|go_guarded|(go_at_call 31;(with_reducible refine (mNo 30 wh).mono ?_);rintro e w8 ⟨rfl,hx8⟩;have hR8:=hRh.e0 hx8)|((with_reducible refine isW ?_);refine Af rfl 34 _ _ rfl STResult (C+1) rfl (Au 30 0) rfl hR8 rfl rfl rfl ?_;intro w9 hR9 hx9))
    have hb9:=(hMh.e0 hx8).blk.lt
    exact bodyPost_ret (results_cell rfl STResult (g:=C+1) rfl hR9 rfl) rfl ⟨s,⟨30,0,[]⟩,rfl,(hMh.e0 hx8).keep hx9 (fun e=>Blk.ne (hMh.e0 hx8).blk hR8 (by decide) e) (Apart.one hR8 (by decide)),HF.out,rfl,(hst.m0 hx8).fresh hx9 (fun q e=>by have:=HC.out;have:q=C+1:=e;omega)⟩
   have h5' : decide (1099511627776≤x5)=false:=by simpa using h5
   have HF:=Lib.hid (show Fsm.BZ s.data c.d=(Fsm.begins s.data ⟨c.job.id,c.job.ty,c.job.prio,c.job.par,c.job.groups,(wrap64 (x5+1)),false⟩,⟨0,(wrap64 (x5+1)),[]⟩) by unfold Fsm.BZ;rw [show Fsm.Dw c.d.job=true from HOK.out,HJA.out];simp only [];rw [if_neg (show ¬ ((!(x1 == c.d.job.ty)) || decide (Fsm.BU≤x5))=true from by rw [show (!(x1 == c.d.job.ty))=false from h1,show decide (Fsm.BU≤x5)=false from h5'];exact Bool.false_ne_true)];rfl)
   have j5:wh.cell? ⟨J,5,none⟩=some (.int .i64 1):=hJh.cell 5
   have f5:wh.frozen? ⟨J,5,none⟩=false:=hJh.frozen 5
   go_upto_region 14 with (first|go_skip|go_guarded)
   have hs9:Ext (fun q=>q=J) wh (wh.setCell ⟨J,5,none⟩ (.int .i64 (wrap64 (x5+1)))):=Ext.set1 _ _ _ _
   have hJb:Blk (wh.setCell ⟨J,5,none⟩ (.int .i64 (wrap64 (x5+1)))) J 39 #[.int .i64 c.job.id,.int .i64 c.job.ty,.int .i64 c.job.prio,.int .i64 c.job.par,.slice c.GA c.gn c.gc,.int .i64 (wrap64 (x5+1)),.bool false]:=hJh.Bi 5 (.int .i64 (wrap64 (x5+1)))
   have hnJ0:¬ MW s b J:=fun e=>by have:=hM.FL e;have:=HC.out;omega
   have hxb:Ext Nothing w (wh.setCell ⟨J,5,none⟩ (.int .i64 (wrap64 (x5+1)))):=hxh.trans hs9 (fun q hq e=>absurd (show q=J from e) (by have:=HC.out;omega))
   have hRb:=hRh.ext hs9 (fun e=>absurd (show C+1=J from e) (by omega))
   have hMb:Az base (wh.setCell ⟨J,5,none⟩ (.int .i64 (wrap64 (x5+1)))) b s cm:=hM.e0 hxb
   clear q1 q5 j1 j5 f5 hs9 hst
   generalize (wh.setCell ⟨J,5,none⟩ (.int .i64 (wrap64 (x5+1))))=wy at hJb hxb hRb hMb ⊢
   have hq4:base≤wy.heap.size:=by have:=hxb.size;omega
   have hGq:=hc.g.Al hxb
   have hqc:Fsm.cnt ⟨c.job.id,c.job.ty,c.job.prio,c.job.par,c.job.groups,(wrap64 (x5+1)),false⟩:=Fsm.Gt HOK.out
   have hnR:¬ MW s b (C+1):=hMb.Cn hRb (by decide)
   have hnJb:¬ MW s b J:=fun e=>by have:=hM.FL e;have:=HC.out;omega
   have hgl:=hc.gl
   have hst:=Step.of0 (b:=b) (s:=s) hxb
   go_wp2_with (first|go_skip|go_guarded|((with_reducible refine isW ?_);refine Ae rfl 39 _ rfl STJob J rfl #[.int .i64 c.job.id,.int .i64 c.job.ty,.int .i64 c.job.prio,.int .i64 c.job.par,.slice c.GA c.gn c.gc,.int .i64 (wrap64 (x5+1)),.bool false] hJb rfl ?_)|(go_at_call 62;(with_reducible refine (QU base b s cm c.job.id c.job.ty c.job.prio c.job.par c.job.groups (wrap64 (x5+1)) false c.GA c.gn c.gc wy hMb hq4 hGq hgl hqc hJ hA hDl hSt hE hw).mono ?_);rintro e w7 ⟨s7,rfl,hM7,hD7,hx7⟩;have hR7:=hRb.step hx7 hnR;have j57:w7.cell? ⟨J,5,none⟩=some (.int .i64 (wrap64 (x5+1))):=(hJb.step hx7 hnJb).cell 5)|((with_reducible refine isW ?_);refine Af rfl 34 _ _ rfl STResult (C+1) rfl (Au 0 (wrap64 (x5+1))) rfl hR7 rfl rfl rfl ?_;intro w9 hR9 hx9))
   exact bodyPost_ret (results_cell rfl STResult (g:=C+1) rfl hR9 rfl) rfl ⟨_,⟨0,(wrap64 (x5+1)),[]⟩,rfl,hM7.keep hx9 (fun e=>Blk.ne hM7.blk hR7 (by decide) e) (Apart.one hR7 (by decide)),by rw [HF.out,hD7],rfl,(hst.trans hx7).fresh hx9 (fun q e=>by have:=HC.out;have:q=C+1:=e;omega)⟩
end
end Go.Proofs.YtccekmeifanipaaGreat
