/- Parts of the proof: MGrown -/
import Derived.Test.YtccekmeifanipaaGreatT18
import Derived.Test.YtccekmeifanipaaGreatT12
namespace Go.Proofs.YtccekmeifanipaaGreat
set_option linter.unusedVariables false
set_option linter.unusedSimpArgs false
set_option linter.unusedSectionVars false
open Go.RowKit
theorem OE {l:List JobV} (h:Fsm.Up Aq.id (l.map (·.1))):Fsm.Up (fun y:JobV=>y.1.id) l:=by
 unfold Fsm.Up at h ⊢
 rw [List.map_map] at h
 exact h
set_option maxRecDepth 20000 in
set_option maxHeartbeats 8000000 in
theorem OI (base b:Nat) (s:Aa) (cm:Bool) (w:World) (hM:Az base w b s cm) (hb:base≤w.heap.size) (hJ:s.jobs.length≤1048576) (hA:s.allocs.length≤1048576) (hDl:s.deploys.length≤1048576) (hS:s.stable.length≤33554432) (hw:Fsm.Wf s.data) :
  Calls Tryz.prog 73 #[.pointer (some ⟨b,0,none⟩)] w fun e w'=>∃ dL A n c l,e=.returned (.tuple #[])∧Az base w' b ({ s with deploys:=dL,AS:=A,nS:=n,cS:=c,stable:=l }:Aa) cm∧({ s with deploys:=dL,AS:=A,nS:=n,cS:=c,stable:=l }:Aa).data=Fsm.looked s.data∧dL.length=s.deploys.length∧l.length≤s.stable.length+s.deploys.length∧Step w w' b s ({ s with deploys:=dL,AS:=A,nS:=n,cS:=c,stable:=l }:Aa):=by
 have hdl:=Lib.hid hM.own.dl
 have hnD:s.nD≤1048576:=by have:=hM.own.dl;omega
 have hjl:=Lib.hid hM.own.jl
 have hnJ:s.nJ≤67108864:=by have:=hM.own.jl;omega
 have m7:w.cell? ⟨b,7,none⟩=some (.slice s.AD s.nD s.cD):=hM.blk.cell 7
 go_enter Tryz.func73,Tryz.ntmps73
 go_wp2
 clear m7
 go_loopw [14] (fun i wr=>∃ t:Nat,t≤s.nD∧i=.int .i64 t∧∃ dL A n ca l,dL.length=s.nD∧Az base wr b ({ s with deploys:=dL,AS:=A,nS:=n,cS:=ca,stable:=l }:Aa) cm∧({ s with deploys:=dL,AS:=A,nS:=n,cS:=ca,stable:=l }:Aa).data=(List.range t).foldl Fsm.AF s.data∧l.length≤s.stable.length+t∧Fsm.Wf ({ s with deploys:=dL,AS:=A,nS:=n,cS:=ca,stable:=l }:Aa).data∧Step w wr b s ({ s with deploys:=dL,AS:=A,nS:=n,cS:=ca,stable:=l }:Aa)) (fun i _=>s.nD - (intOf i).toNat)
 case atStart=>exact ⟨0,Nat.zero_le _,rfl,s.deploys,s.AS,s.nS,s.cS,s.stable,hM.own.dl.symm,hM,rfl,Nat.le_refl _,hw,Step.refl _ _ _⟩
 case round =>
  obtain ⟨t,ht,rfl,dL,A,n,ca,l,hla,hMr,hD,hL,hW,hx⟩:=hrel
  by_cases hlt:t < s.nD
  ·have hzr:=hx.size
   have hyt:dL[t]? = some (dL[t]'(by omega)):=List.getElem?_eq_getElem (by omega)
   generalize (dL[t]'(by omega))=y at hyt
   obtain ⟨y0,y1,y2,y3⟩:=y
   obtain ⟨g,cur,hAe,hob,hgb,hk1,hce,hput⟩:=hMr.own.Js hyt
   change s.AD=_ at hAe
   change (t:Int) < s.nD at hk1
   have hk0:(0:Int)≤(t:Int):=by omega
   have HS:=Lib.hid (show (List.range (t+1)).foldl Fsm.AF s.data=Fsm.AF ({ s with deploys:=dL,AS:=A,nS:=n,cS:=ca,stable:=l }:Aa).data t by rw [hD];exact LZ s.data t)
   have HY:=Lib.hid hyt
   have HT:=Lib.hid hlt
   have HL:=Lib.hid hL
   have HLA:=Lib.hid hla
   clear hD hlt hyt hL hla
   have m7:wr.cell? ⟨b,7,none⟩=some (.slice (some ⟨g,0,none⟩) s.nD s.cD):=by rw [← hAe];exact hMr.blk.cell 7
   have HA:=Lib.hid hAe
   clear hAe
   have f0:wr.cell? ⟨g,t*4,none⟩=some (.int .i64 y0):=hce 0 _ rfl
   have f1:wr.cell? ⟨g,t*4+1,none⟩=some (.int .i64 y1):=hce 1 _ rfl
   have f2:wr.cell? ⟨g,t*4+2,none⟩=some (.int .i64 y2):=hce 2 _ rfl
   clear hce hput
   go_upto_region 4 with (first|go_skip|go_guarded)
   have hsj:=hMr.own.slJ
   rcases AV (fun y:JobV=>y.1.id == y0) s.jobs with ⟨hi,hf,_⟩|⟨i,x,hi,hxi,hp,hf,_⟩
   ·have HI:=Lib.hid hi
    have HJ:=Lib.hid (show Fsm.AU ({ s with deploys:=dL,AS:=A,nS:=n,cS:=ca,stable:=l }:Aa).data y0=none from Ct hf)
    clear hi hf
    have hd:Ext Nothing wr wr.drew:=(Ext.refl _ _).drew
    refine zS (S:=fun W'=>Ext Nothing wr W') (by kernel_rfl) ?_
    generalize wr.drew=Wd at hd ⊢
    refine zV 0 (.pointer (some ⟨b,0,none⟩)) rfl (by kernel_rfl) hd (fun _ _ _ h=>h) (fun W' hS'=>by go_simp) ?_
    refine zV 1 (.pointer (some ⟨b,0,none⟩)) rfl (by kernel_rfl) hd (fun _ _ _ h=>h) (fun W' hS'=>by go_simp) ?_
    refine zV 2 (.pointer (some ⟨b,0,none⟩)) rfl (by kernel_rfl) hd (fun _ _ _ h=>h) (fun W' hS'=>by go_simp) ?_
    refine zV 3 (.agg ({ s with deploys:=dL,AS:=A,nS:=n,cS:=ca,stable:=l }:Aa).arr) rfl (by kernel_rfl) hd (fun _ _ _ h=>h) (fun W' hS'=>by exact run_load_struct (sz:=9) (b:=b) (off:=0) rfl Aj (by go_simp) (fun j u hu=>hS'.c0 (hMr.at j u hu)) rfl) ?_
    refine zV 4 (.pointer (some ⟨g,t*4,none⟩)) rfl (by kernel_rfl) hd (fun _ _ _ h=>h) (fun W' hS'=>by go_simp) ?_
    refine zV 5 (.pointer (some ⟨g,t*4,none⟩)) rfl (by kernel_rfl) hd (fun _ _ _ h=>h) (fun W' hS'=>by go_simp) ?_
    refine zV 6 (.pointer (some ⟨g,t*4,none⟩)) rfl (by kernel_rfl) hd (fun _ _ _ h=>h) (fun W' hS'=>by go_simp) ?_
    refine zV 7 (.int .i64 y0) rfl (by kernel_rfl) hd (fun _ _ _ h=>h) (fun W' hS'=>by have q:=hS'.c0 f0;go_simp) ?_
    (try simp only [Act.put,zA,zB,zC,zD,zE,zF])
    refine zO 8 (by kernel_rfl) ?_
    refine Ai (f:=61) (args:=#[.agg ({ s with deploys:=dL,AS:=A,nS:=n,cS:=ca,stable:=l }:Aa).arr,.int .i64 y0]) rfl (by rfl) (by go_simp) ((Bu s.AJ s.nJ s.cJ s.jobs y0 Wd (hsj.Al hd) hnJ _ _ _ _ _ _ _ _ _ rfl).mono ?_)
    rintro e w1 ⟨rfl,hx1⟩
    (rw [HI.out])
    have hxc:=hd.tr hx1
    refine ⟨_,rfl,hxc,?_⟩
    (try simp only [Act.put,zA,zB,zC,zD,zE,zF])
    refine zV 9 (.int .i64 (-1)) rfl (by kernel_rfl) hxc (fun _ _ _ h=>h) (fun W' hS'=>by go_simp) ?_
    (try simp only [Act.put,zA,zB,zC,zD,zE,zF])
    refine wpAnyH_done (by kernel_rfl) ?_ _
    (try simp only [Act.put,zA,zB,zC,zD,zE,zF])
    clear hd hx1
    have hM1:=hMr.e0 hxc
    have f0:=hxc.c0 f0
    have f1:=hxc.c0 f1
    have f2:=hxc.c0 f2
    have m7:=hxc.c0 m7
    have hx1:=hx.m0 hxc
    go_upto_region 5 with (first|go_skip|go_guarded)
    cases e1:(y2 != 1) with
    | true =>
     go_quiet (fail)
     have hdq:=(Ext.refl Nothing w1).drewN nq
     generalize w1.drewN nq=w2 at hdq ⊢
     have hs1:=Lib.hid (HS.out.trans (JK (s:=({ s with deploys:=dL,AS:=A,nS:=n,cS:=ca,stable:=l }:Aa).data) HY.out HJ.out))
     go_wp2_with (first|go_skip|go_guarded)
     go_roundw
     case rel=>exact ⟨t+1,HT.out,by go_num,dL,A,n,ca,l,HLA.out,hM1.e0 hdq,hs1.out.symm,by have:=HL.out;omega,hW,hx1.m0 hdq⟩
     case measure=>have:=HT.out;simp [intOf];omega
    | false =>
     go_quiet (fail)
     have hdq:=(Ext.refl Nothing w1).drewN nq
     generalize w1.drewN nq=w2 at hdq ⊢
     have hs1:=Lib.hid (HS.out.trans (JK (s:=({ s with deploys:=dL,AS:=A,nS:=n,cS:=ca,stable:=l }:Aa).data) HY.out HJ.out))
     go_wp2_with (first|go_skip|go_guarded)
     go_roundw
     case rel=>exact ⟨t+1,HT.out,by go_num,dL,A,n,ca,l,HLA.out,hM1.e0 hdq,hs1.out.symm,by have:=HL.out;omega,hW,hx1.m0 hdq⟩
     case measure=>have:=HT.out;simp [intOf];omega
   obtain ⟨hi1,hi2⟩:=List.getElem?_eq_some_iff.1 hxi
   have hgx:=hMr.own.j.grp x (List.mem_of_getElem? hxi)
   obtain ⟨_,gj,oj,hAj,hcj⟩:=hsj.get (Ext.refl Nothing wr) (k:=i) (by have:=hjl.out;show i < s.nJ;omega)
   change s.AJ=_ at hAj
   change ∀ j u,(JobV.cells (s.jobs[i]))[j]? = some u→_ at hcj
   rw [hi2] at hcj
   have hi0:(0:Int)≤(i:Int):=by omega
   have hi1n:(i:Int) < s.nJ:=by have:=hjl.out;omega
   have hng:¬ ((i:Int) < 0):=by omega
   have HJ0:=Cs (s:=({ s with deploys:=dL,AS:=A,nS:=n,cS:=ca,stable:=l }:Aa)) hf
   obtain ⟨⟨x0,x1,x2,x3,xg,x5,x6⟩,xv⟩:=x
   have hid:x0=y0:=by simpa using hp
   subst hid
   obtain ⟨GA,gn,gc,hgv,hgo,hgl,hgb2⟩:=hgx
   change xv=_ at hgv
   subst hgv
   have HGL:=Lib.hid (show gn=xg.length from hgl)
   have hgs:Sl wr 3 GA gn (xg.map Ao.cells):=Sl.Bd (f:=Ao.cells) (sz:=3) (fun _=>rfl) hgo hgl
   have HI:=Lib.hid hi
   have HAJ:=Lib.hid hAj
   have HJ:=Lib.hid (show Fsm.AU ({ s with deploys:=dL,AS:=A,nS:=n,cS:=ca,stable:=l }:Aa).data x0=some ⟨x0,x1,x2,x3,xg,x5,x6⟩ from HJ0)
   have HCJ:=Lib.hid (show ∀ j u,(#[.int .i64 x0,.int .i64 x1,.int .i64 x2,.int .i64 x3,.slice GA gn gc,.int .i64 x5,.bool x6]:Array Value).toList[j]? = some u→wr.cell? ⟨gj,oj+i*7+j,none⟩=some u from hcj)
   have HMJ:=Lib.hid (List.mem_of_getElem? hxi)
   clear hi hf hxi hi2 hAj hp hcj HJ0 hgl hgo
   have hd:Ext Nothing wr wr.drew:=(Ext.refl _ _).drew
   refine zS (S:=fun W'=>Ext Nothing wr W') (by kernel_rfl) ?_
   generalize wr.drew=Wd at hd ⊢
   refine zV 0 (.pointer (some ⟨b,0,none⟩)) rfl (by kernel_rfl) hd (fun _ _ _ h=>h) (fun W' hS'=>by go_simp) ?_
   refine zV 1 (.pointer (some ⟨b,0,none⟩)) rfl (by kernel_rfl) hd (fun _ _ _ h=>h) (fun W' hS'=>by go_simp) ?_
   refine zV 2 (.pointer (some ⟨b,0,none⟩)) rfl (by kernel_rfl) hd (fun _ _ _ h=>h) (fun W' hS'=>by go_simp) ?_
   refine zV 3 (.agg ({ s with deploys:=dL,AS:=A,nS:=n,cS:=ca,stable:=l }:Aa).arr) rfl (by kernel_rfl) hd (fun _ _ _ h=>h) (fun W' hS'=>by exact run_load_struct (sz:=9) (b:=b) (off:=0) rfl Aj (by go_simp) (fun j u hu=>hS'.c0 (hMr.at j u hu)) rfl) ?_
   refine zV 4 (.pointer (some ⟨g,t*4,none⟩)) rfl (by kernel_rfl) hd (fun _ _ _ h=>h) (fun W' hS'=>by go_simp) ?_
   refine zV 5 (.pointer (some ⟨g,t*4,none⟩)) rfl (by kernel_rfl) hd (fun _ _ _ h=>h) (fun W' hS'=>by go_simp) ?_
   refine zV 6 (.pointer (some ⟨g,t*4,none⟩)) rfl (by kernel_rfl) hd (fun _ _ _ h=>h) (fun W' hS'=>by go_simp) ?_
   refine zV 7 (.int .i64 x0) rfl (by kernel_rfl) hd (fun _ _ _ h=>h) (fun W' hS'=>by have q:=hS'.c0 f0;go_simp) ?_
   (try simp only [Act.put,zA,zB,zC,zD,zE,zF])
   refine zO 8 (by kernel_rfl) ?_
   refine Ai (f:=61) (args:=#[.agg ({ s with deploys:=dL,AS:=A,nS:=n,cS:=ca,stable:=l }:Aa).arr,.int .i64 x0]) rfl (by rfl) (by go_simp) ((Bu s.AJ s.nJ s.cJ s.jobs x0 Wd (hsj.Al hd) hnJ _ _ _ _ _ _ _ _ _ rfl).mono ?_)
   rintro e w1 ⟨rfl,hx1⟩
   (rw [HI.out])
   have hxc:=hd.tr hx1
   refine ⟨_,rfl,hxc,?_⟩
   (try simp only [Act.put,zA,zB,zC,zD,zE,zF])
   refine zV 9 (.int .i64 (i:Int)) rfl (by kernel_rfl) hxc (fun _ _ _ h=>h) (fun W' hS'=>by go_simp) ?_
   (try simp only [Act.put,zA,zB,zC,zD,zE,zF])
   refine wpAnyH_done (by kernel_rfl) ?_ _
   (try simp only [Act.put,zA,zB,zC,zD,zE,zF])
   clear hd hx1
   have hM1:=hMr.e0 hxc
   have f0:=hxc.c0 f0
   have f1:=hxc.c0 f1
   have f2:=hxc.c0 f2
   have m7:=hxc.c0 m7
   have hx1:=hx.m0 hxc
   have m2:w1.cell? ⟨b,2,none⟩=some (.slice (some ⟨gj,oj,none⟩) s.nJ s.cJ):=by rw [← HAJ.out];exact hM1.blk.cell 2
   have j5:w1.cell? ⟨gj,oj+i*7+5,none⟩=some (.int .i64 x5):=hxc.c0 (HCJ.out 5 _ rfl)
   go_upto_region 5 with (first|go_skip|go_guarded)
   cases e1:(y2 != 1) with
   | true =>
    go_quiet (fail)
    have hdq:=(Ext.refl Nothing w1).drewN nq
    generalize w1.drewN nq=w2 at hdq ⊢
    have hs1:=Lib.hid (HS.out.trans (Ki (s:=({ s with deploys:=dL,AS:=A,nS:=n,cS:=ca,stable:=l }:Aa).data) HY.out HJ.out (by rw [show (y2 == 1)=false from by simpa using e1];rfl)))
    go_wp2_with (first|go_skip|go_guarded)
    go_roundw
    case rel=>exact ⟨t+1,HT.out,by go_num,dL,A,n,ca,l,HLA.out,hM1.e0 hdq,hs1.out.symm,by have:=HL.out;omega,hW,hx1.m0 hdq⟩
    case measure=>have:=HT.out;simp [intOf];omega
   | false =>
    cases e2:(x5 != y1) with
    | true =>
     go_quiet (fail)
     have hdq:=(Ext.refl Nothing w1).drewN nq
     generalize w1.drewN nq=w2 at hdq ⊢
     have hs1:=Lib.hid (HS.out.trans (Ki (s:=({ s with deploys:=dL,AS:=A,nS:=n,cS:=ca,stable:=l }:Aa).data) HY.out HJ.out (by rw [show (x5 == y1)=false from by simpa using e2,Bool.and_false];rfl)))
     go_wp2_with (first|go_skip|go_guarded)
     go_roundw
     case rel=>exact ⟨t+1,HT.out,by go_num,dL,A,n,ca,l,HLA.out,hM1.e0 hdq,hs1.out.symm,by have:=HL.out;omega,hW,hx1.m0 hdq⟩
     case measure=>have:=HT.out;simp [intOf];omega
    | false =>
     go_quiet (fail)
     have hdq:=(Ext.refl Nothing w1).drewN nq
     generalize w1.drewN nq=w2 at hdq ⊢
     have hM2:=hM1.e0 hdq
     have f0:=hdq.c0 f0
     have f2:=hdq.c0 f2
     have m7:=hdq.c0 m7
     have m2:=hdq.c0 m2
     have hx2:=hx1.m0 hdq
     have hxr2:=hxc.tr hdq
     clear f1 j5 hxc
     generalize hsn:Dr ({ s with deploys:=dL,AS:=A,nS:=n,cS:=ca,stable:=l }:Aa).data x0=sn
     obtain ⟨n1,n2⟩:=sn
     have HSN:=Lib.hid hsn
     clear hsn
     have hal:(n1 == n2)=Fsm.EM ({ s with deploys:=dL,AS:=A,nS:=n,cS:=ca,stable:=l }:Aa).data ⟨x0,x1,x2,x3,xg,x5,x6⟩:=by have h9:=Ms HJ.out;rw [HSN.out] at h9;exact h9
     have HAL:=Lib.hid hal
     clear hal
     go_upto_region 6 with (first|go_skip|go_guarded)
     have hd:Ext Nothing w2 w2.drew:=(Ext.refl _ _).drew
     refine zS (S:=fun W'=>Ext Nothing w2 W') (by kernel_rfl) ?_
     generalize w2.drew=Wd at hd ⊢
     refine zV 0 (.pointer (some ⟨b,0,none⟩)) rfl (by kernel_rfl) hd (fun _ _ _ h=>h) (fun W' hS'=>by go_simp) ?_
     refine zV 1 (.pointer (some ⟨b,0,none⟩)) rfl (by kernel_rfl) hd (fun _ _ _ h=>h) (fun W' hS'=>by go_simp) ?_
     refine zV 2 (.pointer (some ⟨b,0,none⟩)) rfl (by kernel_rfl) hd (fun _ _ _ h=>h) (fun W' hS'=>by go_simp) ?_
     refine zV 3 (.agg ({ s with deploys:=dL,AS:=A,nS:=n,cS:=ca,stable:=l }:Aa).arr) rfl (by kernel_rfl) hd (fun _ _ _ h=>h) (fun W' hS'=>by exact run_load_struct (sz:=9) (b:=b) (off:=0) rfl Aj (by go_simp) (fun j u hu=>hS'.c0 (hM2.at j u hu)) rfl) ?_
     refine zV 4 (.pointer (some ⟨g,t*4,none⟩)) rfl (by kernel_rfl) hd (fun _ _ _ h=>h) (fun W' hS'=>by go_simp) ?_
     refine zV 5 (.pointer (some ⟨g,t*4,none⟩)) rfl (by kernel_rfl) hd (fun _ _ _ h=>h) (fun W' hS'=>by go_simp) ?_
     refine zV 6 (.pointer (some ⟨g,t*4,none⟩)) rfl (by kernel_rfl) hd (fun _ _ _ h=>h) (fun W' hS'=>by go_simp) ?_
     refine zV 7 (.int .i64 x0) rfl (by kernel_rfl) hd (fun _ _ _ h=>h) (fun W' hS'=>by have q:=hS'.c0 f0;go_simp) ?_
     (try simp only [Act.put,zA,zB,zC,zD,zE,zF])
     refine zO 8 (by kernel_rfl) ?_
     refine Ai (f:=99) (args:=#[.agg ({ s with deploys:=dL,AS:=A,nS:=n,cS:=ca,stable:=l }:Aa).arr,.int .i64 x0]) rfl (by rfl) (by go_simp) ((QL base ({ s with deploys:=dL,AS:=A,nS:=n,cS:=ca,stable:=l }:Aa) x0 Wd (hM2.own.AP hd) (by show s.jobs.length≤_;omega) (by show s.allocs.length≤_;omega)).mono ?_)
     rintro e w3 ⟨rfl,hx1⟩
     (rw [HSN.out])
     have hxc:=hd.tr hx1
     refine ⟨_,rfl,hxc,?_⟩
     (try simp only [Act.put,zA,zB,zC,zD,zE,zF])
     refine zV 9 (.tuple #[.int .i64 (n1:Nat),.int .i64 (n2:Nat)]) rfl (by kernel_rfl) hxc (fun _ _ _ h=>h) (fun W' hS'=>by go_simp) ?_
     refine zV 10 (.int .i64 (n1:Nat)) rfl (by kernel_rfl) hxc (fun _ _ _ h=>h) (fun W' hS'=>by go_simp) ?_
     refine zV 11 (.int .i64 (n2:Nat)) rfl (by kernel_rfl) hxc (fun _ _ _ h=>h) (fun W' hS'=>by go_simp) ?_
     refine zV 12 (.int .i64 (n1:Nat)) rfl (by kernel_rfl) hxc (fun _ _ _ h=>h) (fun W' hS'=>by go_simp) ?_
     refine zV 13 (.int .i64 (n2:Nat)) rfl (by kernel_rfl) hxc (fun _ _ _ h=>h) (fun W' hS'=>by go_simp) ?_
     (try simp only [Act.put,zA,zB,zC,zD,zE,zF])
     refine wpAnyH_done (by kernel_rfl) ?_ _
     (try simp only [Act.put,zA,zB,zC,zD,zE,zF])
     clear hd hx1
     have hM3:=hM2.e0 hxc
     have f2:=hxc.c0 f2
     have m2:=hxc.c0 m2
     have hx3:=hx2.m0 hxc
     have hxr3:=hxr2.tr hxc
     by_cases hn:n1=n2
     ·have HALL:=Lib.hid (show Fsm.EM ({ s with deploys:=dL,AS:=A,nS:=n,cS:=ca,stable:=l }:Aa).data ⟨x0,x1,x2,x3,xg,x5,x6⟩=true by rw [← HAL.out];simpa using hn)
      obtain rfl:n1=n2:=hn
      have hs1:=Lib.hid (HS.out.trans (O0 (s:=({ s with deploys:=dL,AS:=A,nS:=n,cS:=ca,stable:=l }:Aa).data) HY.out HJ.out (by rw [show (y2 == 1)=true from by simpa using e1,show (x5 == y1)=true from by simpa using e2,HALL.out];rfl)))
      go_upto_region 8 with (first|go_skip|go_guarded)
      have f2f:w3.frozen? ⟨g,t*4+2,none⟩=false:=((hgb.e0 hxr3).frozen _)
      obtain ⟨g2,cur2,hAe2,hob2,hgb2x,_,hce2,hput2⟩:=hM3.own.Js HY.out
      have hgg:g2=g:=by have h7:s.AD=some ⟨g2,0,none⟩:=hAe2;rw [HA.out] at h7;injection h7 with h7;injection h7 with h7;exact h7.symm
      subst hgg
      clear hAe2
      have hs5:Ext (fun q=>q=g2) w3 (w3.setCell ⟨g2,t*4+2,none⟩ (.int .i64 2)):=Ext.set1 _ _ _ _
      have hO4:Aw base (w3.setCell ⟨g2,t*4+2,none⟩ (.int .i64 2)) ({ s with deploys:=dL.set t ⟨x0,y1,2,y3⟩,AS:=A,nS:=n,cS:=ca,stable:=l }:Aa):=hput2 2 _ ⟨x0,y1,2,y3⟩ (by decide) rfl
      have hgb3:¬ (b=g2):=fun e=>Blk.ne hM3.blk hgb2x (by decide) e
      have hM4:Az base (w3.setCell ⟨g2,t*4+2,none⟩ (.int .i64 2)) b ({ s with deploys:=dL.set t ⟨x0,y1,2,y3⟩,AS:=A,nS:=n,cS:=ca,stable:=l }:Aa) cm:=⟨hM3.blk.ext hs5 hgb3,hO4,hM3.lo⟩
      have hx4:Step w (w3.setCell ⟨g2,t*4+2,none⟩ (.int .i64 2)) b s ({ s with deploys:=dL.set t ⟨x0,y1,2,y3⟩,AS:=A,nS:=n,cS:=ca,stable:=l }:Aa):=hx3.cell (s2:=({ s with deploys:=dL.set t ⟨x0,y1,2,y3⟩,AS:=A,nS:=n,cS:=ca,stable:=l }:Aa)) (MW.oD (s:=({ s with deploys:=dL,AS:=A,nS:=n,cS:=ca,stable:=l }:Aa)) hob2) (fun q hq=>hq) _
      obtain ⟨csj,hBj⟩:=CY hM3.own.j.own (show (Value.slice s.AJ s.nJ s.cJ).ownBlock=some gj by rw [HAJ.out];rfl)
      have hgj:¬ (gj=g2):=Blk.ne hBj hgb2x (by decide)
      have hcj4:∀ j u,(#[.int .i64 x0,.int .i64 x1,.int .i64 x2,.int .i64 x3,.slice GA gn gc,.int .i64 x5,.bool x6]:Array Value).toList[j]? = some u→(w3.setCell ⟨g2,t*4+2,none⟩ (.int .i64 2)).cell? ⟨gj,oj+i*7+j,none⟩=some u:=fun j u hu=>hs5.cell (hxr3.c0 (HCJ.out j u hu)) hgj
      have m2:(w3.setCell ⟨g2,t*4+2,none⟩ (.int .i64 2)).cell? ⟨b,2,none⟩=some (.slice (some ⟨gj,oj,none⟩) s.nJ s.cJ):=hs5.cell m2 hgb3
      have hgs4:Sl (w3.setCell ⟨g2,t*4+2,none⟩ (.int .i64 2)) 3 GA gn (xg.map Ao.cells):=by obtain ⟨A9,n9,c9,hv9,ho9,hl9,_⟩:=hO4.j.grp (⟨x0,x1,x2,x3,xg,x5,x6⟩,.slice GA gn gc) (HMJ.out);injection hv9 with q1 q2 q3;subst q1 q2 q3;exact Sl.Bd (f:=Ao.cells) (sz:=3) (fun _=>rfl) ho9 hl9
      have hW4:Fsm.Wf ({ s with deploys:=dL.set t ⟨x0,y1,2,y3⟩,AS:=A,nS:=n,cS:=ca,stable:=l }:Aa).data:=⟨hW.j,hW.t,hW.n,hW.e,Fsm.Up.eq hW.d (Fsm.Kr HY.out rfl),hW.x,hW.es,hW.jc,hW.tc⟩
      go_upto_region 9 with (first|go_skip|go_guarded)
      generalize (w3.setCell ⟨g2,t*4+2,none⟩ (.int .i64 2))=w4 at hs5 hO4 hM4 hx4 hcj4 m2 hgs4 ⊢
      go_upto_region 10 with (first|go_skip|go_guarded|((with_reducible refine isW ?_);refine Ad rfl 39 _ rfl STJob gj (oj+i*7) rfl #[.int .i64 x0,.int .i64 x1,.int .i64 x2,.int .i64 x3,.slice GA gn gc,.int .i64 x5,.bool x6] hcj4 rfl ?_))
      have hxa:Ext Nothing w4 (w4.alloc (.cells #[.int .i64 x0,.int .i64 x1,.int .i64 x2,.int .i64 x3,.slice GA gn gc,.int .i64 x5,.bool x6] 39)):=Ext.Ay
      have hBx:Blk (w4.alloc (.cells #[.int .i64 x0,.int .i64 x1,.int .i64 x2,.int .i64 x3,.slice GA gn gc,.int .i64 x5,.bool x6] 39)) w4.heap.size 39 #[.int .i64 x0,.int .i64 x1,.int .i64 x2,.int .i64 x3,.slice GA gn gc,.int .i64 x5,.bool x6]:=Blk.new _ _ _
      have hz4:=hx4.size
      have hxaz:=hxa.size
      generalize hQ:w4.heap.size=QQ at hBx hxaz ⊢
      have HQQ:=Lib.hid hQ
      clear hQ
      generalize (w4.alloc (.cells #[.int .i64 x0,.int .i64 x1,.int .i64 x2,.int .i64 x3,.slice GA gn gc,.int .i64 x5,.bool x6] 39))=w5 at hxa hBx hxaz ⊢
      have hM5:=hM4.e0 hxa
      have k4:w5.cell? ⟨QQ,4,none⟩=some (.slice GA gn gc):=hBx.cell 4
      go_upto_region 11 with (first|go_skip|go_guarded|(go_at_call 84;(with_reducible refine (FM GA gn gc xg w5 (hgs4.Al hxa) (by omega)).mono ?_);rintro e w6 ⟨v',rfl,hog,hx6⟩;obtain ⟨GA2,gc2,rfl⟩:=Bn hog;have hBx6:=hBx.e0 hx6;have k4:w6.cell? ⟨QQ,4,none⟩=some (.slice GA gn gc):=hBx6.cell 4;have k4f:w6.frozen? ⟨QQ,4,none⟩=false:=hBx6.frozen 4))
      have hx7:Ext Nothing w4 (w6.setCell ⟨QQ,4,none⟩ (.slice GA2 xg.length gc2)):=(hxa.tr hx6).setCell (p:=⟨QQ,4,none⟩) (.inl (by have:=HQQ.out;show w4.heap.size≤QQ;omega)) _
      have hs7:Ext (fun q=>q=QQ) w6 (w6.setCell ⟨QQ,4,none⟩ (.slice GA2 xg.length gc2)):=Ext.set1 _ _ _ _
      have hBx7:Blk (w6.setCell ⟨QQ,4,none⟩ (.slice GA2 xg.length gc2)) QQ 39 #[.int .i64 x0,.int .i64 x1,.int .i64 x2,.int .i64 x3,.slice GA2 xg.length gc2,.int .i64 x5,.bool x6]:=hBx6.Bi 4 _
      have hM7:=hM4.e0 hx7
      have hog7:=Am hog hs7 (fun g hg e=>own_ne hog hBx6 (by decide) (by rw [← show g=QQ from e];exact hg))
      have hz7:=hx7.size
      have hz5:w4.heap.size≤w5.heap.size:=hxa.size
      generalize (w6.setCell ⟨QQ,4,none⟩ (.slice GA2 xg.length gc2))=w7 at hx7 hBx7 hM7 hog7 hz7 ⊢
      clear hs7 hBx hBx6 hog hM5 k4 k4f hx6
      have hln:=Lib.hid (show n=l.length from hM4.own.tl)
      have hoe:w7.ownsRow base 39 7 (.slice A l.length ca) l.length (l.flatMap JobV.cells):=by have h9:=hM7.own.t.own;change w7.ownsRow base _ 7 (.slice A n ca) _ _ at h9;rw [hln.out] at h9;exact h9
      have hrl:∀ q,(Value.slice A l.length ca).ownBlock=some q→q < w4.heap.size:=fun q hq=>CB hM4.own.t.own (by rw [← hq];exact CF)
      have hbq:=hM4.blk.lt
      have hd:Ext Nothing w7 w7.drew:=(Ext.refl _ _).drew
      refine zS (S:=fun W'=>Ext (fun q=>q=b ∨ (Value.slice A l.length ca).ownBlock=some q) w7 W') (by kernel_rfl) ?_
      have hS:=hd.any (S:=fun q=>q=b ∨ (Value.slice A l.length ca).ownBlock=some q)
      generalize w7.drew=W at hd hS ⊢
      have hMW:=hM7.e0 hd
      have hoW:=Am hoe hd (fun _ _ e=>e)
      have hdw:=hd.size
      refine zV 0 (.pointer (some ⟨b,0,none⟩)) rfl (by kernel_rfl) hS (fun _ _ _ h=>h) (fun W' hS'=>by go_simp) ?_
      refine zV 1 (.pointer (some ⟨b,0,none⟩)) rfl (by kernel_rfl) hS (fun _ _ _ h=>h) (fun W' hS'=>by go_simp) ?_
      refine zV 2 (.pointer (some ⟨b,0,none⟩)) rfl (by kernel_rfl) hS (fun _ _ _ h=>h) (fun W' hS'=>by go_simp) ?_
      refine zV 3 (.pointer (some ⟨b,0,none⟩)) rfl (by kernel_rfl) hS (fun _ _ _ h=>h) (fun W' hS'=>by go_simp) ?_
      refine zV 4 (.pointer (some ⟨b,3,none⟩)) rfl (by kernel_rfl) hS (fun _ _ _ h=>h) (fun W' hS'=>by go_simp) ?_
      refine zV 6 (.agg #[.int .i64 x0,.int .i64 x1,.int .i64 x2,.int .i64 x3,.slice GA2 xg.length gc2,.int .i64 x5,.bool x6]) rfl (by kernel_rfl) hS (fun _ _ _ h=>h) (fun W' hS'=>by exact AB rfl STJob (by go_simp) (hBx7.ext hS' (fun e=>e.elim (fun e=>by have:=HQQ.out;omega) (fun e=>by have:=hrl _ e;have:=HQQ.out;omega))) rfl) ?_
      (try simp only [Act.put,zA,zB,zC,zD,zE,zF])
      refine zO 5 (by kernel_rfl) ?_
      refine wpOp_val (v:=.slice A l.length ca) (w':=W) rfl (by rfl) (by rw [← hln.out];have q6:=hMW.blk.cell 3;go_simp) ⟨hS,?_⟩
      (try simp only [Act.put,zA,zB,zC,zD,zE,zF])
      refine zO 7 (by kernel_rfl) ?_
      refine Ai (f:=89) (args:=#[.slice A l.length ca,.agg #[.int .i64 x0,.int .i64 x1,.int .i64 x2,.int .i64 x3,.slice GA2 xg.length gc2,.int .i64 x5,.bool x6],.func (.func 100) #[] #[]]) rfl (by rfl) (by go_simp) ((PK base A ca l ((⟨x0,x1,x2,x3,xg,x5,x6⟩,.slice GA2 xg.length gc2):JobV) (fun z hz=>(List.mem_cons.1 hz).elim (fun e=>by rw [e];rfl) (fun hz=>by obtain ⟨_,_,_,hv,_⟩:=hMW.own.t.grp z hz;rw [hv];rfl)) W hoW (by omega) (by have:=HL.out;have:=HT.out;omega) (OE hW4.t)).mono ?_)
      rintro e w3 ⟨A',c',rfl,ho3,hq3,hx3⟩
      have hog3:=Am (Am hog7 hd (fun _ _ e=>e)) hx3 (fun g hg e=>by obtain ⟨csg,hBg⟩:=CY (Am hog7 hd (fun _ _ e=>e)) hg;exact own_ne hoW hBg (by decide) e)
      have hgrp:∀ y∈(Fsm.Ak (fun y:JobV=>y.1.id) ((⟨x0,x1,x2,x3,xg,x5,x6⟩,.slice GA2 xg.length gc2):JobV) l),Cq base w3 y:=Fsm.DK (P:=Cq base w3) (fun y hy=>(hMW.own.t.grp y hy).keep hx3 (Apart.row hoW (by decide))) (Cq.new (j:=⟨x0,x1,x2,x3,xg,x5,x6⟩) hog3 rfl (by have:=HGL.out;omega) (by omega))
      have hnb:¬ ((Value.slice A l.length ca).ownBlock=some b):=fun e=>own_ne hoW hMW.blk (by decide) e
      have hS3:=hS.trans hx3 (fun q hq e=>.inr e)
      refine ⟨_,rfl,hS3,?_⟩
      (try simp only [Act.put,zA,zB,zC,zD,zE,zF])
      refine zV 8 (.pointer (some ⟨b,0,none⟩)) rfl (by kernel_rfl) hS3 (fun _ _ _ h=>h) (fun W' hS'=>by go_simp) ?_
      refine zV 9 (.pointer (some ⟨b,0,none⟩)) rfl (by kernel_rfl) hS3 (fun _ _ _ h=>h) (fun W' hS'=>by go_simp) ?_
      refine zV 10 (.pointer (some ⟨b,3,none⟩)) rfl (by kernel_rfl) hS3 (fun _ _ _ h=>h) (fun W' hS'=>by go_simp) ?_
      (try simp only [Act.put,zA,zB,zC,zD,zE,zF])
      refine zO 11 (by kernel_rfl) ?_
      have hB3:=hMW.blk.ext hx3 hnb
      have m6:w3.cell? ⟨b,3,none⟩=some (.slice A n ca):=hB3.cell 3
      have m6f:w3.frozen? ⟨b,3,none⟩=false:=hB3.frozen 3
      have hs6:Ext (fun q=>q=b) w3 (w3.setCell ⟨b,3,none⟩ (.slice A' ((Fsm.Ak (fun y:JobV=>y.1.id) ((⟨x0,x1,x2,x3,xg,x5,x6⟩,.slice GA2 xg.length gc2):JobV) l)).length c')):=Ext.set1 _ _ _ _
      refine AC (w':=w3.setCell ⟨b,3,none⟩ (.slice A' ((Fsm.Ak (fun y:JobV=>y.1.id) ((⟨x0,x1,x2,x3,xg,x5,x6⟩,.slice GA2 xg.length gc2):JobV) l)).length c')) rfl (by rfl) (by go_simp) ⟨hS3.trans hs6 (fun q hq e=>.inl e),?_⟩
      (try simp only [Act.put,zA,zB,zC,zD,zE,zF])
      refine wpAnyH_done (by kernel_rfl) ?_ _
      (try simp only [Act.put,zA,zB,zC,zD,zE,zF])
      have hO3:Aw base w3 (({ s with deploys:=dL.set t ⟨x0,y1,2,y3⟩,AS:=A,nS:=n,cS:=ca,stable:=l }:Aa).Mq A' c' (Fsm.Ak (fun y:JobV=>y.1.id) ((⟨x0,x1,x2,x3,xg,x5,x6⟩,.slice GA2 xg.length gc2):JobV) l)):=hMW.own.pT hx3 ho3 hq3 hgrp
      have hM5:Az base (w3.setCell ⟨b,3,none⟩ (.slice A' ((Fsm.Ak (fun y:JobV=>y.1.id) ((⟨x0,x1,x2,x3,xg,x5,x6⟩,.slice GA2 xg.length gc2):JobV) l)).length c')) b (({ s with deploys:=dL.set t ⟨x0,y1,2,y3⟩,AS:=A,nS:=n,cS:=ca,stable:=l }:Aa).Mq A' c' (Fsm.Ak (fun y:JobV=>y.1.id) ((⟨x0,x1,x2,x3,xg,x5,x6⟩,.slice GA2 xg.length gc2):JobV) l)) cm:=⟨hB3.Bi 3 _,hO3.keep hs6 (Apart.one hB3 (by decide)),hMW.lo⟩
      have hx5:Step w7 (w3.setCell ⟨b,3,none⟩ (.slice A' ((Fsm.Ak (fun y:JobV=>y.1.id) ((⟨x0,x1,x2,x3,xg,x5,x6⟩,.slice GA2 xg.length gc2):JobV) l)).length c')) b ({ s with deploys:=dL.set t ⟨x0,y1,2,y3⟩,AS:=A,nS:=n,cS:=ca,stable:=l }:Aa) (({ s with deploys:=dL.set t ⟨x0,y1,2,y3⟩,AS:=A,nS:=n,cS:=ca,stable:=l }:Aa).Mq A' c' (Fsm.Ak (fun y:JobV=>y.1.id) ((⟨x0,x1,x2,x3,xg,x5,x6⟩,.slice GA2 xg.length gc2):JobV) l)):=((Step.of0 hd).put hx3 (fun q hq=>MW.oS (s:=({ s with deploys:=dL.set t ⟨x0,y1,2,y3⟩,AS:=A,nS:=n,cS:=ca,stable:=l }:Aa)) hq) (MW.Rx (s:=({ s with deploys:=dL.set t ⟨x0,y1,2,y3⟩,AS:=A,nS:=n,cS:=ca,stable:=l }:Aa)) hq3)).cell (.inl rfl) (fun q hq=>hq) _
      clear hO3 hs6 m6 m6f hB3 hS3 hS
      generalize (w3.setCell ⟨b,3,none⟩ (.slice A' ((Fsm.Ak (fun y:JobV=>y.1.id) ((⟨x0,x1,x2,x3,xg,x5,x6⟩,.slice GA2 xg.length gc2):JobV) l)).length c'))=w5 at hM5 hx5 ⊢
      have hdat:(({ s with deploys:=dL.set t ⟨x0,y1,2,y3⟩,AS:=A,nS:=n,cS:=ca,stable:=l }:Aa).Mq A' c' (Fsm.Ak (fun y:JobV=>y.1.id) ((⟨x0,x1,x2,x3,xg,x5,x6⟩,.slice GA2 xg.length gc2):JobV) l)).data=(List.range (t+1)).foldl Fsm.AF s.data:=(congrArg (fun z=>({ ({ s with deploys:=dL.set t ⟨x0,y1,2,y3⟩,AS:=A,nS:=n,cS:=ca,stable:=l }:Aa).data with stable:=z }:Ab)) (Jb ((⟨x0,x1,x2,x3,xg,x5,x6⟩,.slice GA2 xg.length gc2):JobV) l)).trans hs1.out.symm
      have HDAT:=Lib.hid hdat
      have hW9:Fsm.Wf (({ s with deploys:=dL.set t ⟨x0,y1,2,y3⟩,AS:=A,nS:=n,cS:=ca,stable:=l }:Aa).Mq A' c' (Fsm.Ak (fun y:JobV=>y.1.id) ((⟨x0,x1,x2,x3,xg,x5,x6⟩,.slice GA2 xg.length gc2):JobV) l)).data:=by rw [hdat,HS.out];exact Fsm.MS hW t
      clear hdat
      have hlen:(Fsm.Ak (fun y:JobV=>y.1.id) ((⟨x0,x1,x2,x3,xg,x5,x6⟩,.slice GA2 xg.length gc2):JobV) l).length≤l.length+1:=Fsm.Cr _
      go_wp2
      go_roundw
      case rel=>exact ⟨t+1,HT.out,by go_num,dL.set t ⟨x0,y1,2,y3⟩,A',_,c',(Fsm.Ak (fun y:JobV=>y.1.id) ((⟨x0,x1,x2,x3,xg,x5,x6⟩,.slice GA2 xg.length gc2):JobV) l),by rw [List.length_set];exact HLA.out,hM5,HDAT.out,by have:=HL.out;omega,hW9,(hx4.m0 hx7).trans hx5⟩
      case measure=>have:=HT.out;simp [intOf];omega
     have z1:((n1:Int) == (n2:Int))=false:=by simp;omega
     have z2:¬ ((n1:Int)=n2):=by omega
     have hs1:=Lib.hid (HS.out.trans (Ki (s:=({ s with deploys:=dL,AS:=A,nS:=n,cS:=ca,stable:=l }:Aa).data) HY.out HJ.out (by rw [show Fsm.EM ({ s with deploys:=dL,AS:=A,nS:=n,cS:=ca,stable:=l }:Aa).data ⟨x0,x1,x2,x3,xg,x5,x6⟩=false by rw [← HAL.out];simpa using hn,Bool.and_false])))
     go_wp2_with (first|go_skip|go_guarded)
     go_roundw
     case rel=>exact ⟨t+1,HT.out,by go_num,dL,A,n,ca,l,HLA.out,hM3,hs1.out.symm,by have:=HL.out;omega,hW,hx3⟩
     case measure=>have:=HT.out;simp [intOf];omega
  have hnl2:¬ ((t:Int) < s.nD):=by omega
  have HS:=Lib.hid (show ({ s with deploys:=dL,AS:=A,nS:=n,cS:=ca,stable:=l }:Aa).data=Fsm.looked s.data by rw [hD];unfold Fsm.looked;rw [show s.data.deploys.length=t from by have:=hdl.out;show s.deploys.length=t;omega])
  clear hD
  go_wp2
  go_end0
  exact ⟨rfl,dL,A,n,ca,l,hMr,HS.out,by rw [hla];exact hdl.out,by have:=hdl.out;omega,hx⟩
end Go.Proofs.YtccekmeifanipaaGreat
