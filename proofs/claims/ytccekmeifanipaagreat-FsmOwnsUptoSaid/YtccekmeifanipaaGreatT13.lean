/- Parts of the proof: MSys MPutNode RefDown BeatF RefDrain RefBeat RefRevert PlaceF RefPlaces RefPlan RefApply -/
import Derived.Test.YtccekmeifanipaaGreatT11
import Derived.Test.YtccekmeifanipaaGreatT12
import Derived.Test.YtccekmeifanipaaGreatT10
import Derived.Test.YtccekmeifanipaaGreatT04
import Derived.Test.YtccekmeifanipaaGreatT09
import Derived.Test.YtccekmeifanipaaGreatT08
import Derived.Deep.CutRange
import Derived.Deep.Quiet
import Derived.Test.YtccekmeifanipaaGreatT01
import Derived.StillTailTactics
import Derived.Test.YtccekmeifanipaaGreatT07
namespace Go.Proofs.YtccekmeifanipaaGreat
set_option linter.unusedVariables false
set_option linter.unusedSimpArgs false
set_option linter.unusedSectionVars false
section
open Go.RowKit
set_option maxRecDepth 20000 in
set_option maxHeartbeats 4000000 in
theorem Hu (base b:Nat) (s:Aa) (cm:Bool) (w:World) (hM:Az base w b s cm) (hb:base≤w.heap.size) (hJ:s.jobs.length≤1048576) (hE:s.evals.length≤33554432) (hw:Fsm.Wf s.data) :
  Calls Tryz.prog 70 #[.pointer (some ⟨b,0,none⟩)] w fun e w'=>∃ A c l,e=.returned (.tuple #[])∧Az base w' b (s.Bf A c l) cm∧(s.Bf A c l).data=Fsm.system s.data∧l.length≤s.evals.length+s.jobs.length∧Step w w' b s (s.Bf A c l):=by
 have hnl:=Lib.hid hM.own.jl
 have hnJ:s.nJ≤1048576:=by have:=hM.own.jl;omega
 have m2:w.cell? ⟨b,2,none⟩=some (.slice s.AJ s.nJ s.cJ):=hM.blk.cell 2
 go_enter Tryz.func70,Tryz.ntmps70
 go_wp2
 clear m2
 go_loopw [10] (fun i wr=>∃ t:Nat,t≤s.nJ∧i=.int .i64 t∧∃ A ca l,Az base wr b (s.Bf A ca l) cm∧(s.Bf A ca l).data=((s.jobs.map (·.1)).take t).foldl CX s.data∧l.length≤s.evals.length+t∧Fsm.Wf (s.Bf A ca l).data∧Step w wr b s (s.Bf A ca l)) (fun i _=>s.nJ - (intOf i).toNat)
 case atStart=>exact ⟨0,Nat.zero_le _,rfl,s.AE,s.cE,s.evals,by rw [Cc hM.own.el];exact hM,by rw [Cc hM.own.el];rfl,Nat.le_refl _,by rw [Cc hM.own.el];exact hw,by rw [Cc hM.own.el];exact Step.refl _ _ _⟩
 case round =>
  obtain ⟨t,ht,rfl,A,ca,l,hMr,hD,hL,hW,hx⟩:=hrel
  by_cases hlt:t < s.nJ
  ·have hzr:=hx.size
   obtain ⟨hjn,g,off,hAe,hce⟩:=hMr.own.slJ.get (Ext.refl Nothing wr) (k:=t) hlt
   change s.AJ=_ at hAe
   rw [hAe]
   replace hjn:t < s.jobs.length:=hjn
   have hS:=Lib.hid (show ((s.jobs.map (·.1)).take (t+1)).foldl CX s.data=CX (((s.jobs.map (·.1)).take t).foldl CX s.data) (s.jobs[t]'hjn).1 by rw [List.take_add_one,List.foldl_append,List.getElem?_map,List.getElem?_eq_getElem hjn];rfl)
   change ∀ j u,(JobV.cells (s.jobs[t]'hjn))[j]? = some u→_ at hce
   have hgx:=hMr.own.j.grp (s.jobs[t]'hjn) (List.getElem_mem hjn)
   generalize (s.jobs[t]'hjn)=x at hS hce hgx
   obtain ⟨⟨x0,x1,x2,x3,xg,x5,x6⟩,xv⟩:=x
   obtain ⟨GA,gn,gc,hgv,hgq⟩:=hgx
   clear hgq
   change xv=_ at hgv
   subst hgv
   have hk0:(0:Int)≤(t:Int):=by omega
   have hk1:(t:Int) < s.nJ:=by omega
   have HD:=Lib.hid hD
   have HT:=Lib.hid hlt
   have HL:=Lib.hid hL
   clear hD hlt hAe
   have hxa:Ext Nothing wr (wr.alloc (.cells #[.int .i64 x0,.int .i64 x1,.int .i64 x2,.int .i64 x3,.slice GA gn gc,.int .i64 x5,.bool x6] 39)):=Ext.Ay
   have hBx:Blk (wr.alloc (.cells #[.int .i64 x0,.int .i64 x1,.int .i64 x2,.int .i64 x3,.slice GA gn gc,.int .i64 x5,.bool x6] 39)) wr.heap.size 39 #[.int .i64 x0,.int .i64 x1,.int .i64 x2,.int .i64 x3,.slice GA gn gc,.int .i64 x5,.bool x6]:=Blk.new _ _ _
   have hMd:=hMr.e0 hxa
   cases e1:(x1 == 3) with
   | false =>
    have hs1:=Lib.hid (show ((s.jobs.map (·.1)).take (t+1)).foldl CX s.data=(s.Bf A ca l).data by rw [hS.out,← HD.out];exact (by unfold CX;simp only [e1];rfl))
    go_wp2_with (first|go_skip|go_guarded|((with_reducible refine isW ?_);refine Ad rfl 39 _ rfl STJob g (off+t*7) rfl #[.int .i64 x0,.int .i64 x1,.int .i64 x2,.int .i64 x3,.slice GA gn gc,.int .i64 x5,.bool x6] hce rfl ?_))
    go_roundw
    case rel=>exact ⟨t+1,HT.out,by go_num,A,ca,l,hMd,hs1.out.symm,by have:=HL.out;omega,hW,hx.m0 hxa⟩
    case measure=>have:=HT.out;simp [intOf];omega
   | true =>
    cases x6 with
    | true =>
     have hs1:=Lib.hid (show ((s.jobs.map (·.1)).take (t+1)).foldl CX s.data=(s.Bf A ca l).data by rw [hS.out,← HD.out];exact (by unfold CX;simp only [e1];rfl))
     go_wp2_with (first|go_skip|go_guarded|((with_reducible refine isW ?_);refine Ad rfl 39 _ rfl STJob g (off+t*7) rfl #[.int .i64 x0,.int .i64 x1,.int .i64 x2,.int .i64 x3,.slice GA gn gc,.int .i64 x5,.bool true] hce rfl ?_))
     go_roundw
     case rel=>exact ⟨t+1,HT.out,by go_num,A,ca,l,hMd,hs1.out.symm,by have:=HL.out;omega,hW,hx.m0 hxa⟩
     case measure=>have:=HT.out;simp [intOf];omega
    | false =>
     have hs1:=Lib.hid (show ((s.jobs.map (·.1)).take (t+1)).foldl CX s.data=Fsm.eval (s.Bf A ca l).data x0 by rw [hS.out,← HD.out];unfold CX;simp only [e1];rfl)
     have hbd:=hxa.size
     have hq1:(s.Bf A ca l).jobs.length≤67108864:=by show s.jobs.length≤_;omega
     have hq2:(s.Bf A ca l).evals.length≤67108862:=by show l.length≤_;have:=HL.out;have:=HT.out;have:=hnl.out;omega
     have hq3:Fsm.Up EvalD.job (s.Bf A ca l).evals:=hW.e
     have hq4:base≤(wr.alloc (.cells #[.int .i64 x0,.int .i64 x1,.int .i64 x2,.int .i64 x3,.slice GA gn gc,.int .i64 x5,.bool false] 39)).heap.size:=by omega
     go_wp2_with (first|go_skip|go_guarded|((with_reducible refine isW ?_);refine Ad rfl 39 _ rfl STJob g (off+t*7) rfl #[.int .i64 x0,.int .i64 x1,.int .i64 x2,.int .i64 x3,.slice GA gn gc,.int .i64 x5,.bool false] hce rfl ?_)|(go_at_call 64;(with_reducible refine (Ef base b (s.Bf A ca l) cm x0 (wr.alloc (.cells #[.int .i64 x0,.int .i64 x1,.int .i64 x2,.int .i64 x3,.slice GA gn gc,.int .i64 x5,.bool false] 39)) hMd hq4 hq1 hq2 hq3).mono ?_);rintro e w5 ⟨A2,c2,l2,rfl,hM5,hD5,hx5⟩))
     have hlen:l2.length≤l.length+1:=by
      have e3:l2.length=(Fsm.eval (s.Bf A ca l).data x0).evals.length:=congrArg (fun z:Ab=>z.evals.length) hD5
      have e4:=Fsm.Eg (s.Bf A ca l).data x0
      have e5:(s.Bf A ca l).data.evals.length=l.length:=rfl
      omega
     go_roundw
     case rel=>exact ⟨t+1,HT.out,by go_num,A2,c2,l2,hM5,hD5.trans hs1.out.symm,by have:=HL.out;omega,by have h9:=Fsm.Cx hW x0;rw [← hD5] at h9;exact h9,(hx.m0 hxa).trans hx5⟩
     case measure=>have:=HT.out;simp [intOf];omega
  have hnl2:¬ ((t:Int) < s.nJ):=by omega
  have HS:=Lib.hid (show (s.Bf A ca l).data=Fsm.system s.data by rw [hD,Oi,List.take_of_length_le (by rw [List.length_map];have:=hnl.out;omega)];rfl)
  clear hD
  go_wp2
  go_end0
  exact ⟨rfl,A,ca,l,hMr,HS.out,by have:=hnl.out;omega,hx⟩
set_option maxRecDepth 20000 in
set_option maxHeartbeats 4000000 in
theorem O6 (base b:Nat) (s:Aa) (cm:Bool) (node:Int) (w:World) (hM:Az base w b s cm) (hb:base≤w.heap.size) (hJ:s.jobs.length≤1048576) (hA:s.allocs.length≤1048576) (hE:s.evals.length≤33554432) (hw:Fsm.Wf s.data) :
  Calls Tryz.prog 69 #[.pointer (some ⟨b,0,none⟩),.int .i64 node] w fun e w'=>∃ aL A n c l,e=.returned (.tuple #[])∧Az base w' b ({ s with allocs:=aL,AE:=A,nE:=n,cE:=c,evals:=l }:Aa) cm∧({ s with allocs:=aL,AE:=A,nE:=n,cE:=c,evals:=l }:Aa).data=Fsm.lost s.data node∧aL.length=s.allocs.length∧l.length≤s.evals.length+s.allocs.length∧Step w w' b s ({ s with allocs:=aL,AE:=A,nE:=n,cE:=c,evals:=l }:Aa):=by
 have hnl:=Lib.hid hM.own.al
 have hnA:s.nA≤1048576:=by have:=hM.own.al;omega
 have m5:w.cell? ⟨b,5,none⟩=some (.slice s.AA s.nA s.cA):=hM.blk.cell 5
 go_enter Tryz.func69,Tryz.ntmps69
 go_wp2
 clear m5
 go_loopw [12] (fun i wr=>∃ t:Nat,t≤s.nA∧i=.int .i64 t∧∃ aL A n ca l,aL.length=s.nA∧Az base wr b ({ s with allocs:=aL,AE:=A,nE:=n,cE:=ca,evals:=l }:Aa) cm∧({ s with allocs:=aL,AE:=A,nE:=n,cE:=ca,evals:=l }:Aa).data=(List.range t).foldl (Fsm.AR node) s.data∧l.length≤s.evals.length+t∧Fsm.Wf ({ s with allocs:=aL,AE:=A,nE:=n,cE:=ca,evals:=l }:Aa).data∧Step w wr b s ({ s with allocs:=aL,AE:=A,nE:=n,cE:=ca,evals:=l }:Aa)) (fun i _=>s.nA - (intOf i).toNat)
 case atStart=>exact ⟨0,Nat.zero_le _,rfl,s.allocs,s.AE,s.nE,s.cE,s.evals,hM.own.al.symm,hM,rfl,Nat.le_refl _,hw,Step.refl _ _ _⟩
 case round =>
  obtain ⟨t,ht,rfl,aL,A,n,ca,l,hla,hMr,hD,hL,hW,hx⟩:=hrel
  by_cases hlt:t < s.nA
  ·have hzr:=hx.size
   have hyt:aL[t]? = some (aL[t]'(by omega)):=List.getElem?_eq_getElem (by omega)
   generalize (aL[t]'(by omega))=y at hyt
   obtain ⟨y0,y1,y2,y3,y4,y5,y6,⟨y7,y8⟩,y9,y10⟩:=y
   obtain ⟨g,cur,hAe,hob,hgb,hk1,hce,hput⟩:=hMr.own.LB hyt
   change s.AA=_ at hAe
   change (t:Int) < s.nA at hk1
   have hk0:(0:Int)≤(t:Int):=by omega
   have HD:=Lib.hid (Mw node s.data t)
   have HS:=Lib.hid (show (List.range (t+1)).foldl (Fsm.AR node) s.data=Fsm.AR node ({ s with allocs:=aL,AE:=A,nE:=n,cE:=ca,evals:=l }:Aa).data t by rw [hD];exact HD.out)
   have HY:=Lib.hid hyt
   have HT:=Lib.hid hlt
   have HL:=Lib.hid hL
   have HLA:=Lib.hid hla
   clear hD hlt hyt hL hla
   have m5:wr.cell? ⟨b,5,none⟩=some (.slice (some ⟨g,0,none⟩) s.nA s.cA):=by rw [← hAe];exact hMr.blk.cell 5
   have HA:=Lib.hid hAe
   clear hAe
   have f0:wr.cell? ⟨g,t*11,none⟩=some (.int .i64 y0):=hce 0 _ rfl
   have f1:wr.cell? ⟨g,t*11+1,none⟩=some (.int .i64 y1):=hce 1 _ rfl
   have f2:wr.cell? ⟨g,t*11+2,none⟩=some (.int .i64 y2):=hce 2 _ rfl
   have f3:wr.cell? ⟨g,t*11+3,none⟩=some (.int .i64 y3):=hce 3 _ rfl
   have f4:wr.cell? ⟨g,t*11+4,none⟩=some (.int .i64 y4):=hce 4 _ rfl
   have f5:wr.cell? ⟨g,t*11+5,none⟩=some (.int .i64 y5):=hce 5 _ rfl
   have f6:wr.cell? ⟨g,t*11+6,none⟩=some (.int .i64 y6):=hce 6 _ rfl
   have f7:wr.cell? ⟨g,t*11+7,none⟩=some (.int .i64 y7):=hce 7 _ rfl
   have f8:wr.cell? ⟨g,t*11+8,none⟩=some (.int .i64 y8):=hce 8 _ rfl
   have f9:wr.cell? ⟨g,t*11+9,none⟩=some (.bool y9):=hce 9 _ rfl
   have f10:wr.cell? ⟨g,t*11+10,none⟩=some (.int .i64 y10):=hce 10 _ rfl
   cases e1:(y5 == node) with
   | false =>
    have hs1:=Lib.hid (HS.out.trans (M3 (d:=({ s with allocs:=aL,AE:=A,nE:=n,cE:=ca,evals:=l }:Aa).data) HY.out (by rw [e1];rfl)))
    go_wp2_with (first|go_skip|go_guarded)
    go_roundw
    case rel=>exact ⟨t+1,HT.out,by go_num,aL,A,n,ca,l,HLA.out,hMr,hs1.out.symm,by have:=HL.out;omega,hW,hx⟩
    case measure=>have:=HT.out;simp [intOf];omega
   | true =>
    cases e2:decide (3≤y10) with
    | true =>
     have hs1:=Lib.hid (HS.out.trans (M3 (d:=({ s with allocs:=aL,AE:=A,nE:=n,cE:=ca,evals:=l }:Aa).data) HY.out (by show ((y5 == node) && !decide (3≤y10))=false;rw [e1,e2];rfl)))
     go_wp2_with (first|go_skip|go_guarded|(go_at_call 74;(with_reducible refine (Bt #[.int .i64 y0,.int .i64 y1,.int .i64 y2,.int .i64 y3,.int .i64 y4,.int .i64 y5,.int .i64 y6,.int .i64 y7,.int .i64 y8,.bool y9,.int .i64 y10] y10 wr rfl rfl).mono ?_);rintro e w1 ⟨rfl,hx1⟩;(rw [e2])))
     go_roundw
     case rel=>exact ⟨t+1,HT.out,by go_num,aL,A,n,ca,l,HLA.out,hMr.e0 hx1,hs1.out.symm,by have:=HL.out;omega,hW,hx.m0 hx1⟩
     case measure=>have:=HT.out;simp [intOf];omega
    | false =>
     have hs1:=Lib.hid (HS.out.trans (Od (d:=({ s with allocs:=aL,AE:=A,nE:=n,cE:=ca,evals:=l }:Aa).data) HY.out (by show ((y5 == node) && !decide (3≤y10))=true;rw [e1,e2];rfl)))
     go_upto_region 5 with (first|go_skip|go_guarded|(go_at_call 74;(with_reducible refine (Bt #[.int .i64 y0,.int .i64 y1,.int .i64 y2,.int .i64 y3,.int .i64 y4,.int .i64 y5,.int .i64 y6,.int .i64 y7,.int .i64 y8,.bool y9,.int .i64 y10] y10 wr rfl rfl).mono ?_);rintro e w1 ⟨rfl,hx1⟩;(rw [e2])))
     have hM1:=hMr.e0 hx1
     have m5:w1.cell? ⟨b,5,none⟩=some (.slice (some ⟨g,0,none⟩) s.nA s.cA):=hx1.c0 m5
     have f10:=hx1.c0 f10
     have f1:=hx1.c0 f1
     have hg1:=hgb.e0 hx1
     have f10f:w1.frozen? ⟨g,t*11+10,none⟩=false:=hg1.frozen _
     obtain ⟨g2,cur2,hAe2,hob2,hgb2,_,hce2,hput2⟩:=hM1.own.LB HY.out
     have hgg:g2=g:=by have h7:s.AA=some ⟨g2,0,none⟩:=hAe2;rw [HA.out] at h7;injection h7 with h7;injection h7 with h7;exact h7.symm
     subst hgg
     clear hAe2
     have hs5:Ext (fun q=>q=g2) w1 (w1.setCell ⟨g2,t*11+10,none⟩ (.int .i64 6)):=Ext.set1 _ _ _ _
     have hO5:Aw base (w1.setCell ⟨g2,t*11+10,none⟩ (.int .i64 6)) ({ s with allocs:=aL.set t ⟨y0,y1,y2,y3,y4,y5,y6,⟨y7,y8⟩,y9,6⟩,AE:=A,nE:=n,cE:=ca,evals:=l }:Aa):=hput2 10 _ ⟨y0,y1,y2,y3,y4,y5,y6,⟨y7,y8⟩,y9,6⟩ (by decide) rfl
     have hgb3:¬ (b=g2):=fun e=>Blk.ne hM1.blk hgb2 (by decide) e
     have hM5:Az base (w1.setCell ⟨g2,t*11+10,none⟩ (.int .i64 6)) b ({ s with allocs:=aL.set t ⟨y0,y1,y2,y3,y4,y5,y6,⟨y7,y8⟩,y9,6⟩,AE:=A,nE:=n,cE:=ca,evals:=l }:Aa) cm:=⟨hM1.blk.ext hs5 hgb3,hO5,hM1.lo⟩
     have f15:(w1.setCell ⟨g2,t*11+10,none⟩ (.int .i64 6)).cell? ⟨g2,t*11+1,none⟩=some (.int .i64 y1):=cell_set_ne f1 (show t*11+10 ≠ t*11+1 by omega) hgb2
     have hx5:Step w (w1.setCell ⟨g2,t*11+10,none⟩ (.int .i64 6)) b s ({ s with allocs:=aL.set t ⟨y0,y1,y2,y3,y4,y5,y6,⟨y7,y8⟩,y9,6⟩,AE:=A,nE:=n,cE:=ca,evals:=l }:Aa):=(hx.m0 hx1).cell (s2:=({ s with allocs:=aL.set t ⟨y0,y1,y2,y3,y4,y5,y6,⟨y7,y8⟩,y9,6⟩,AE:=A,nE:=n,cE:=ca,evals:=l }:Aa)) (MW.oA (s:=({ s with allocs:=aL,AE:=A,nE:=n,cE:=ca,evals:=l }:Aa)) hob2) (fun q hq=>hq) _
     go_upto_region 6 with (first|go_skip|go_guarded)
     generalize (w1.setCell ⟨g2,t*11+10,none⟩ (.int .i64 6))=w5 at hs5 hO5 hM5 f15 hx5 ⊢
     have hW5:Fsm.Wf ({ s with allocs:=aL.set t ⟨y0,y1,y2,y3,y4,y5,y6,⟨y7,y8⟩,y9,6⟩,AE:=A,nE:=n,cE:=ca,evals:=l }:Aa).data:=Fsm.DD hW _
     have hz5:=hx5.size
     have hq1:({ s with allocs:=aL.set t ⟨y0,y1,y2,y3,y4,y5,y6,⟨y7,y8⟩,y9,6⟩,AE:=A,nE:=n,cE:=ca,evals:=l }:Aa).jobs.length≤67108864:=by show s.jobs.length≤_;omega
     have hq2:({ s with allocs:=aL.set t ⟨y0,y1,y2,y3,y4,y5,y6,⟨y7,y8⟩,y9,6⟩,AE:=A,nE:=n,cE:=ca,evals:=l }:Aa).evals.length≤67108862:=by show l.length≤_;have:=HL.out;have:=HT.out;have:=hnl.out;omega
     have hq3:Fsm.Up EvalD.job ({ s with allocs:=aL.set t ⟨y0,y1,y2,y3,y4,y5,y6,⟨y7,y8⟩,y9,6⟩,AE:=A,nE:=n,cE:=ca,evals:=l }:Aa).evals:=hW5.e
     have hq4:base≤w5.heap.size:=by omega
     go_wp2_with (first|go_skip|go_guarded|(go_at_call 64;(with_reducible refine (Ef base b ({ s with allocs:=aL.set t ⟨y0,y1,y2,y3,y4,y5,y6,⟨y7,y8⟩,y9,6⟩,AE:=A,nE:=n,cE:=ca,evals:=l }:Aa) cm y1 w5 hM5 hq4 hq1 hq2 hq3).mono ?_);rintro e w6 ⟨A2,c2,l2,rfl,hM6,hD6,hx6⟩))
     have hlen:l2.length≤l.length+1:=by
      have e3:l2.length=(Fsm.eval ({ s with allocs:=aL.set t ⟨y0,y1,y2,y3,y4,y5,y6,⟨y7,y8⟩,y9,6⟩,AE:=A,nE:=n,cE:=ca,evals:=l }:Aa).data y1).evals.length:=congrArg (fun z:Ab=>z.evals.length) hD6
      have e4:=Fsm.Eg ({ s with allocs:=aL.set t ⟨y0,y1,y2,y3,y4,y5,y6,⟨y7,y8⟩,y9,6⟩,AE:=A,nE:=n,cE:=ca,evals:=l }:Aa).data y1
      have e5:({ s with allocs:=aL.set t ⟨y0,y1,y2,y3,y4,y5,y6,⟨y7,y8⟩,y9,6⟩,AE:=A,nE:=n,cE:=ca,evals:=l }:Aa).data.evals.length=l.length:=rfl
      omega
     go_roundw
     case rel=>exact ⟨t+1,HT.out,by go_num,aL.set t ⟨y0,y1,y2,y3,y4,y5,y6,⟨y7,y8⟩,y9,6⟩,A2,l2.length,c2,l2,by rw [List.length_set];exact HLA.out,hM6,hD6.trans hs1.out.symm,by have:=HL.out;omega,by have h9:=Fsm.Cx hW5 y1;rw [← hD6] at h9;exact h9,hx5.trans hx6⟩
     case measure=>have:=HT.out;simp [intOf];omega
  have hnl2:¬ ((t:Int) < s.nA):=by omega
  have HS:=Lib.hid (show ({ s with allocs:=aL,AE:=A,nE:=n,cE:=ca,evals:=l }:Aa).data=Fsm.lost s.data node by rw [hD];unfold Fsm.lost;rw [show s.data.allocs.length=t from by have:=hnl.out;show s.allocs.length=t;omega])
  clear hD
  go_wp2
  go_end0
  exact ⟨rfl,aL,A,n,ca,l,hMr,HS.out,by rw [hla];exact hnl.out,by have:=hnl.out;omega,hx⟩
end
section
open Go.RowKit
theorem Db (y:NodD) (w:World):Calls Tryz.prog 68 #[.agg #[.int .i64 y.id,.int .i64 y.cap.cpu,.int .i64 y.cap.mem,.bool y.up,.bool y.drain,.int .i64 y.boot,.int .i64 y.epoch,.int .i64 y.seq]] w fun e w'=>e=.returned (.int .i64 y.id)∧Ext Nothing w w':=by
 have hx:Ext Nothing w (w.alloc (.cells #[.int .i64 y.id,.int .i64 y.cap.cpu,.int .i64 y.cap.mem,.bool y.up,.bool y.drain,.int .i64 y.boot,.int .i64 y.epoch,.int .i64 y.seq] 43)):=Ext.Ay
 have hb:Blk (w.alloc (.cells #[.int .i64 y.id,.int .i64 y.cap.cpu,.int .i64 y.cap.mem,.bool y.up,.bool y.drain,.int .i64 y.boot,.int .i64 y.epoch,.int .i64 y.seq] 43)) w.heap.size 43 #[.int .i64 y.id,.int .i64 y.cap.cpu,.int .i64 y.cap.mem,.bool y.up,.bool y.drain,.int .i64 y.boot,.int .i64 y.epoch,.int .i64 y.seq]:=Blk.new _ _ _
 go_enter Tryz.func68,Tryz.ntmps68
 go_wp2
 go_ret
 exact ⟨rfl,hx⟩
set_option maxRecDepth 20000 in
set_option maxHeartbeats 4000000 in
theorem MP (base:Nat) (A:Option Addr) (c:Nat) (l:List NodD) (x:NodD) (w:World) (h:w.ownsRow base 43 8 (.slice A l.length c) l.length (l.flatMap NodD.cells)) (hb:base≤w.heap.size) (hl:l.length≤67108862) (hu:Fsm.Up NodD.id l) :
  Calls Tryz.prog 67 #[.slice A l.length c,.agg #[.int .i64 x.id,.int .i64 x.cap.cpu,.int .i64 x.cap.mem,.bool x.up,.bool x.drain,.int .i64 x.boot,.int .i64 x.epoch,.int .i64 x.seq],.func (.func 68) #[] #[]] w fun e w'=>∃ A' c',e=.returned (.slice A' (Fsm.Ak NodD.id x l).length c')∧w'.ownsRow base 43 8 (.slice A' (Fsm.Ak NodD.id x l).length c') (Fsm.Ak NodD.id x l).length ((Fsm.Ak NodD.id x l).flatMap NodD.cells)∧(∀ q,(Value.slice A' (Fsm.Ak NodD.id x l).length c').ownBlock=some q→(Value.slice A l.length c).ownBlock=some q ∨ w.heap.size≤q)∧Ext (fun q=>(Value.slice A l.length c).ownBlock=some q) w w':=by
 have hx0:Ext Nothing w (w.alloc (.cells #[.int .i64 x.id,.int .i64 x.cap.cpu,.int .i64 x.cap.mem,.bool x.up,.bool x.drain,.int .i64 x.boot,.int .i64 x.epoch,.int .i64 x.seq] 43)):=Ext.Ay
 have hB0:Blk (w.alloc (.cells #[.int .i64 x.id,.int .i64 x.cap.cpu,.int .i64 x.cap.mem,.bool x.up,.bool x.drain,.int .i64 x.boot,.int .i64 x.epoch,.int .i64 x.seq] 43)) w.heap.size 43 #[.int .i64 x.id,.int .i64 x.cap.cpu,.int .i64 x.cap.mem,.bool x.up,.bool x.drain,.int .i64 x.boot,.int .i64 x.epoch,.int .i64 x.seq]:=Blk.new _ _ _
 go_enter Tryz.func67,Tryz.ntmps67
 go_wp2
 go_loopw [11] (fun i wr=>∃ k:Nat,k≤l.length∧i=.int .i64 k∧(∀ j < k,∀ z,l[j]? = some z→NodD.id z < x.id)∧Ext Nothing w wr∧Blk wr w.heap.size 43 #[.int .i64 x.id,.int .i64 x.cap.cpu,.int .i64 x.cap.mem,.bool x.up,.bool x.drain,.int .i64 x.boot,.int .i64 x.epoch,.int .i64 x.seq]) (fun i _=>l.length - (intOf i).toNat)
 case atStart=>exact ⟨0,Nat.zero_le _,rfl,fun j hj=>absurd hj (by omega),hx0,hB0⟩
 case round =>
  obtain ⟨k,hk,rfl,hno,hxr,hB⟩:=hrel
  clear hB0 hx0
  by_cases hlt:k < l.length
  ·obtain ⟨g,cur,hAe,hbg,hg,hcs,hcap,hmax,htk,hset⟩:=DR (i:=k) (f:=NodD.cells) (fun _=>rfl) h hlt
   obtain ⟨hjn,b,off,hAe2,hce⟩:=(Sl.Bd (f:=NodD.cells) (fun _=>rfl) h rfl).get hxr hlt
   rw [hAe] at hAe2
   injection hAe2 with hAe2
   injection hAe2 with hAe3 hAe4
   subst hAe3 hAe4 hAe
   simp only [Nat.zero_add] at hce
   have hgw:g < w.heap.size:=hg.lt
   have hgr:=hg.e0 hxr
   have hne:w.heap.size ≠ g:=by omega
   have hy:l[k]? = some l[k]:=List.getElem?_eq_getElem hjn
   generalize l[k]=y at hce hy
   have hk0:(0:Int)≤(k:Int):=by omega
   have hk1:(k:Int) < l.length:=by omega
   have HY:=Lib.hid hy
   have HN:=Lib.hid hno
   have HS:=Lib.hid hset
   have HT:=Lib.hid htk
   have HC:=Lib.hid hcs
   have HU:=Lib.hid hu
   have H:=Lib.hid h
   clear hy hno hset htk hcs hu h
   rcases Int.lt_trichotomy y.id x.id with hc|hc|hc
   ·have q1:(y.id == x.id)=false:=by simp;omega
    have q2:¬ (y.id > x.id):=by omega
    have q3:¬ (y.id=x.id):=by omega
    go_wp2_with (first|go_skip|go_guarded|((with_reducible refine isW ?_);refine Ad rfl 43 _ rfl Bz g (k*8) rfl #[.int .i64 y.id,.int .i64 y.cap.cpu,.int .i64 y.cap.mem,.bool y.up,.bool y.drain,.int .i64 y.boot,.int .i64 y.epoch,.int .i64 y.seq] hce rfl ?_)|((with_reducible refine isW ?_);refine Ae rfl 43 _ rfl Bz w.heap.size rfl #[.int .i64 x.id,.int .i64 x.cap.cpu,.int .i64 x.cap.mem,.bool x.up,.bool x.drain,.int .i64 x.boot,.int .i64 x.epoch,.int .i64 x.seq] (show Blk _ _ _ _ from by first|exact hB2|exact hB1|exact hB) rfl ?_)|(go_at_call 68;(with_reducible refine (Db y wr).mono ?_);rintro e w1 ⟨rfl,hx1⟩;have hB1:=hB.e0 hx1)|(go_at_call 68;(with_reducible refine (Db x w1).mono ?_);rintro e w2 ⟨rfl,hx2⟩;have hB2:=hB1.e0 hx2)|(go_at_call 68;(with_reducible refine (Db x w2).mono ?_);rintro e w3 ⟨rfl,hx3⟩;have hB3:=hB2.e0 hx3))
    go_roundw
    case rel =>
     refine ⟨k+1,hlt,by go_num,fun j hj z hz=>?_,((hxr.tr hx1).tr hx2).tr hx3,hB3⟩
     rcases Nat.lt_or_ge j k with h1|h1
     ·exact HN.out j h1 z hz
     obtain rfl:j=k:=by omega
     rw [HY.out] at hz;cases hz;exact hc
    case measure=>simp [intOf];omega
   ·have q1:(y.id == x.id)=true:=by simpa using hc
    have HCC:=Lib.hid hc
    clear hc
    have h0s:k*8+8≤cur.size:=by rw [HC.out];have:=Nat.mul_le_mul_right 8 (show k+1≤c by omega);omega
    go_wp2_with (first|go_skip|go_guarded|((with_reducible refine isW ?_);refine Ad rfl 43 _ rfl Bz g (k*8) rfl #[.int .i64 y.id,.int .i64 y.cap.cpu,.int .i64 y.cap.mem,.bool y.up,.bool y.drain,.int .i64 y.boot,.int .i64 y.epoch,.int .i64 y.seq] hce rfl ?_)|((with_reducible refine isW ?_);refine Ae rfl 43 _ rfl Bz w.heap.size rfl #[.int .i64 x.id,.int .i64 x.cap.cpu,.int .i64 x.cap.mem,.bool x.up,.bool x.drain,.int .i64 x.boot,.int .i64 x.epoch,.int .i64 x.seq] (show Blk _ _ _ _ from by first|exact hB2|exact hB1|exact hB) rfl ?_)|(go_at_call 68;(with_reducible refine (Db y wr).mono ?_);rintro e w1 ⟨rfl,hx1⟩;have hB1:=hB.e0 hx1)|(go_at_call 68;(with_reducible refine (Db x w1).mono ?_);rintro e w2 ⟨rfl,hx2⟩;have hB2:=hB1.e0 hx2)|((with_reducible refine isW ?_);refine wpList_store_row rfl 43 _ _ rfl Bz g (k*8) rfl #[.int .i64 x.id,.int .i64 x.cap.cpu,.int .i64 x.cap.mem,.bool x.up,.bool x.drain,.int .i64 x.boot,.int .i64 x.epoch,.int .i64 x.seq] rfl (show Blk _ _ _ _ from (hgr.e0 hx1).e0 hx2) h0s rfl rfl ?_;intro w9 hB9 hx9))
    go_ret
    have e9:=Fsm.Ez HU.out HY.out HN.out HCC.out
    exact ⟨some ⟨g,0,none⟩,c,by rw [e9,List.length_set];rfl,by rw [e9,List.length_set];exact HS.out x w9 hB9,fun q hq=>.inl hq,((hxr.tr hx1).tr hx2).any.trans hx9 (fun b hb e=>by rw [show b=g from e];rfl)⟩
   have q1:(y.id == x.id)=false:=by simp;omega
   have q2:y.id > x.id:=by omega
   have q3:¬ (y.id=x.id):=by omega
   have e9:=Lib.hid (Fsm.Dk HU.out HY.out HN.out hc)
   have e8:(l.take k ++ x :: l.drop k).length=l.length+1:=by simp;omega
   have E8:=Lib.hid e8
   clear e8
   by_cases hroom:l.length+1≤c
   ·go_wp2_with (first|go_skip|go_guarded|((with_reducible refine isW ?_);refine Ad rfl 43 _ rfl Bz g (k*8) rfl #[.int .i64 y.id,.int .i64 y.cap.cpu,.int .i64 y.cap.mem,.bool y.up,.bool y.drain,.int .i64 y.boot,.int .i64 y.epoch,.int .i64 y.seq] hce rfl ?_)|((with_reducible refine isW ?_);refine Ae rfl 43 _ rfl Bz w.heap.size rfl #[.int .i64 x.id,.int .i64 x.cap.cpu,.int .i64 x.cap.mem,.bool x.up,.bool x.drain,.int .i64 x.boot,.int .i64 x.epoch,.int .i64 x.seq] (show Blk _ _ _ _ from by first|exact hB3|exact hB2|exact hB1|exact hB) rfl ?_)|(go_at_call 68;(with_reducible refine (Db y wr).mono ?_);rintro e w1 ⟨rfl,hx1⟩;have hB1:=hB.e0 hx1)|(go_at_call 68;(with_reducible refine (Db x w1).mono ?_);rintro e w2 ⟨rfl,hx2⟩;have hB2:=hB1.e0 hx2)|(go_at_call 68;(with_reducible refine (Db x w2).mono ?_);rintro e w3 ⟨rfl,hx3⟩;have hB3:=hB2.e0 hx3)|((with_reducible refine isW ?_);refine AZ rfl 24 _ rfl EF #[.int .i64 x.id,.int .i64 x.cap.cpu,.int .i64 x.cap.mem,.bool x.up,.bool x.drain,.int .i64 x.boot,.int .i64 x.epoch,.int .i64 x.seq] rfl rfl ?_)|(go_at_call 98;(refine (KE base g c k w3.heap.size l x cur (w3.alloc (.cells #[.int .i64 x.id,.int .i64 x.cap.cpu,.int .i64 x.cap.mem,.bool x.up,.bool x.drain,.int .i64 x.boot,.int .i64 x.epoch,.int .i64 x.seq] 43)) (((hgr.e0 hx1).e0 hx2).e0 (hx3.tr Ext.Ay)) HC.out HT.out hlt (Blk.new _ _ _) (by have:=hx1.size;have:=hx2.size;have:=hx3.size;have:=hxr.size;omega) hroom hmax hl).mono ?_);rintro e w9 ⟨rfl,hcc,hx9⟩))
    go_ret
    obtain ⟨cs9,hb9,hs9,ht9⟩:=hcc
    have hxA:Ext Nothing w (w3.alloc (.cells #[.int .i64 x.id,.int .i64 x.cap.cpu,.int .i64 x.cap.mem,.bool x.up,.bool x.drain,.int .i64 x.boot,.int .i64 x.epoch,.int .i64 x.seq] 43)):=(((hxr.tr hx1).tr hx2).tr hx3).alloc _
    refine ⟨some ⟨g,0,none⟩,c,by rw [e9.out,E8.out];rfl,?_,fun q hq=>.inl hq,hxA.any.trans hx9 (fun b hb e=>by rw [show b=g from e];rfl)⟩
    rw [e9.out,E8.out]
    refine ⟨?_,.inr ⟨g,c,cs9,rfl,hbg,hb9,hroom,hmax,hs9,ht9⟩⟩
    rw [← ht9,List.length_take,Array.length_toList (xs:=cs9),hs9]
    exact Nat.min_eq_left (Nat.mul_le_mul_right _ hroom)
   go_wp2_with (first|go_skip|go_guarded|((with_reducible refine isW ?_);refine Ad rfl 43 _ rfl Bz g (k*8) rfl #[.int .i64 y.id,.int .i64 y.cap.cpu,.int .i64 y.cap.mem,.bool y.up,.bool y.drain,.int .i64 y.boot,.int .i64 y.epoch,.int .i64 y.seq] hce rfl ?_)|((with_reducible refine isW ?_);refine Ae rfl 43 _ rfl Bz w.heap.size rfl #[.int .i64 x.id,.int .i64 x.cap.cpu,.int .i64 x.cap.mem,.bool x.up,.bool x.drain,.int .i64 x.boot,.int .i64 x.epoch,.int .i64 x.seq] (show Blk _ _ _ _ from by first|exact hB3|exact hB2|exact hB1|exact hB) rfl ?_)|(go_at_call 68;(with_reducible refine (Db y wr).mono ?_);rintro e w1 ⟨rfl,hx1⟩;have hB1:=hB.e0 hx1)|(go_at_call 68;(with_reducible refine (Db x w1).mono ?_);rintro e w2 ⟨rfl,hx2⟩;have hB2:=hB1.e0 hx2)|(go_at_call 68;(with_reducible refine (Db x w2).mono ?_);rintro e w3 ⟨rfl,hx3⟩;have hB3:=hB2.e0 hx3)|((with_reducible refine isW ?_);refine AZ rfl 24 _ rfl EF #[.int .i64 x.id,.int .i64 x.cap.cpu,.int .i64 x.cap.mem,.bool x.up,.bool x.drain,.int .i64 x.boot,.int .i64 x.epoch,.int .i64 x.seq] rfl rfl ?_)|(go_at_call 98;(refine (KP g c k w3.heap.size l x cur (w3.alloc (.cells #[.int .i64 x.id,.int .i64 x.cap.cpu,.int .i64 x.cap.mem,.bool x.up,.bool x.drain,.int .i64 x.boot,.int .i64 x.epoch,.int .i64 x.seq] 43)) (((hgr.e0 hx1).e0 hx2).e0 (hx3.tr Ext.Ay)) HC.out HT.out hlt (Blk.new _ _ _) hcap (by omega) (by omega)).mono ?_);rintro e w9 ⟨G,hG1,hG2,rfl,hcc,hx9⟩))
   go_ret
   obtain ⟨cs9,hb9,hs9,ht9⟩:=hcc
   have hxA:Ext Nothing w (w3.alloc (.cells #[.int .i64 x.id,.int .i64 x.cap.cpu,.int .i64 x.cap.mem,.bool x.up,.bool x.drain,.int .i64 x.boot,.int .i64 x.epoch,.int .i64 x.seq] 43)):=(((hxr.tr hx1).tr hx2).tr hx3).alloc _
   have hz9:(w3.alloc (.cells #[.int .i64 x.id,.int .i64 x.cap.cpu,.int .i64 x.cap.mem,.bool x.up,.bool x.drain,.int .i64 x.boot,.int .i64 x.epoch,.int .i64 x.seq] 43)).heap.size=w3.heap.size+1:=by simp
   have hzA:=hxA.size
   rw [hz9] at hb9 hzA
   refine ⟨some ⟨_,0,none⟩,G,by rw [e9.out,E8.out];rfl,?_,fun q hq=>.inr (by simp [Value.ownBlock] at hq;omega),(hxA.tr hx9).any⟩
   rw [e9.out,E8.out]
   refine ⟨?_,.inr ⟨_,G,cs9,rfl,by omega,hb9,hG1,hG2,hs9,ht9⟩⟩
   rw [← ht9,List.length_take,Array.length_toList (xs:=cs9),hs9]
   exact Nat.min_eq_left (Nat.mul_le_mul_right _ hG1)
  have hkl:k=l.length:=by omega
  have e9:=Lib.hid (Fsm.EC (key:=NodD.id) (x:=x) (l:=l) (fun z hz=>by obtain ⟨j,hj⟩:=List.mem_iff_getElem?.1 hz;exact hno j (by have:=(List.getElem?_eq_some_iff.1 hj).1;omega) z hj))
  have hnl:¬ ((k:Int) < l.length):=by omega
  have ho:=Am h hxr (fun _ _ e=>e)
  clear hno hkl
  go_wp2_with (first|go_skip|go_guarded|((with_reducible refine isW ?_);refine Ae rfl 43 _ rfl Bz w.heap.size rfl #[.int .i64 x.id,.int .i64 x.cap.cpu,.int .i64 x.cap.mem,.bool x.up,.bool x.drain,.int .i64 x.boot,.int .i64 x.epoch,.int .i64 x.seq] (show Blk _ _ _ _ from hB) rfl ?_)|((with_reducible refine Jh ?_);refine Cw rfl rfl 24 _ rfl _ _ rfl EF #[.int .i64 x.id,.int .i64 x.cap.cpu,.int .i64 x.cap.mem,.bool x.up,.bool x.drain,.int .i64 x.boot,.int .i64 x.epoch,.int .i64 x.seq] rfl rfl base (.slice A l.length c) l.length (l.flatMap NodD.cells) rfl rfl ho rfl (by omega) (by have:=hxr.size;omega) ?_;intro A2 c2 w9 o9 hx9 hq9))
  go_ret
  have o8:=CG (x:=x) o9 rfl rfl
  exact ⟨A2,c2,by rw [e9.out,List.length_append];rfl,by rw [e9.out];exact o8,fun q hq=>(hq9 q (by cases A2 <;> exact hq)).imp id (fun h=>by have:=hxr.size;omega),hxr.any.tr hx9⟩
end
section
open Go.RowKit
def Bo (s:Ab) (n:NodD):Int × Int:=match Fsm.nodeAt s n.id with
 | none=>(0,31)
 | some h=>bif !h.up || !(h.epoch == n.epoch) then (0,32) else (CO (fun x:NodD=>x.id == n.id) s.nodes,0)
end
section
open Go.RowKit
namespace Fsm
theorem JC (n:NodD) (a:Ac) (st:Int):(!takes n a st)=((a.node != n.id) || (a.epoch != n.epoch) || decide (3≤a.state) || decide (st≤a.state) || decide (st < 2) || decide (5 < st) || (st == 5 && !a.stop)):=by
 cases h:a.stop <;> (rw [Bool.eq_iff_iff];simp [takes,Bv,h])
section
variable {n:NodD} {z:Ab × Bool} {r:Int × Int} {a:Ac} {m:List Ac} {j:Aq}
theorem O5 (h:z.1.allocs.find? (fun a=>a.id == r.1)=none):report n z r=z:=by unfold report;rw [h]
theorem Pq (h:z.1.allocs.find? (fun a=>a.id == r.1)=some a) (ht:takes n a r.2=false):report n z r=z:=by
 unfold report;rw [h];simp only [];rw [if_pos (by rw [ht];rfl)]
theorem Ou (h:z.1.allocs.find? (fun a=>a.id == r.1)=some a) (ht:takes n a r.2=true) (hm:Ap (fun a=>a.id == r.1) (fun a=>{ a with state:=r.2 }) z.1.allocs=m) (h3:3≤r.2):report n z r=(eval { z.1 with allocs:=m } a.job,true):=by
 unfold report;rw [h];simp only [];rw [if_neg (by rw [ht];exact Bool.false_ne_true),if_pos h3,hm]
theorem Nl (h:z.1.allocs.find? (fun a=>a.id == r.1)=some a) (ht:takes n a r.2=true) (hm:Ap (fun a=>a.id == r.1) (fun a=>{ a with state:=r.2 }) z.1.allocs=m) (h3:¬ 3≤r.2) (hj:AU { z.1 with allocs:=m } a.job=none):report n z r=({ z.1 with allocs:=m },z.2):=by
 unfold report;rw [h];simp only [];rw [if_neg (by rw [ht];exact Bool.false_ne_true),if_neg h3,hm,hj]
theorem OH (h:z.1.allocs.find? (fun a=>a.id == r.1)=some a) (ht:takes n a r.2=true) (hm:Ap (fun a=>a.id == r.1) (fun a=>{ a with state:=r.2 }) z.1.allocs=m) (h3:¬ 3≤r.2) (hj:AU { z.1 with allocs:=m } a.job=some j) (hty:(j.ty == 1)=false):report n z r=({ z.1 with allocs:=m },z.2):=by
 unfold report;rw [h];simp only [];rw [if_neg (by rw [ht];exact Bool.false_ne_true),if_neg h3,hm,hj];simp only [];rw [if_pos (by rw [hty];rfl)]
theorem H6 (h:z.1.allocs.find? (fun a=>a.id == r.1)=some a) (ht:takes n a r.2=true) (hm:Ap (fun a=>a.id == r.1) (fun a=>{ a with state:=r.2 }) z.1.allocs=m) (h3:¬ 3≤r.2) (hj:AU { z.1 with allocs:=m } a.job=some j) (hty:(j.ty == 1)=true) {t:Ab} (he:t=eval { z.1 with allocs:=m } a.job) {q:List DepD} (hq:Ap (fun d=>d.job == a.job) (fun d=>if d.state == 1 && d.ver == a.ver then { d with index:=t.index } else d) t.deploys=q):report n z r=({ t with deploys:=q },z.2):=by
 unfold report;rw [h];simp only [];rw [if_neg (by rw [ht];exact Bool.false_ne_true),if_neg h3,hm,hj];simp only [];rw [if_neg (by rw [hty];exact Bool.false_ne_true),← he,hq]
end
end Fsm
end
section
open Go.RowKit
def Ed (id:Int) (t:Ab) (a:Ac):Ab:=if a.node == id && !Bv a then Fsm.eval t a.job else t
end
section
open Go.RowKit
theorem KD:Bb Tryz.prog 97 2:=.of (by kernel_rfl)
def CJ (base:Nat) (w:World) (rv:Value) (l:List Ac):Prop:=∃ A c,rv=.slice A l.length c∧(l=[] ∨ w.ownsRow base 55 11 (.slice A l.length c) l.length (l.flatMap Ac.cells))
theorem CJ.nil (base:Nat) (w:World):CJ base w (.slice none 0 0) []:=⟨none,0,rfl,.inl rfl⟩
theorem CJ.nil' (base:Nat) (w:World) (A:Option Addr) (c:Nat):CJ base w (.slice A 0 c) []:=⟨A,c,rfl,.inl rfl⟩
theorem CJ.keep {S:Nat→Prop} {base:Nat} {w w' : World} {rv:Value} {l:List Ac} (h:CJ base w rv l) (hx:Ext S w w') (hS:Apart w S [55]):CJ base w' rv l:=by
 obtain ⟨A,c,e,h⟩:=h
 exact ⟨A,c,e,h.imp id (fun h=>Ag h hx hS)⟩
theorem CJ.base {b b' : Nat} {w:World} {rv:Value} {l:List Ac} (h:CJ b' w rv l) (hb:b≤b'):CJ b w rv l:=by
 obtain ⟨A,c,e,h⟩:=h
 exact ⟨A,c,e,h.imp id (fun h=>Bj h hb)⟩
end
section
open Go.RowKit
theorem Jt {s:Aa} {job:Int} {x:JobV} (hf:s.stable.find? (fun x:JobV=>x.1.id == job)=some x):Fsm.Dp s.data job=some x.1:=by
 show (s.stable.map (·.1)).find? (fun j=>j.id == job)=_
 rw [List.find?_map]
 show Option.map (·.1) (s.stable.find? (fun x:JobV=>x.1.id == job))=_
 rw [hf];rfl
theorem Jl {s:Aa} {job:Int} (hf:s.stable.find? (fun x:JobV=>x.1.id == job)=none):Fsm.Dp s.data job=none:=by
 show (s.stable.map (·.1)).find? (fun j=>j.id == job)=_
 rw [List.find?_map]
 show Option.map (·.1) (s.stable.find? (fun x:JobV=>x.1.id == job))=_
 rw [hf];rfl
namespace Fsm
section
variable {s:Ab} {c:BV} {j x:Aq} {d:DepD}
theorem Ql (hj:AU s c.job.id=none):revert s c=(s,⟨36,0,[]⟩):=by unfold revert;rw [hj];rfl
theorem QG (hj:AU s c.job.id=some j) (hd:JM s j.id=none):revert s c=(s,⟨33,0,[]⟩):=by unfold revert;rw [hj];simp only [];rw [hd];rfl
theorem Mm (hj:AU s c.job.id=some j) (hd:JM s j.id=some d) (hb:(!(j.ver == c.job.ver) || !(d.state == 1) || !(d.ver == j.ver))=true):revert s c=(s,⟨33,0,[]⟩):=by unfold revert;rw [hj];simp only [];rw [hd];simp only [];rw [if_pos hb];rfl
variable (hj:AU s c.job.id=some j) (hd:JM s j.id=some d) (hb:(!(j.ver == c.job.ver) || !(d.state == 1) || !(d.ver == j.ver))=false)
include hj hd hb
theorem Pj (hs:Dp s j.id=none):revert s c=(eval { s with deploys:=Ap (fun d=>d.job == j.id) (fun d=>{ d with state:=3 }) s.deploys } j.id,⟨0,j.ver,[]⟩):=by
 unfold revert;rw [hj];simp only [];rw [hd];simp only [];rw [if_neg (by rw [hb];exact Bool.false_ne_true),hs]
theorem PU (hs:Dp s j.id=some x) (hm:Ea x j=true):revert s c=(eval { s with deploys:=Ap (fun d=>d.job == j.id) (fun d=>{ d with state:=3 }) s.deploys } j.id,⟨0,j.ver,[]⟩):=by
 unfold revert;rw [hj];simp only [];rw [hd];simp only [];rw [if_neg (by rw [hb];exact Bool.false_ne_true),hs];simp only [];rw [if_pos hm]
theorem Qn (hs:Dp s j.id=some x) (hm:Ea x j=false) (hv:1099511627776≤j.ver):revert s c=(s,⟨33,0,[]⟩):=by
 unfold revert;rw [hj];simp only [];rw [hd];simp only [];rw [if_neg (by rw [hb];exact Bool.false_ne_true),hs];simp only [];rw [if_neg (by rw [hm];exact Bool.false_ne_true),if_pos (show BU≤j.ver from hv)];rfl
theorem Q0 (hs:Dp s j.id=some x) (hm:Ea x j=false) (hv:¬ 1099511627776≤j.ver):revert s c=(begins { s with deploys:=Ap (fun d=>d.job == j.id) (fun d=>{ d with state:=3 }) s.deploys } { x with ver:=wrap64 (j.ver+1),stopped:=false },⟨0,wrap64 (j.ver+1),[]⟩):=by
 unfold revert;rw [hj];simp only [];rw [hd];simp only [];rw [if_neg (by rw [hb];exact Bool.false_ne_true),hs];simp only [];rw [if_neg (by rw [hm];exact Bool.false_ne_true),if_neg (show ¬ BU≤j.ver from hv)]
end
end Fsm
end
section
open Go.RowKit
namespace Fsm
theorem NG (jobs:List Aq) {m:List Ac} (h:m.length≤64):∀ n,Di jobs n m=some m
 | 0=>by unfold Di;rw [if_pos h]
 | n+1=>by unfold Di;rw [if_pos h]
theorem Mv (jobs:List Aq) {m:List Ac} (h:64 < m.length) (hf:m.findIdx? (fun a=>!Cf jobs a)=none):∀ n,Di jobs n m=none
 | 0=>by unfold Di;rw [if_neg (by omega)]
 | n+1=>by unfold Di;rw [if_neg (by omega),hf]
theorem Ny (jobs:List Aq) {m:List Ac} (h:64 < m.length) {k:Nat} (hf:m.findIdx? (fun a=>!Cf jobs a)=some k) (hk:k < m.length):Di jobs m.length m=Di jobs (m.take k ++ m.drop (k+1)).length (m.take k ++ m.drop (k+1)):=by
 obtain ⟨q,hq⟩ : ∃ q,m.length=q+1:=⟨m.length - 1,by omega⟩
 have he:m.eraseIdx k=m.take k ++ m.drop (k+1):=List.eraseIdx_eq_take_drop_succ ..
 have hl:(m.take k ++ m.drop (k+1)).length=q:=by rw [← he,List.length_eraseIdx,if_pos hk];omega
 rw [hl,hq]
 conv=>lhs;unfold Di
 rw [if_neg (by omega),hf]
 simp only [he]
def UpI:List Int→Prop
 | []=>True
 | x :: r=>(∀ y∈r,x < y)∧UpI r
theorem I5 (x:Int):∀ (l:List Int) (y:Int),y∈Hf x l ↔ y=x ∨ y∈l
 | [],y=>by simp [Hf]
 | z :: r,y=>by
  unfold Hf
  split
  ·simp
  split
  ·rename_i h1 h2
   subst h2
   simp
  rw [List.mem_cons,I5 x r y,List.mem_cons]
  constructor
  ·rintro (h|h|h)
   ·exact .inr (.inl h)
   ·exact .inl h
   exact .inr (.inr h)
  rintro (h|h|h)
  ·exact .inr (.inl h)
  ·exact .inl h
  exact .inr (.inr h)
theorem insD_up (x:Int):∀ (l:List Int),UpI l→UpI (Hf x l)
 | [],_=>⟨by simp,trivial⟩
 | z :: r,h=>by
  unfold Hf
  split
  ·rename_i h1
   refine ⟨fun y hy=>?_,h⟩
   rcases List.mem_cons.1 hy with rfl|hy
   ·exact h1
   have:=h.1 y hy;omega
  split
  ·exact h
  rename_i h1 h2
  refine ⟨fun y hy=>?_,insD_up x r h.2⟩
  rcases (I5 x r y).1 hy with rfl|hy
  ·omega
  exact h.1 y hy
theorem GZ:∀ (l:List Ac) (y:Int),y∈BK l ↔ ∃ x∈l,x.node=y
 | [],y=>by simp [BK]
 | a :: r,y=>by
  rw [show BK (a :: r)=Hf a.node (BK r) from rfl,I5,GZ r y]
  simp only [List.mem_cons,exists_eq_or_imp]
  constructor
  ·rintro (h|h)
   ·exact .inl h.symm
   exact .inr h
  rintro (h|h)
  ·exact .inl h.symm
  exact .inr h
theorem nodesUp_up:∀ (l:List Ac),UpI (BK l)
 | []=>trivial
 | a :: r=>insD_up a.node _ (nodesUp_up r)
def M4 (first:Bool) (last:Int) (z:Int × Bool) (x:Ac):Int × Bool:=if (first || decide (last < x.node)) && (!z.2 || decide (x.node < z.1)) then (x.node,true) else z
def J2 (first:Bool) (last:Int) (l:List Ac):Int × Bool:=l.foldl (M4 first last) (0,false)
structure KG (first:Bool) (last:Int) (seen:List Ac) (z:Int × Bool):Prop where
 no:z.2=false→∀ x∈seen,(first || decide (last < x.node))=false
 yes:z.2=true→(∃ x∈seen,x.node=z.1∧(first || decide (last < x.node))=true)∧∀ x∈seen,(first || decide (last < x.node))=true→z.1≤x.node
theorem LM {first:Bool} {last:Int} {seen:List Ac} {z:Int × Bool} (h:KG first last seen z) (x:Ac):KG first last (seen ++ [x]) (M4 first last z x):=by
 obtain ⟨n,b⟩:=z
 unfold M4
 cases hq:(first || decide (last < x.node)) with
 | false =>
  simp only [Bool.false_and,Bool.false_eq_true,if_false]
  refine ⟨fun e y hy=>?_,fun e=>?_⟩
  ·rcases List.mem_append.1 hy with hy|hy
   ·exact h.no e y hy
   rw [List.mem_singleton.1 hy];exact hq
  obtain ⟨⟨y,hy,h1⟩,h2⟩:=h.yes e
  refine ⟨⟨y,List.mem_append_left _ hy,h1⟩,fun y hy hy2=>?_⟩
  rcases List.mem_append.1 hy with hy|hy
  ·exact h2 y hy hy2
  rw [List.mem_singleton.1 hy,hq] at hy2;cases hy2
 | true =>
  cases b with
  | false =>
   simp only [Bool.not_false,Bool.true_or,Bool.and_self,if_true]
   refine ⟨(fun e=>by cases e),fun _=>⟨⟨x,by simp,rfl,hq⟩,fun y hy hy2=>?_⟩⟩
   rcases List.mem_append.1 hy with hy|hy
   ·rw [h.no rfl y hy] at hy2;cases hy2
   rw [List.mem_singleton.1 hy];exact Int.le_refl _
  | true =>
   obtain ⟨⟨y,hy,h1,h3⟩,h2⟩:=h.yes rfl
   simp only at h1 h2
   by_cases hlt:x.node < n
   ·simp only [hlt,decide_true,Bool.or_true,Bool.and_self,if_true]
    refine ⟨(fun e=>by cases e),fun _=>⟨⟨x,by simp,rfl,hq⟩,fun y hy hy2=>?_⟩⟩
    rcases List.mem_append.1 hy with hy|hy
    ·have:=h2 y hy hy2;show x.node≤_;omega
    rw [List.mem_singleton.1 hy];exact Int.le_refl _
   simp only [hlt,decide_false,Bool.not_true,Bool.or_self,Bool.and_false,Bool.false_eq_true,if_false]
   refine ⟨(fun e=>by cases e),fun _=>⟨⟨y,List.mem_append_left _ hy,h1,h3⟩,fun y hy hy2=>?_⟩⟩
   rcases List.mem_append.1 hy with hy|hy
   ·exact h2 y hy hy2
   rw [List.mem_singleton.1 hy];show n≤_;omega
theorem JN (first:Bool) (last:Int):∀ (l seen:List Ac) (z:Int × Bool),KG first last seen z→KG first last (seen ++ l) (l.foldl (M4 first last) z)
 | [],seen,z,h=>by simpa using h
 | x :: r,seen,z,h=>by
  have:=JN first last r (seen ++ [x]) _ (LM h x)
  rw [List.append_assoc] at this
  exact this
theorem LX (first:Bool) (last:Int) (l:List Ac):KG first last l (J2 first last l):=by
 have:=JN first last l [] (0,false) ⟨(fun _ x hx=>by cases hx),(fun e=>by cases e)⟩
 rw [List.nil_append] at this
 exact this
structure Qs (l:List Ac) (first:Bool) (last:Int) (rest:List Int):Prop where
 up:UpI rest
 mem:∀ y,y∈rest ↔ (∃ x∈l,x.node=y)∧(first || decide (last < y))=true
theorem Qs.next {l:List Ac} {first:Bool} {last:Int} {rest:List Int} (h:Qs l first last rest):((J2 first last l).2=false∧rest=[]) ∨ ((J2 first last l).2=true∧∃ r,rest=(J2 first last l).1 :: r∧Qs l false (J2 first last l).1 r):=by
 have hs:=LX first last l
 generalize J2 first last l=z at hs ⊢
 obtain ⟨n,b⟩:=z
 cases b with
 | false =>
  refine .inl ⟨rfl,?_⟩
  cases rest with
  | nil=>rfl
  | cons y r =>
   obtain ⟨⟨x,hx,rfl⟩,h2⟩:=(h.mem y).1 (List.mem_cons_self ..)
   rw [hs.no rfl x hx] at h2;cases h2
 | true =>
  obtain ⟨⟨x,hx,h1,h3⟩,h2⟩:=hs.yes rfl
  simp only at h1 h2
  subst h1
  have hm:x.node∈rest:=(h.mem _).2 ⟨⟨x,hx,rfl⟩,h3⟩
  cases rest with
  | nil=>cases hm
  | cons y r =>
   have hy:y=x.node:=by
    rcases List.mem_cons.1 hm with e|e
    ·exact e.symm
    have hlt:=h.up.1 _ e
    obtain ⟨⟨x',hx',rfl⟩,h4⟩:=(h.mem y).1 (List.mem_cons_self ..)
    have:=h2 x' hx' h4
    omega
   subst hy
   refine .inr ⟨rfl,r,rfl,⟨h.up.2,fun y=>?_⟩⟩
   constructor
   ·intro hy
    exact ⟨((h.mem y).1 (List.mem_cons_of_mem _ hy)).1,by simpa using h.up.1 y hy⟩
   rintro ⟨h5,h6⟩
   simp at h6
   have:y∈x.node :: r:=(h.mem y).2 ⟨h5,by
    cases first with
    | true=>rfl
    | false=>simp at h3 ⊢;omega⟩
   rcases List.mem_cons.1 this with e|e
   ·omega
   exact e
end Fsm
end
section
open Go.RowKit
def sLen:Option Value→Nat
 | some (.slice _ n _)=>n
 | _=>0
theorem Sl.blk {w:World} {sz n b off:Nat} {xs:List (List Value)} (h:Sl w (sz+1) (some ⟨b,off,none⟩) n xs) (hn:0 < n):∃ q:Unit,b < w.heap.size:=by
 obtain ⟨hx,b',off',e,hl,hc⟩:=h.at_ hn
 injection e with e
 injection e with e1 e2
 subst e1
 exact ⟨(),World.block_lt_of_cell? w _ (hc 0 _ (List.getElem?_eq_getElem (by omega)))⟩
section
variable {P:Program} {w:World} {ops:Array Oper} {rest:List Oper} {o:Oper} {a:Act} {Q:Exit→Act→World→Prop}
end
end
section
open Go.RowKit
theorem Pt:Bb Tryz.prog 47 6:=.of (by kernel_rfl)
namespace Fsm
def CE (j:Aq) (l:List Ac) (z:Ab × Bool) (n:Int):Ab × Bool:=((places z.1 j n l).1,z.2 && (places z.1 j n l).2)
def left (l:List Ac) (first:Bool) (last:Int):Nat:=(l.filter (fun x=>first || decide (last < x.node))).length
theorem OQ {s:Ab} {c:BV} (hj:AU s c.plan.job=none):plan s c=(s,⟨34,0,[]⟩):=by
 unfold plan;simp only [hj];rfl
theorem NW {s:Ab} {c:BV} (he:II s c.plan.job=none):plan s c=(s,⟨34,0,[]⟩):=by
 unfold plan;simp only [he];cases AU s c.plan.job <;> rfl
theorem Ja {s:Ab} {c:BV} {j:Aq} {e:EvalD} (hj:AU s c.plan.job=some j) (he:II s c.plan.job=some e) (hb:(!(j.ver == c.plan.ver) || !(e.state == 1) || !(e.index == c.plan.index))=true):plan s c=(s,⟨34,0,[]⟩):=by
 unfold plan;simp only [hj,he];rw [if_pos hb];rfl
theorem PQ {s:Ab} {c:BV} {j:Aq} {e:EvalD} (hj:AU s c.plan.job=some j) (he:II s c.plan.job=some e) (hb:(!(j.ver == c.plan.ver) || !(e.state == 1) || !(e.index == c.plan.index))=false) {z:Ab × Bool} (hz:(BK c.plan.places).foldl (CE j c.plan.places) (({ s with allocs:=stops c.plan.job s.allocs c.plan.stops }:Ab),true)=z) :
  plan s c=if !z.2 then ({ z.1 with evals:=Ap (fun e=>e.job == c.plan.job) (fun e=>{ e with index:=s.index }) z.1.evals },⟨35,s.index,[]⟩) else ({ z.1 with evals:=Ap (fun e=>e.job == c.plan.job) (fun e=>{ e with state:=if c.plan.blocked then 2 else 3 }) z.1.evals },⟨0,s.index,[]⟩):=by
 unfold plan;simp only [hj,he];rw [if_neg (by rw [hb];exact Bool.false_ne_true)]
 subst hz
 rfl
end Fsm
end
section
open Go.RowKit
abbrev Bl.ent (c:Bl) (ix term:Int):Array Value:=#[.int .i64 ix,.int .i64 term,.int .i64 c.op,.int .i64 c.client,.int .i64 c.req,.int .i64 c.job.id,.int .i64 c.job.ty,.int .i64 c.job.prio,.int .i64 c.job.par,.slice c.GA c.gn c.gc,.int .i64 c.job.ver,.bool c.job.stopped,
 .int .i64 c.node.id,.int .i64 c.node.cap.cpu,.int .i64 c.node.cap.mem,.bool c.node.up,.bool c.node.drain,.int .i64 c.node.boot,.int .i64 c.node.epoch,.int .i64 c.node.seq,.slice c.RA c.rn c.rc,
 .int .i64 c.pj,.int .i64 c.pv,.int .i64 c.pi,.slice c.SA c.sn c.sc,.slice c.PA c.pn c.pc,.bool c.blocked,c.v25,c.v26]
theorem Bl.Q9 (c:Bl) (ix term:Int):∀ (j:Nat) (u:Value),c.arr.toList[j]? = some u→(c.ent ix term)[2+j]? = some u:=fun j u hu=>by
 match j,hu with
 | 0,hu=>exact hu
 | 1,hu=>exact hu
 | 2,hu=>exact hu
 | 3,hu=>exact hu
 | 4,hu=>exact hu
 | 5,hu=>exact hu
 | 6,hu=>exact hu
 | 7,hu=>exact hu
 | 8,hu=>exact hu
 | 9,hu=>exact hu
 | 10,hu=>exact hu
 | 11,hu=>exact hu
 | 12,hu=>exact hu
 | 13,hu=>exact hu
 | 14,hu=>exact hu
 | 15,hu=>exact hu
 | 16,hu=>exact hu
 | 17,hu=>exact hu
 | 18,hu=>exact hu
 | 19,hu=>exact hu
 | 20,hu=>exact hu
 | 21,hu=>exact hu
 | 22,hu=>exact hu
 | 23,hu=>exact hu
 | 24,hu=>exact hu
 | 25,hu=>exact hu
 | 26,hu=>exact hu
 | (n+27),hu=>simp at hu
theorem Ra:KR Tryz.prog 51 27:=.of (by kernel_rfl)
section
variable {P:Program} {w:World} {ops:Array Oper} {rest:List Oper} {o:Oper} {a:Act} {Q:Exit→Act→World→Prop}
theorem Jf (hgd:o.guard=none) (ty:TypeId) (ho:o.op=.alloc ty) {sz:Nat} (E:KR P ty sz)
  (h:∀ (z:Array Value) (w' : World),z.size=sz→Blk w' w.heap.size ty z→Ext Nothing w w'→wpList P ops Q rest (a.put o.dst (.pointer (some ⟨w.heap.size,0,none⟩))) w'):wpList P ops Q (o :: rest) a w:=by
 refine wpList_plain hgd fun K hK=>?_
 obtain ⟨z,hz,hr⟩:=Je (ρ:=a.eval) ho E w
 unfold Oper.wp
 rw [hr]
 exact hK _ _ (h z _ hz (Blk.new w _ _) ((Ext.refl _ _).alloc _))
end
theorem Aw.base {b b' : Nat} {w:World} {s:Aa} (h:Aw b' w s) (hb:b≤b'):Aw b w s :=
 ⟨h.j.base hb,h.jl,h.t.base hb,h.tl,Bj h.n hb,h.nl,Bj h.a hb,h.al,Bj h.e hb,h.el,Bj h.d hb,h.dl,Bj h.x hb,h.xl,h.xa,h.sep⟩
theorem Dx.base {b b' : Nat} {w:World} {c:Bl} (h:Dx b w c) (hb:b≤b'):Dx b' w c :=
 ⟨h.g,h.gl,fun q e ne=>Nat.lt_of_lt_of_le (h.gb q e ne) hb,h.r,h.rl,fun q e ne=>Nat.lt_of_lt_of_le (h.rb q e ne) hb,h.s,h.sl,fun q e ne=>Nat.lt_of_lt_of_le (h.sb q e ne) hb,h.p,h.pl,fun q e ne=>Nat.lt_of_lt_of_le (h.pb q e ne) hb,h.o25,h.o26⟩
theorem EO.own {base:Nat} {W:World} {s s' : Aa} (C:EO base W s s') (hx:∀ y∈s.seen,y.1.answer.allocs=[]):Aw base W s':=by
 refine ⟨C.j,C.jl,C.t,C.tl,C.n,C.nl,C.a,C.al,C.e,C.el,C.d,C.dl,C.x.own,C.xl,fun y hy=>?_,C.sep⟩
 obtain ⟨x,hx1,e⟩:=EY C.xm hy
 have h0:y.1.answer.allocs=[]:=e ▸ hx x hx1
 obtain ⟨A,n,c,h1,_,h3,_⟩:=C.x.ans y hy
 rw [h0] at h3
 exact ⟨A,c,by rw [h1,h3];rfl,h0⟩
theorem EO.data {base:Nat} {W:World} {s s' : Aa} (C:EO base W s s'):s'.data=s.data:=by
 unfold Aa.data
 rw [C.index,C.next,C.jm,C.tm,C.nm,C.am,C.em,C.dm,C.xm]
namespace Fsm
theorem GX {s:Ab} {ix:Int} {c:BV} (h:(((c.op != 3) && (c.op != 4) && (c.op != 8)) || (c.client == 0))=true):apply s ix c=command { s with index:=ix } c:=by
 unfold apply
 simp only []
 rw [if_pos (by cases a:(c.op == 3) <;> cases b:(c.op == 4) <;> cases d:(c.op == 8) <;> simp_all [bne])]
theorem Ke {c:BV} (h:(((c.op != 3) && (c.op != 4) && (c.op != 8)) || (c.client == 0))=false):¬ (!(c.op == 3 || c.op == 4 || c.op == 8) || c.client == 0)=true:=by
 cases a:(c.op == 3) <;> cases b:(c.op == 4) <;> cases d:(c.op == 8) <;> simp_all [bne]
section
variable {s:Ab} {ix:Int} {c:BV} (h:(((c.op != 3) && (c.op != 4) && (c.op != 8)) || (c.client == 0))=false)
include h
theorem NI (ha:(decide (c.client < 1) || decide (4 < c.client) || decide (c.req < 1) || decide (1099511627776 < c.req))=true):apply s ix c=({ s with index:=ix },⟨1,0,[]⟩):=by
 unfold apply;simp only [];rw [if_neg (Ke h),if_pos (by simp at ha;unfold BU;omega)];rfl
variable (ha:(decide (c.client < 1) || decide (4 < c.client) || decide (c.req < 1) || decide (1099511627776 < c.req))=false)
include ha
theorem Mg:¬ (c.client < 1 ∨ 4 < c.client ∨ c.req < 1 ∨ BU < c.req):=by simp at ha;unfold BU;omega
theorem Ng {x:Co} (hf:s.seen.find? (fun x=>x.client == c.client && decide (c.req≤x.req))=some x) (hr:c.req < x.req):apply s ix c=({ s with index:=ix },⟨33,0,[]⟩):=by
 unfold apply;simp only [];rw [if_neg (Ke h),if_neg (Mg h ha),hf];simp only [];rw [if_pos hr];rfl
theorem LW {x:Co} (hf:s.seen.find? (fun x=>x.client == c.client && decide (c.req≤x.req))=some x) (hr:¬ c.req < x.req):apply s ix c=({ s with index:=ix },x.answer):=by
 unfold apply;simp only [];rw [if_neg (Ke h),if_neg (Mg h ha),hf];simp only [];rw [if_neg hr]
theorem Nq (hf:s.seen.find? (fun x=>x.client == c.client && decide (c.req≤x.req))=none) {z:Ab × AQ} (hz:command { s with index:=ix } c=z):apply s ix c=({ z.1 with seen:=Ak Co.client ⟨c.client,c.req,z.2⟩ z.1.seen },z.2):=by
 subst hz
 unfold apply;simp only [];rw [if_neg (Ke h),if_neg (Mg h ha),hf]
end
theorem Kn {s:Ab} {c:BV} (h:(((c.op != 3) && (c.op != 4) && (c.op != 8)) || (c.client == 0))=false) {z:Ab × AQ} (hz:command s c=z):z.2.allocs=[]:=by
 subst hz
 have h3:c.op=3 ∨ c.op=4 ∨ c.op=8:=by
  simp at h
  omega
 unfold command
 rcases h3 with h3|h3|h3
 ·simp only [h3];simp;unfold BZ;repeat' split
  all_goals rfl
 ·simp only [h3];simp;unfold cancel;split <;> rfl
 simp only [h3];simp;unfold drain;split <;> rfl
theorem Kh {s:Ab} {c:BV} {t:Ab} {r:AQ} (hz:command s c=(t,r)):t.seen.length≤s.seen.length:=by
 have h:=(ER s c).x
 rw [hz] at h
 exact h
end Fsm
theorem J4 (x:SeenV):∀ l:List SeenV,(Fsm.Ak (fun x:SeenV=>x.1.client) x l).map (·.1)=Fsm.Ak Co.client x.1 (l.map (·.1))
 | []=>rfl
 | y :: r=>by
  simp only [Fsm.Ak,List.map_cons]
  by_cases h:x.1.client≤y.1.client
  ·rw [if_pos h,if_pos h,List.map_cons]
   congr 1
   rw [← List.map_cons,List.filter_map]
   rfl
  rw [if_neg h,if_neg h,List.map_cons,J4 x r]
end
end Go.Proofs.YtccekmeifanipaaGreat
