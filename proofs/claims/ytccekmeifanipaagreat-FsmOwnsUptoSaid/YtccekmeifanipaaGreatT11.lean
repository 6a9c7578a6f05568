/- Parts of the proof: MPutEval MEval RefE RefC RefP RefSl RefK Cmd -/
import Derived.Test.YtccekmeifanipaaGreatT10
import Derived.Test.YtccekmeifanipaaGreatT03
import Derived.Test.YtccekmeifanipaaGreatT06
import Derived.Deep.CutRange
import Derived.Test.YtccekmeifanipaaGreatRows
import Derived.StillTailTactics
import Derived.Test.YtccekmeifanipaaGreatT09
import Derived.Test.YtccekmeifanipaaGreatT02
import Derived.Test.YtccekmeifanipaaGreatT07
import Derived.Deep.RegionWith
import Derived.OrdersHeld
namespace Go.Proofs.YtccekmeifanipaaGreat
set_option linter.unusedVariables false
set_option linter.unusedSimpArgs false
set_option linter.unusedSectionVars false
section
open Go.RowKit
theorem CV (y:EvalD) (w:World):Calls Tryz.prog 95 #[.agg #[.int .i64 y.job,.int .i64 y.prio,.int .i64 y.state,.int .i64 y.index]] w fun e w'=>e=.returned (.int .i64 y.job)∧Ext Nothing w w':=by
 have hx:Ext Nothing w (w.alloc (.cells #[.int .i64 y.job,.int .i64 y.prio,.int .i64 y.state,.int .i64 y.index] 68)):=Ext.Ay
 have hb:Blk (w.alloc (.cells #[.int .i64 y.job,.int .i64 y.prio,.int .i64 y.state,.int .i64 y.index] 68)) w.heap.size 68 #[.int .i64 y.job,.int .i64 y.prio,.int .i64 y.state,.int .i64 y.index]:=Blk.new _ _ _
 go_enter Tryz.func95,Tryz.ntmps95
 go_wp2
 go_ret
 exact ⟨rfl,hx⟩
set_option maxRecDepth 20000 in
set_option maxHeartbeats 4000000 in
theorem Po (base:Nat) (A:Option Addr) (c:Nat) (l:List EvalD) (x:EvalD) (w:World) (h:w.ownsRow base 68 4 (.slice A l.length c) l.length (l.flatMap EvalD.cells)) (hb:base≤w.heap.size) (hl:l.length≤67108862) (hu:Fsm.Up EvalD.job l) :
  Calls Tryz.prog 94 #[.slice A l.length c,.agg #[.int .i64 x.job,.int .i64 x.prio,.int .i64 x.state,.int .i64 x.index],.func (.func 95) #[] #[]] w fun e w'=>∃ A' c',e=.returned (.slice A' (Fsm.Ak EvalD.job x l).length c')∧w'.ownsRow base 68 4 (.slice A' (Fsm.Ak EvalD.job x l).length c') (Fsm.Ak EvalD.job x l).length ((Fsm.Ak EvalD.job x l).flatMap EvalD.cells)∧(∀ q,(Value.slice A' (Fsm.Ak EvalD.job x l).length c').ownBlock=some q→(Value.slice A l.length c).ownBlock=some q ∨ w.heap.size≤q)∧Ext (fun q=>(Value.slice A l.length c).ownBlock=some q) w w':=by
 have hx0:Ext Nothing w (w.alloc (.cells #[.int .i64 x.job,.int .i64 x.prio,.int .i64 x.state,.int .i64 x.index] 68)):=Ext.Ay
 have hB0:Blk (w.alloc (.cells #[.int .i64 x.job,.int .i64 x.prio,.int .i64 x.state,.int .i64 x.index] 68)) w.heap.size 68 #[.int .i64 x.job,.int .i64 x.prio,.int .i64 x.state,.int .i64 x.index]:=Blk.new _ _ _
 go_enter Tryz.func94,Tryz.ntmps94
 go_wp2
 go_loopw [11] (fun i wr=>∃ k:Nat,k≤l.length∧i=.int .i64 k∧(∀ j < k,∀ z,l[j]? = some z→EvalD.job z < x.job)∧Ext Nothing w wr∧Blk wr w.heap.size 68 #[.int .i64 x.job,.int .i64 x.prio,.int .i64 x.state,.int .i64 x.index]) (fun i _=>l.length - (intOf i).toNat)
 case atStart=>exact ⟨0,Nat.zero_le _,rfl,fun j hj=>absurd hj (by omega),hx0,hB0⟩
 case round =>
  obtain ⟨k,hk,rfl,hno,hxr,hB⟩:=hrel
  clear hB0 hx0
  by_cases hlt:k < l.length
  ·obtain ⟨g,cur,hAe,hbg,hg,hcs,hcap,hmax,htk,hset⟩:=DR (i:=k) (f:=EvalD.cells) (fun _=>rfl) h hlt
   obtain ⟨hjn,b,off,hAe2,hce⟩:=(Sl.Bd (f:=EvalD.cells) (fun _=>rfl) h rfl).get hxr hlt
   rw [hAe] at hAe2
   injection hAe2 with hAe2
   injection hAe2 with hAe3 hAe4
   subst hAe3 hAe4 hAe
   simp only [Nat.zero_add] at hce
   have hgw:g < w.heap.size:=hg.lt
   have hgr:=hg.e0 hxr
   have hne:w.heap.size ≠ g:=by omega
   have hy:l[k]? = some l[k]:=List.getElem?_eq_getElem hjn
   generalize l[k]=y at hce hy
   have hk0:(0:Int)≤(k:Int):=by omega
   have hk1:(k:Int) < l.length:=by omega
   have HY:=Lib.hid hy
   have HN:=Lib.hid hno
   have HS:=Lib.hid hset
   have HT:=Lib.hid htk
   have HC:=Lib.hid hcs
   have HU:=Lib.hid hu
   have H:=Lib.hid h
   clear hy hno hset htk hcs hu h
   rcases Int.lt_trichotomy y.job x.job with hc|hc|hc
   ·have q1:(y.job == x.job)=false:=by simp;omega
    have q2:¬ (y.job > x.job):=by omega
    have q3:¬ (y.job=x.job):=by omega
    go_wp2_with (first|go_skip|go_guarded|((with_reducible refine isW ?_);refine Ad rfl 68 _ rfl Dt g (k*4) rfl #[.int .i64 y.job,.int .i64 y.prio,.int .i64 y.state,.int .i64 y.index] hce rfl ?_)|((with_reducible refine isW ?_);refine Ae rfl 68 _ rfl Dt w.heap.size rfl #[.int .i64 x.job,.int .i64 x.prio,.int .i64 x.state,.int .i64 x.index] (show Blk _ _ _ _ from by first|exact hB2|exact hB1|exact hB) rfl ?_)|(go_at_call 95;(with_reducible refine (CV y wr).mono ?_);rintro e w1 ⟨rfl,hx1⟩;have hB1:=hB.e0 hx1)|(go_at_call 95;(with_reducible refine (CV x w1).mono ?_);rintro e w2 ⟨rfl,hx2⟩;have hB2:=hB1.e0 hx2)|(go_at_call 95;(with_reducible refine (CV x w2).mono ?_);rintro e w3 ⟨rfl,hx3⟩;have hB3:=hB2.e0 hx3))
    go_roundw
    case rel =>
     refine ⟨k+1,hlt,by go_num,fun j hj z hz=>?_,((hxr.tr hx1).tr hx2).tr hx3,hB3⟩
     rcases Nat.lt_or_ge j k with h1|h1
     ·exact HN.out j h1 z hz
     obtain rfl:j=k:=by omega
     rw [HY.out] at hz;cases hz;exact hc
    case measure=>simp [intOf];omega
   ·have q1:(y.job == x.job)=true:=by simpa using hc
    have HCC:=Lib.hid hc
    clear hc
    have h0s:k*4+4≤cur.size:=by rw [HC.out];have:=Nat.mul_le_mul_right 4 (show k+1≤c by omega);omega
    go_wp2_with (first|go_skip|go_guarded|((with_reducible refine isW ?_);refine Ad rfl 68 _ rfl Dt g (k*4) rfl #[.int .i64 y.job,.int .i64 y.prio,.int .i64 y.state,.int .i64 y.index] hce rfl ?_)|((with_reducible refine isW ?_);refine Ae rfl 68 _ rfl Dt w.heap.size rfl #[.int .i64 x.job,.int .i64 x.prio,.int .i64 x.state,.int .i64 x.index] (show Blk _ _ _ _ from by first|exact hB2|exact hB1|exact hB) rfl ?_)|(go_at_call 95;(with_reducible refine (CV y wr).mono ?_);rintro e w1 ⟨rfl,hx1⟩;have hB1:=hB.e0 hx1)|(go_at_call 95;(with_reducible refine (CV x w1).mono ?_);rintro e w2 ⟨rfl,hx2⟩;have hB2:=hB1.e0 hx2)|((with_reducible refine isW ?_);refine wpList_store_row rfl 68 _ _ rfl Dt g (k*4) rfl #[.int .i64 x.job,.int .i64 x.prio,.int .i64 x.state,.int .i64 x.index] rfl (show Blk _ _ _ _ from (hgr.e0 hx1).e0 hx2) h0s rfl rfl ?_;intro w9 hB9 hx9))
    go_ret
    have e9:=Fsm.Ez HU.out HY.out HN.out HCC.out
    exact ⟨some ⟨g,0,none⟩,c,by rw [e9,List.length_set];rfl,by rw [e9,List.length_set];exact HS.out x w9 hB9,fun q hq=>.inl hq,((hxr.tr hx1).tr hx2).any.trans hx9 (fun b hb e=>by rw [show b=g from e];rfl)⟩
   have q1:(y.job == x.job)=false:=by simp;omega
   have q2:y.job > x.job:=by omega
   have q3:¬ (y.job=x.job):=by omega
   have e9:=Lib.hid (Fsm.Dk HU.out HY.out HN.out hc)
   have e8:(l.take k ++ x :: l.drop k).length=l.length+1:=by simp;omega
   have E8:=Lib.hid e8
   clear e8
   by_cases hroom:l.length+1≤c
   ·go_wp2_with (first|go_skip|go_guarded|((with_reducible refine isW ?_);refine Ad rfl 68 _ rfl Dt g (k*4) rfl #[.int .i64 y.job,.int .i64 y.prio,.int .i64 y.state,.int .i64 y.index] hce rfl ?_)|((with_reducible refine isW ?_);refine Ae rfl 68 _ rfl Dt w.heap.size rfl #[.int .i64 x.job,.int .i64 x.prio,.int .i64 x.state,.int .i64 x.index] (show Blk _ _ _ _ from by first|exact hB3|exact hB2|exact hB1|exact hB) rfl ?_)|(go_at_call 95;(with_reducible refine (CV y wr).mono ?_);rintro e w1 ⟨rfl,hx1⟩;have hB1:=hB.e0 hx1)|(go_at_call 95;(with_reducible refine (CV x w1).mono ?_);rintro e w2 ⟨rfl,hx2⟩;have hB2:=hB1.e0 hx2)|(go_at_call 95;(with_reducible refine (CV x w2).mono ?_);rintro e w3 ⟨rfl,hx3⟩;have hB3:=hB2.e0 hx3)|((with_reducible refine isW ?_);refine AZ rfl 26 _ rfl EE #[.int .i64 x.job,.int .i64 x.prio,.int .i64 x.state,.int .i64 x.index] rfl rfl ?_)|(go_at_call 118;(refine (Ls base g c k w3.heap.size l x cur (w3.alloc (.cells #[.int .i64 x.job,.int .i64 x.prio,.int .i64 x.state,.int .i64 x.index] 68)) (((hgr.e0 hx1).e0 hx2).e0 (hx3.tr Ext.Ay)) HC.out HT.out hlt (Blk.new _ _ _) (by have:=hx1.size;have:=hx2.size;have:=hx3.size;have:=hxr.size;omega) hroom hmax hl).mono ?_);rintro e w9 ⟨rfl,hcc,hx9⟩))
    go_ret
    obtain ⟨cs9,hb9,hs9,ht9⟩:=hcc
    have hxA:Ext Nothing w (w3.alloc (.cells #[.int .i64 x.job,.int .i64 x.prio,.int .i64 x.state,.int .i64 x.index] 68)):=(((hxr.tr hx1).tr hx2).tr hx3).alloc _
    refine ⟨some ⟨g,0,none⟩,c,by rw [e9.out,E8.out];rfl,?_,fun q hq=>.inl hq,hxA.any.trans hx9 (fun b hb e=>by rw [show b=g from e];rfl)⟩
    rw [e9.out,E8.out]
    refine ⟨?_,.inr ⟨g,c,cs9,rfl,hbg,hb9,hroom,hmax,hs9,ht9⟩⟩
    rw [← ht9,List.length_take,Array.length_toList (xs:=cs9),hs9]
    exact Nat.min_eq_left (Nat.mul_le_mul_right _ hroom)
   go_wp2_with (first|go_skip|go_guarded|((with_reducible refine isW ?_);refine Ad rfl 68 _ rfl Dt g (k*4) rfl #[.int .i64 y.job,.int .i64 y.prio,.int .i64 y.state,.int .i64 y.index] hce rfl ?_)|((with_reducible refine isW ?_);refine Ae rfl 68 _ rfl Dt w.heap.size rfl #[.int .i64 x.job,.int .i64 x.prio,.int .i64 x.state,.int .i64 x.index] (show Blk _ _ _ _ from by first|exact hB3|exact hB2|exact hB1|exact hB) rfl ?_)|(go_at_call 95;(with_reducible refine (CV y wr).mono ?_);rintro e w1 ⟨rfl,hx1⟩;have hB1:=hB.e0 hx1)|(go_at_call 95;(with_reducible refine (CV x w1).mono ?_);rintro e w2 ⟨rfl,hx2⟩;have hB2:=hB1.e0 hx2)|(go_at_call 95;(with_reducible refine (CV x w2).mono ?_);rintro e w3 ⟨rfl,hx3⟩;have hB3:=hB2.e0 hx3)|((with_reducible refine isW ?_);refine AZ rfl 26 _ rfl EE #[.int .i64 x.job,.int .i64 x.prio,.int .i64 x.state,.int .i64 x.index] rfl rfl ?_)|(go_at_call 118;(refine (Lc g c k w3.heap.size l x cur (w3.alloc (.cells #[.int .i64 x.job,.int .i64 x.prio,.int .i64 x.state,.int .i64 x.index] 68)) (((hgr.e0 hx1).e0 hx2).e0 (hx3.tr Ext.Ay)) HC.out HT.out hlt (Blk.new _ _ _) hcap (by omega) (by omega)).mono ?_);rintro e w9 ⟨G,hG1,hG2,rfl,hcc,hx9⟩))
   go_ret
   obtain ⟨cs9,hb9,hs9,ht9⟩:=hcc
   have hxA:Ext Nothing w (w3.alloc (.cells #[.int .i64 x.job,.int .i64 x.prio,.int .i64 x.state,.int .i64 x.index] 68)):=(((hxr.tr hx1).tr hx2).tr hx3).alloc _
   have hz9:(w3.alloc (.cells #[.int .i64 x.job,.int .i64 x.prio,.int .i64 x.state,.int .i64 x.index] 68)).heap.size=w3.heap.size+1:=by simp
   have hzA:=hxA.size
   rw [hz9] at hb9 hzA
   refine ⟨some ⟨_,0,none⟩,G,by rw [e9.out,E8.out];rfl,?_,fun q hq=>.inr (by simp [Value.ownBlock] at hq;omega),(hxA.tr hx9).any⟩
   rw [e9.out,E8.out]
   refine ⟨?_,.inr ⟨_,G,cs9,rfl,by omega,hb9,hG1,hG2,hs9,ht9⟩⟩
   rw [← ht9,List.length_take,Array.length_toList (xs:=cs9),hs9]
   exact Nat.min_eq_left (Nat.mul_le_mul_right _ hG1)
  have hkl:k=l.length:=by omega
  have e9:=Lib.hid (Fsm.EC (key:=EvalD.job) (x:=x) (l:=l) (fun z hz=>by obtain ⟨j,hj⟩:=List.mem_iff_getElem?.1 hz;exact hno j (by have:=(List.getElem?_eq_some_iff.1 hj).1;omega) z hj))
  have hnl:¬ ((k:Int) < l.length):=by omega
  have ho:=Am h hxr (fun _ _ e=>e)
  clear hno hkl
  go_wp2_with (first|go_skip|go_guarded|((with_reducible refine isW ?_);refine Ae rfl 68 _ rfl Dt w.heap.size rfl #[.int .i64 x.job,.int .i64 x.prio,.int .i64 x.state,.int .i64 x.index] (show Blk _ _ _ _ from hB) rfl ?_)|((with_reducible refine Jh ?_);refine Cw rfl rfl 26 _ rfl _ _ rfl EE #[.int .i64 x.job,.int .i64 x.prio,.int .i64 x.state,.int .i64 x.index] rfl rfl base (.slice A l.length c) l.length (l.flatMap EvalD.cells) rfl rfl ho rfl (by omega) (by have:=hxr.size;omega) ?_;intro A2 c2 w9 o9 hx9 hq9))
  go_ret
  have o8:=CG (x:=x) o9 rfl rfl
  exact ⟨A2,c2,by rw [e9.out,List.length_append];rfl,by rw [e9.out];exact o8,fun q hq=>(hq9 q (by cases A2 <;> exact hq)).imp id (fun h=>by have:=hxr.size;omega),hxr.any.tr hx9⟩
end
section
open Go.RowKit
theorem FK {α β:Type} {p:β→Bool} {f:α→β} {l:List α} (h:l.find? (fun x=>p (f x))=none):(l.map f).find? p=none:=by
 rw [List.find?_map];simp only [Function.comp_def];rw [h];rfl
theorem Jj {α β:Type} {p:β→Bool} {f:α→β} {l:List α} {x:α} (h:l.find? (fun x=>p (f x))=some x):(l.map f).find? p=some (f x):=by
 rw [List.find?_map];simp only [Function.comp_def];rw [h];rfl
theorem Cc {s:Aa} (h:s.nE=s.evals.length):s.Bf s.AE s.cE s.evals=s:=by unfold Aa.Bf;rw [← h]
theorem Az.at {base b:Nat} {W:World} {s:Aa} {cm:Bool} (h:Az base W b s cm):∀ (j:Nat) (u:Value),s.arr.toList[j]? = some u→W.cell? ⟨b,0+j,none⟩=some u:=fun j u hu=>by
 rw [Nat.zero_add,h.blk.cell]
 match j,hu with
 | 0,hu=>exact hu
 | 1,hu=>exact hu
 | 2,hu=>exact hu
 | 3,hu=>exact hu
 | 4,hu=>exact hu
 | 5,hu=>exact hu
 | 6,hu=>exact hu
 | 7,hu=>exact hu
 | 8,hu=>exact hu
 | (n+9),hu=>simp at hu
set_option maxRecDepth 20000 in
set_option maxHeartbeats 4000000 in
theorem Ef (base b:Nat) (s:Aa) (cm:Bool) (k:Int) (w:World) (hM:Az base w b s cm) (hb:base≤w.heap.size) (hJ:s.jobs.length≤67108864) (hE:s.evals.length≤67108862) (hu:Fsm.Up EvalD.job s.evals) :
  Calls Tryz.prog 64 #[.pointer (some ⟨b,0,none⟩),.int .i64 k] w fun e w'=>∃ A c l,e=.returned (.tuple #[])∧Az base w' b (s.Bf A c l) cm∧(s.Bf A c l).data=Fsm.eval s.data k∧Step w w' b s (s.Bf A c l):=by
 have hsJ:=hM.own.slJ
 have hnl:=Lib.hid hM.own.jl
 have hel:=Lib.hid hM.own.el
 have hnJ:s.nJ≤67108864:=by have:=hM.own.jl;omega
 rcases AV (fun y:JobV=>y.1.id == k) s.jobs with ⟨hi,hf,hno⟩|⟨i,x,hi,hxi,hp,hf,_⟩
 ·have HI:=Lib.hid hi
  have HF:=Lib.hid (show Fsm.eval s.data k=s.data by unfold Fsm.eval Fsm.AU;rw [show s.data.jobs.find? (fun j=>j.id == k)=none from FK hf])
  clear hi hf hno
  go_enter Tryz.func64,Tryz.ntmps64
  go_wp2_with (first|go_skip|go_guarded|((with_reducible refine isW ?_);refine Ad rfl 30 _ rfl Aj b 0 rfl s.arr (hM.at) rfl ?_)|(go_at_call 61;(with_reducible refine (Bu s.AJ s.nJ s.cJ s.jobs k w hsJ hnJ _ _ _ _ _ _ _ _ _ rfl).mono ?_);rintro e w1 ⟨rfl,hx1⟩;(rw [HI.out])))
  go_end0
  exact ⟨s.AE,s.cE,s.evals,rfl,by rw [Cc hel.out];exact hM.e0 hx1,by rw [Cc hel.out];exact HF.out.symm,by rw [Cc hel.out];exact Step.of0 hx1⟩
 have HI:=Lib.hid hi
 have HF:=Lib.hid (show Fsm.eval s.data k={ s.data with evals:=Fsm.Ak EvalD.job ⟨k,x.1.prio,1,s.index⟩ s.evals } by unfold Fsm.eval Fsm.AU;rw [show s.data.jobs.find? (fun j=>j.id == k)=some x.1 from Jj hf];rfl)
 obtain ⟨hi1,hi2⟩:=List.getElem?_eq_some_iff.1 hxi
 obtain ⟨_,g,off,hAe,hce⟩:=hsJ.get (Ext.refl Nothing w) (k:=i) (by have:=hnl.out;omega)
 rw [hi2] at hce
 have hk0:(0:Int)≤(i:Int):=by omega
 have hk1:(i:Int) < s.nJ:=by have:=hnl.out;omega
 have hng:¬ ((i:Int) < 0):=by omega
 have j2:w.cell? ⟨g,off+i*7+2,none⟩=some (.int .i64 x.1.prio):=hce 2 _ rfl
 have HA:=Lib.hid hAe
 clear hi hf hxi hi2 hAe hp hce
 go_enter Tryz.func64,Tryz.ntmps64
 go_upto_region 2 with (first|go_skip|go_guarded|((with_reducible refine isW ?_);refine Ad rfl 30 _ rfl Aj b 0 rfl s.arr (hM.at) rfl ?_)|(go_at_call 61;(with_reducible refine (Bu s.AJ s.nJ s.cJ s.jobs k w hsJ hnJ _ _ _ _ _ _ _ _ _ rfl).mono ?_);rintro e w1 ⟨rfl,hx1⟩;(rw [HI.out])))
 have hM1:=hM.e0 hx1
 have m6:w1.cell? ⟨b,6,none⟩=some (.slice s.AE s.nE s.cE):=hM1.blk.cell 6
 have m9:w1.cell? ⟨b,9,none⟩=some (.int .i64 s.index):=hM1.blk.cell 9
 have m2:w1.cell? ⟨b,2,none⟩=some (.slice (some ⟨g,off,none⟩) s.nJ s.cJ):=by rw [← HA.out];exact hM1.blk.cell 2
 have j2:=hx1.c0 j2
 have hoe:=hM1.own.e
 rw [hel.out] at hoe
 have hbw:=hx1.size
 have hd:Ext Nothing w1 w1.drew:=(Ext.refl _ _).drew
 refine zS (S:=fun W'=>Ext (fun q=>q=b ∨ (Value.slice s.AE s.evals.length s.cE).ownBlock=some q) w1 W'∧W'.cell? ⟨b,2,none⟩=some (.slice (some ⟨g,off,none⟩) s.nJ s.cJ)∧W'.cell? ⟨b,9,none⟩=some (.int .i64 s.index)∧W'.cell? ⟨g,off+i*7+2,none⟩=some (.int .i64 x.1.prio)) (by kernel_rfl) ?_
 have hS:=And.intro (hd.any (S:=fun q=>q=b ∨ (Value.slice s.AE s.evals.length s.cE).ownBlock=some q)) (And.intro (hd.c0 m2) (And.intro (hd.c0 m9) (hd.c0 j2)))
 generalize w1.drew=W at hd hS ⊢
 refine zV 0 (.pointer (some ⟨b,0,none⟩)) rfl (by kernel_rfl) hS (fun _ _ _ h=>h) (fun W' hS'=>by go_simp) ?_
 refine zV 1 (.pointer (some ⟨b,0,none⟩)) rfl (by kernel_rfl) hS (fun _ _ _ h=>h) (fun W' hS'=>by go_simp) ?_
 refine zV 2 (.pointer (some ⟨b,0,none⟩)) rfl (by kernel_rfl) hS (fun _ _ _ h=>h) (fun W' hS'=>by go_simp) ?_
 refine zV 3 (.pointer (some ⟨b,0,none⟩)) rfl (by kernel_rfl) hS (fun _ _ _ h=>h) (fun W' hS'=>by go_simp) ?_
 refine zV 4 (.pointer (some ⟨b,6,none⟩)) rfl (by kernel_rfl) hS (fun _ _ _ h=>h) (fun W' hS'=>by go_simp) ?_
 refine zV 6 (.int .i64 k) rfl (by kernel_rfl) hS (fun _ _ _ h=>h) (fun W' hS'=>by go_simp) ?_
 refine zV 7 (.pointer (some ⟨b,0,none⟩)) rfl (by kernel_rfl) hS (fun _ _ _ h=>h) (fun W' hS'=>by go_simp) ?_
 refine zV 8 (.pointer (some ⟨b,0,none⟩)) rfl (by kernel_rfl) hS (fun _ _ _ h=>h) (fun W' hS'=>by go_simp) ?_
 refine zV 9 (.pointer (some ⟨b,0,none⟩)) rfl (by kernel_rfl) hS (fun _ _ _ h=>h) (fun W' hS'=>by go_simp) ?_
 refine zV 10 (.pointer (some ⟨b,2,none⟩)) rfl (by kernel_rfl) hS (fun _ _ _ h=>h) (fun W' hS'=>by go_simp) ?_
 refine zV 11 (.slice (some ⟨g,off,none⟩) s.nJ s.cJ) rfl (by kernel_rfl) hS (fun _ _ _ h=>h) (fun W' hS'=>by have q2:=hS'.2.1;go_simp) ?_
 refine zV 12 (.int .i64 (i:Int)) rfl (by kernel_rfl) hS (fun _ _ _ h=>h) (fun W' hS'=>by go_simp) ?_
 refine zV 13 (.pointer (some ⟨g,off+i*7,none⟩)) rfl (by kernel_rfl) hS (fun _ _ _ h=>h) (fun W' hS'=>by go_simp) ?_
 refine zV 14 (.pointer (some ⟨g,off+i*7+2,none⟩)) rfl (by kernel_rfl) hS (fun _ _ _ h=>h) (fun W' hS'=>by go_simp) ?_
 refine zV 15 (.int .i64 x.1.prio) rfl (by kernel_rfl) hS (fun _ _ _ h=>h) (fun W' hS'=>by have q2:=hS'.2.2.2;go_simp) ?_
 refine zV 16 (.pointer (some ⟨b,0,none⟩)) rfl (by kernel_rfl) hS (fun _ _ _ h=>h) (fun W' hS'=>by go_simp) ?_
 refine zV 17 (.pointer (some ⟨b,0,none⟩)) rfl (by kernel_rfl) hS (fun _ _ _ h=>h) (fun W' hS'=>by go_simp) ?_
 refine zV 18 (.pointer (some ⟨b,9,none⟩)) rfl (by kernel_rfl) hS (fun _ _ _ h=>h) (fun W' hS'=>by go_simp) ?_
 refine zV 19 (.int .i64 s.index) rfl (by kernel_rfl) hS (fun _ _ _ h=>h) (fun W' hS'=>by have q2:=hS'.2.2.1;go_simp) ?_
 refine zV 20 (.agg #[.int .i64 k,.int .i64 x.1.prio,.int .i64 1,.int .i64 s.index]) rfl (by kernel_rfl) hS (fun _ _ _ h=>h) (fun W' hS'=>by go_simp) ?_
 (try simp only [Act.put,zA,zB,zC,zD,zE,zF])
 refine zO 5 (by kernel_rfl) ?_
 have hMW:=hM1.e0 hd
 obtain ⟨csj,hBj⟩:=CY hMW.own.j.own (show (Value.slice s.AJ s.nJ s.cJ).ownBlock=some g by rw [HA.out];rfl)
 have hgb:¬ (g=b):=Blk.ne hBj hMW.blk (by decide)
 have hoW:=Am hoe hd (fun _ _ e=>e)
 have q6:W.cell? ⟨b,6,none⟩=some (.slice s.AE s.nE s.cE):=hMW.blk.cell 6
 have hdw:=hd.size
 refine wpOp_val (v:=.slice s.AE s.evals.length s.cE) (w':=W) rfl (by rfl) (by rw [← hel.out];go_simp) ⟨hS,?_⟩
 (try simp only [Act.put,zA,zB,zC,zD,zE,zF])
 refine zO 21 (by kernel_rfl) ?_
 refine Ai (f:=94) (args:=#[.slice s.AE s.evals.length s.cE,.agg #[.int .i64 k,.int .i64 x.1.prio,.int .i64 1,.int .i64 s.index],.func (.func 95) #[] #[]]) rfl (by rfl) (by go_simp) ((Po base s.AE s.cE s.evals ⟨k,x.1.prio,1,s.index⟩ W hoW (by omega) hE hu).mono ?_)
 rintro e w3 ⟨A',c',rfl,ho3,hq3,hx3⟩
 have hng2:¬ ((Value.slice s.AE s.evals.length s.cE).ownBlock=some g):=fun e=>own_ne hoW hBj (by decide) e
 have hnb:¬ ((Value.slice s.AE s.evals.length s.cE).ownBlock=some b):=fun e=>own_ne hoW hMW.blk (by decide) e
 have hS3:=And.intro (hS.1.trans hx3 (fun q hq e=>.inr e)) (And.intro (hx3.cell hS.2.1 hnb) (And.intro (hx3.cell hS.2.2.1 hnb) (hx3.cell hS.2.2.2 hng2)))
 refine ⟨_,rfl,hS3,?_⟩
 (try simp only [Act.put,zA,zB,zC,zD,zE,zF])
 refine zV 22 (.pointer (some ⟨b,0,none⟩)) rfl (by kernel_rfl) hS3 (fun _ _ _ h=>h) (fun W' hS'=>by go_simp) ?_
 refine zV 23 (.pointer (some ⟨b,0,none⟩)) rfl (by kernel_rfl) hS3 (fun _ _ _ h=>h) (fun W' hS'=>by go_simp) ?_
 refine zV 24 (.pointer (some ⟨b,6,none⟩)) rfl (by kernel_rfl) hS3 (fun _ _ _ h=>h) (fun W' hS'=>by go_simp) ?_
 (try simp only [Act.put,zA,zB,zC,zD,zE,zF])
 refine zO 25 (by kernel_rfl) ?_
 have hB3:=hMW.blk.ext hx3 hnb
 have m6:w3.cell? ⟨b,6,none⟩=some (.slice s.AE s.nE s.cE):=hB3.cell 6
 have m6f:w3.frozen? ⟨b,6,none⟩=false:=hB3.frozen 6
 have hs6:Ext (fun q=>q=b) w3 (w3.setCell ⟨b,6,none⟩ (.slice A' (Fsm.Ak EvalD.job ⟨k,x.1.prio,1,s.index⟩ s.evals).length c')):=Ext.set1 _ _ _ _
 refine AC (w':=w3.setCell ⟨b,6,none⟩ (.slice A' (Fsm.Ak EvalD.job ⟨k,x.1.prio,1,s.index⟩ s.evals).length c')) rfl (by rfl) (by go_simp) ⟨And.intro (hS3.1.trans hs6 (fun q hq e=>.inl e)) (And.intro (cell_set_ne hS3.2.1 (by decide) hB3) (And.intro (cell_set_ne hS3.2.2.1 (by decide) hB3) (hs6.cell hS3.2.2.2 hgb))),?_⟩
 (try simp only [Act.put,zA,zB,zC,zD,zE,zF])
 refine wpAnyH_done (by kernel_rfl) ?_ _
 (try simp only [Act.put,zA,zB,zC,zD,zE,zF])
 go_wp2
 go_end0
 have hO3:Aw base w3 (s.Bf A' c' (Fsm.Ak EvalD.job ⟨k,x.1.prio,1,s.index⟩ s.evals)):=hMW.own.wE hx3 (Apart.row hoW (by decide)) ho3
 exact ⟨A',c',_,rfl,⟨hB3.Bi 6 _,hO3.keep hs6 (Apart.one hB3 (by decide)),hM.lo⟩,HF.out.symm,((Step.of0 (hx1.tr hd)).put hx3 (fun q hq=>MW.oE hq) (MW.Bf hq3)).cell (.inl rfl) (fun q hq=>hq) _⟩
end
section
open Go.RowKit
def GU (s t:Aa):Prop:=∃ A n c l,t=({ s with AE:=A,nE:=n,cE:=c,evals:=l }:Aa)
theorem GU.refl (s:Aa):GU s s:=⟨s.AE,s.nE,s.cE,s.evals,rfl⟩
theorem GU.trans {s t u:Aa} (h:GU s t) (k:GU t u):GU s u:=by
 obtain ⟨A,n,c,l,rfl⟩:=h
 obtain ⟨A',n',c',l',rfl⟩:=k
 exact ⟨A',n',c',l',rfl⟩
theorem GU.set (s:Aa) (A:Option Addr) (c:Nat) (l:List EvalD):GU s (s.Bf A c l):=⟨A,l.length,c,l,rfl⟩
theorem Cs {s:Aa} {job:Int} {x:JobV} (hf:s.jobs.find? (fun x:JobV=>x.1.id == job)=some x):Fsm.AU s.data job=some x.1:=by
 show (s.jobs.map (·.1)).find? (fun j=>j.id == job)=_
 rw [List.find?_map]
 show Option.map (·.1) (s.jobs.find? (fun x:JobV=>x.1.id == job))=_
 rw [hf];rfl
theorem Ct {s:Aa} {job:Int} (hf:s.jobs.find? (fun x:JobV=>x.1.id == job)=none):Fsm.AU s.data job=none:=by
 show (s.jobs.map (·.1)).find? (fun j=>j.id == job)=_
 rw [List.find?_map]
 show Option.map (·.1) (s.jobs.find? (fun x:JobV=>x.1.id == job))=_
 rw [hf];rfl
end
section
open Go.RowKit
theorem Er {α:Type} {f:α→List Value} {w:World} {base e sz n g c:Nat} {xs:List α} (hf:∀ x,(f x).length=sz) (h:w.ownsRow base e sz (.slice (some ⟨g,0,none⟩) n c) n (xs.flatMap f)) (hn:n=xs.length) {i:Nat} {x:α} (hi:xs[i]? = some x) {j:Nat} {u:Value} (hj:(f x)[j]? = some u):w.cell? ⟨g,i*sz+j,none⟩=some u:=by
 obtain ⟨b,off,hA,_,hc⟩:=(Sl.Bd hf h hn).2 i (f x) (by simp [hi])
 injection hA with hA
 injection hA with h1 h2
 subst h1;subst h2
 have:=hc j u hj
 rwa [Nat.zero_add] at this
theorem OA {ix:Int} {e:EvalD} (h:(e.state == 2 || e.state == 1)=false):Fsm.Br ix e=e:=by unfold Fsm.Br;rw [h];rfl
theorem Mc {ix:Int} {e:EvalD} (h:(e.state == 2 || e.state == 1)=true):Fsm.Br ix e={ e with state:=1,index:=ix }:=by unfold Fsm.Br;rw [h];rfl
end
section
open Go.RowKit
theorem Aw.inN {base:Nat} {W W' : World} {s:Aa} {l:List NodD} (h:Aw base W s) (hx:Ext (fun q=>(vN s).ownBlock=some q) W W') (o:W'.ownsRow base 43 8 (.slice s.AN s.nN s.cN) s.nN (l.flatMap NodD.cells)) (hn:s.nN=l.length):Aw base W' { s with nodes:=l }:=by
 have hS:Apart W (fun q=>(vN s).ownBlock=some q) [39,66,55,68,74,89]:=Apart.row h.n (by decide)
 exact ⟨h.j.keep hx (hS.less (by decide)),h.jl,h.t.keep hx (hS.less (by decide)),h.tl,(show W'.ownsRow base _ _ (.slice s.AN s.nN s.cN) l.length _ from hn ▸ o),hn,Ag h.a hx (hS.less (by decide)),h.al,Ag h.e hx (hS.less (by decide)),h.el,Ag h.d hx (hS.less (by decide)),h.dl,Ag h.x hx (hS.less (by decide)),h.xl,h.xa,h.sep⟩
theorem Aw.IY {base:Nat} {W:World} {s:Aa} (h:Aw base W s) {i:Nat} {x:NodD} (hi:s.nodes[i]? = some x):∃ g cur,s.AN=some ⟨g,0,none⟩∧(vN s).ownBlock=some g∧Blk W g 43 cur∧(i:Int) < s.nN ∧
  (∀ j u,(NodD.cells x)[j]? = some u→W.cell? ⟨g,i*8+j,none⟩=some u) ∧
  (∀ j u x',j < 8→NodD.cells x' = (NodD.cells x).set j u→Aw base (W.setCell ⟨g,i*8+j,none⟩ u) { s with nodes:=s.nodes.set i x' }):=by
 have hlt:=(List.getElem?_eq_some_iff.1 hi).1
 have ho:W.ownsRow base 43 8 (.slice s.AN s.nN s.cN) s.nN (s.nodes.flatMap NodD.cells):=by have:=h.n;rwa [← h.nl] at this
 obtain ⟨g,cur,hA,hob,hg⟩:=GL ho h.nl hlt
 have ho2:=ho
 rw [hA] at ho2
 refine ⟨g,cur,hA,hob,hg,by have:=h.nl;omega,fun j u hu=>Er (f:=NodD.cells) (sz:=8) (fun _=>rfl) ho2 h.nl hi hu,fun j u x' hj hx'=>?_⟩
 exact h.inN ((Ext.set1 W g (i*8+j) u).mono (fun b _ e=>by rw [show b=g from e];exact hob)) (Ff (f:=NodD.cells) (sz:=8) (x':=x') (fun _=>rfl) ho h.nl hi hj hx' hA) (by rw [List.length_set];exact h.nl)
theorem Aw.inA {base:Nat} {W W' : World} {s:Aa} {l:List Ac} (h:Aw base W s) (hx:Ext (fun q=>(vA s).ownBlock=some q) W W') (o:W'.ownsRow base 55 11 (.slice s.AA s.nA s.cA) s.nA (l.flatMap Ac.cells)) (hn:s.nA=l.length):Aw base W' { s with allocs:=l }:=by
 have hS:Apart W (fun q=>(vA s).ownBlock=some q) [39,66,43,68,74,89]:=Apart.row h.a (by decide)
 exact ⟨h.j.keep hx (hS.less (by decide)),h.jl,h.t.keep hx (hS.less (by decide)),h.tl,Ag h.n hx (hS.less (by decide)),h.nl,(show W'.ownsRow base _ _ (.slice s.AA s.nA s.cA) l.length _ from hn ▸ o),hn,Ag h.e hx (hS.less (by decide)),h.el,Ag h.d hx (hS.less (by decide)),h.dl,Ag h.x hx (hS.less (by decide)),h.xl,h.xa,h.sep⟩
theorem Aw.LB {base:Nat} {W:World} {s:Aa} (h:Aw base W s) {i:Nat} {x:Ac} (hi:s.allocs[i]? = some x):∃ g cur,s.AA=some ⟨g,0,none⟩∧(vA s).ownBlock=some g∧Blk W g 55 cur∧(i:Int) < s.nA ∧
  (∀ j u,(Ac.cells x)[j]? = some u→W.cell? ⟨g,i*11+j,none⟩=some u) ∧
  (∀ j u x',j < 11→Ac.cells x' = (Ac.cells x).set j u→Aw base (W.setCell ⟨g,i*11+j,none⟩ u) { s with allocs:=s.allocs.set i x' }):=by
 have hlt:=(List.getElem?_eq_some_iff.1 hi).1
 have ho:W.ownsRow base 55 11 (.slice s.AA s.nA s.cA) s.nA (s.allocs.flatMap Ac.cells):=by have:=h.a;rwa [← h.al] at this
 obtain ⟨g,cur,hA,hob,hg⟩:=GL ho h.al hlt
 have ho2:=ho
 rw [hA] at ho2
 refine ⟨g,cur,hA,hob,hg,by have:=h.al;omega,fun j u hu=>Er (f:=Ac.cells) (sz:=11) (fun _=>rfl) ho2 h.al hi hu,fun j u x' hj hx'=>?_⟩
 exact h.inA ((Ext.set1 W g (i*11+j) u).mono (fun b _ e=>by rw [show b=g from e];exact hob)) (Ff (f:=Ac.cells) (sz:=11) (x':=x') (fun _=>rfl) ho h.al hi hj hx' hA) (by rw [List.length_set];exact h.al)
theorem Aw.inE {base:Nat} {W W' : World} {s:Aa} {l:List EvalD} (h:Aw base W s) (hx:Ext (fun q=>(vE s).ownBlock=some q) W W') (o:W'.ownsRow base 68 4 (.slice s.AE s.nE s.cE) s.nE (l.flatMap EvalD.cells)) (hn:s.nE=l.length):Aw base W' { s with evals:=l }:=by
 have hS:Apart W (fun q=>(vE s).ownBlock=some q) [39,66,43,55,74,89]:=Apart.row h.e (by decide)
 exact ⟨h.j.keep hx (hS.less (by decide)),h.jl,h.t.keep hx (hS.less (by decide)),h.tl,Ag h.n hx (hS.less (by decide)),h.nl,Ag h.a hx (hS.less (by decide)),h.al,(show W'.ownsRow base _ _ (.slice s.AE s.nE s.cE) l.length _ from hn ▸ o),hn,Ag h.d hx (hS.less (by decide)),h.dl,Ag h.x hx (hS.less (by decide)),h.xl,h.xa,h.sep⟩
theorem Aw.Ju {base:Nat} {W:World} {s:Aa} (h:Aw base W s) {i:Nat} {x:EvalD} (hi:s.evals[i]? = some x):∃ g cur,s.AE=some ⟨g,0,none⟩∧(vE s).ownBlock=some g∧Blk W g 68 cur∧(i:Int) < s.nE ∧
  (∀ j u,(EvalD.cells x)[j]? = some u→W.cell? ⟨g,i*4+j,none⟩=some u) ∧
  (∀ j u x',j < 4→EvalD.cells x' = (EvalD.cells x).set j u→Aw base (W.setCell ⟨g,i*4+j,none⟩ u) { s with evals:=s.evals.set i x' }):=by
 have hlt:=(List.getElem?_eq_some_iff.1 hi).1
 have ho:W.ownsRow base 68 4 (.slice s.AE s.nE s.cE) s.nE (s.evals.flatMap EvalD.cells):=by have:=h.e;rwa [← h.el] at this
 obtain ⟨g,cur,hA,hob,hg⟩:=GL ho h.el hlt
 have ho2:=ho
 rw [hA] at ho2
 refine ⟨g,cur,hA,hob,hg,by have:=h.el;omega,fun j u hu=>Er (f:=EvalD.cells) (sz:=4) (fun _=>rfl) ho2 h.el hi hu,fun j u x' hj hx'=>?_⟩
 exact h.inE ((Ext.set1 W g (i*4+j) u).mono (fun b _ e=>by rw [show b=g from e];exact hob)) (Ff (f:=EvalD.cells) (sz:=4) (x':=x') (fun _=>rfl) ho h.el hi hj hx' hA) (by rw [List.length_set];exact h.el)
theorem Aw.inD {base:Nat} {W W' : World} {s:Aa} {l:List DepD} (h:Aw base W s) (hx:Ext (fun q=>(vD s).ownBlock=some q) W W') (o:W'.ownsRow base 74 4 (.slice s.AD s.nD s.cD) s.nD (l.flatMap DepD.cells)) (hn:s.nD=l.length):Aw base W' { s with deploys:=l }:=by
 have hS:Apart W (fun q=>(vD s).ownBlock=some q) [39,66,43,55,68,89]:=Apart.row h.d (by decide)
 exact ⟨h.j.keep hx (hS.less (by decide)),h.jl,h.t.keep hx (hS.less (by decide)),h.tl,Ag h.n hx (hS.less (by decide)),h.nl,Ag h.a hx (hS.less (by decide)),h.al,Ag h.e hx (hS.less (by decide)),h.el,(show W'.ownsRow base _ _ (.slice s.AD s.nD s.cD) l.length _ from hn ▸ o),hn,Ag h.x hx (hS.less (by decide)),h.xl,h.xa,h.sep⟩
theorem Aw.Js {base:Nat} {W:World} {s:Aa} (h:Aw base W s) {i:Nat} {x:DepD} (hi:s.deploys[i]? = some x):∃ g cur,s.AD=some ⟨g,0,none⟩∧(vD s).ownBlock=some g∧Blk W g 74 cur∧(i:Int) < s.nD ∧
  (∀ j u,(DepD.cells x)[j]? = some u→W.cell? ⟨g,i*4+j,none⟩=some u) ∧
  (∀ j u x',j < 4→DepD.cells x' = (DepD.cells x).set j u→Aw base (W.setCell ⟨g,i*4+j,none⟩ u) { s with deploys:=s.deploys.set i x' }):=by
 have hlt:=(List.getElem?_eq_some_iff.1 hi).1
 have ho:W.ownsRow base 74 4 (.slice s.AD s.nD s.cD) s.nD (s.deploys.flatMap DepD.cells):=by have:=h.d;rwa [← h.dl] at this
 obtain ⟨g,cur,hA,hob,hg⟩:=GL ho h.dl hlt
 have ho2:=ho
 rw [hA] at ho2
 refine ⟨g,cur,hA,hob,hg,by have:=h.dl;omega,fun j u hu=>Er (f:=DepD.cells) (sz:=4) (fun _=>rfl) ho2 h.dl hi hu,fun j u x' hj hx'=>?_⟩
 exact h.inD ((Ext.set1 W g (i*4+j) u).mono (fun b _ e=>by rw [show b=g from e];exact hob)) (Ff (f:=DepD.cells) (sz:=4) (x':=x') (fun _=>rfl) ho h.dl hi hj hx' hA) (by rw [List.length_set];exact h.dl)
theorem Aw.inJ {base:Nat} {W W' : World} {s:Aa} {l:List JobV} (h:Aw base W s) (hx:Ext (fun q=>(vJ s).ownBlock=some q) W W') (o:W'.ownsRow base 39 7 (.slice s.AJ s.nJ s.cJ) s.nJ (l.flatMap JobV.cells)) (hn:s.nJ=l.length) (hg:∀ y∈l,∃ z∈s.jobs,y.2=z.2∧y.1.groups=z.1.groups):Aw base W' { s with jobs:=l }:=by
 have hjo:=h.j.own
 have hS:Apart W (fun q=>(vJ s).ownBlock=some q) [66,43,55,68,74,89]:=Apart.row hjo (by decide)
 refine ⟨⟨(show W'.ownsRow base _ _ (.slice s.AJ s.nJ s.cJ) l.length _ from hn ▸ o),fun y hy=>?_⟩,hn,⟨Am h.t.own hx (fun g hg e=>h.sep g e hg),fun y hy=>(h.t.grp y hy).keep hx (hS.less (by decide))⟩,h.tl,Ag h.n hx (hS.less (by decide)),h.nl,Ag h.a hx (hS.less (by decide)),h.al,Ag h.e hx (hS.less (by decide)),h.el,Ag h.d hx (hS.less (by decide)),h.dl,Ag h.x hx (hS.less (by decide)),h.xl,h.xa,h.sep⟩
 obtain ⟨z,hz,e1,e2⟩:=hg y hy
 obtain ⟨A,n,c,g1,g2,g3,g4⟩:=(h.j.grp z hz).keep hx (hS.less (by decide))
 exact ⟨A,n,c,e1.trans g1,by rw [e2];exact g2,by rw [e2];exact g3,g4⟩
theorem Aw.PO {base:Nat} {W:World} {s:Aa} (h:Aw base W s) {i:Nat} {x:JobV} (hi:s.jobs[i]? = some x):∃ g cur,s.AJ=some ⟨g,0,none⟩∧(vJ s).ownBlock=some g∧Blk W g 39 cur∧(i:Int) < s.nJ ∧
  (∀ j u,(JobV.cells x)[j]? = some u→W.cell? ⟨g,i*7+j,none⟩=some u) ∧
  (∀ j u (x' : JobV),j < 7→JobV.cells x' = (JobV.cells x).set j u→x'.2=x.2→x'.1.groups=x.1.groups→Aw base (W.setCell ⟨g,i*7+j,none⟩ u) { s with jobs:=s.jobs.set i x' }):=by
 have hlt:=(List.getElem?_eq_some_iff.1 hi).1
 have ho:W.ownsRow base 39 7 (.slice s.AJ s.nJ s.cJ) s.nJ (s.jobs.flatMap JobV.cells):=by have:=h.j.own;rwa [← h.jl] at this
 obtain ⟨g,cur,hA,hob,hg⟩:=GL ho h.jl hlt
 have ho2:=ho
 rw [hA] at ho2
 refine ⟨g,cur,hA,hob,hg,by have:=h.jl;omega,fun j u hu=>Er (f:=JobV.cells) (sz:=7) (fun _=>rfl) ho2 h.jl hi hu,fun j u x' hj hx' e1 e2=>?_⟩
 refine h.inJ ((Ext.set1 W g (i*7+j) u).mono (fun b _ e=>by rw [show b=g from e];exact hob)) (Ff (f:=JobV.cells) (sz:=7) (x':=x') (fun _=>rfl) ho h.jl hi hj hx' hA) (by rw [List.length_set];exact h.jl) (fun y hy=>?_)
 rcases List.mem_or_eq_of_mem_set hy with hy|rfl
 ·exact ⟨y,hy,rfl,rfl⟩
 exact ⟨x,List.mem_of_getElem? hi,e1,e2⟩
theorem Jb (x:JobV):∀ l:List JobV,(Fsm.Ak (fun x:JobV=>x.1.id) x l).map (·.1)=Fsm.Ak Aq.id x.1 (l.map (·.1))
 | []=>rfl
 | y :: r=>by
  simp only [Fsm.Ak,List.map_cons]
  by_cases h:x.1.id≤y.1.id
  ·rw [if_pos h,if_pos h,List.map_cons]
   congr 1
   rw [← List.map_cons,List.filter_map]
   rfl
  rw [if_neg h,if_neg h,List.map_cons,Jb x r]
theorem Cq.slice {base:Nat} {W:World} {y:JobV} (h:Cq base W y):∃ A n c,y.2=Value.slice A n c:=by obtain ⟨A,n,c,e,_⟩:=h;exact ⟨A,n,c,e⟩
theorem Cq.sl {base:Nat} {W:World} {y:JobV} (h:Cq base W y):∃ A n c,y.2=Value.slice A n c∧Sl W 3 A n (y.1.groups.map Ao.cells)∧n=y.1.groups.length∧n≤1048576:=by
 obtain ⟨A,n,c,e,o,hn,hb⟩:=h
 exact ⟨A,n,c,e,Sl.Bd (f:=Ao.cells) (sz:=3) (fun _=>rfl) o hn,hn,hb⟩
theorem Cq.new {base b:Nat} {W:World} {j:Aq} {A:Option Addr} {n c:Nat} (o:W.ownsRow b 66 3 (.slice A n c) n (j.groups.flatMap Ao.cells)) (hn:n=j.groups.length) (hb:n≤1048576) (h:base≤b):Cq base W (j,.slice A n c):=⟨A,n,c,rfl,Bj o h,hn,hb⟩
end
section
open Go.RowKit
def Qe (p:Ao × Nat):List (Int × Int):=(List.range (FO p.1)).map (fun i:Nat=>((p.2:Int),(i:Int)))
def D6 (gs:List Ao) (g:Nat):List (Int × Int):=(gs.zipIdx.take g).flatMap Qe
def Ee (g k:Nat):List (Int × Int):=(List.range k).map (fun i:Nat=>((g:Int),(i:Int)))
def F3 (l:List Ac) (j:Aq) (xs:List (Int × Int)):Nat:=(xs.filter (Fsm.Kk l j)).length
theorem Gb (l:List Ac) (j:Aq) (xs ys:List (Int × Int)):F3 l j (xs ++ ys)=F3 l j xs+F3 l j ys:=by simp [F3]
theorem MV (l:List Ac) (j:Aq) (xs:List (Int × Int)):F3 l j xs≤xs.length:=List.length_filter_le _ _
theorem Nw (j:Aq) {g:Nat} (h:j.groups.length≤g):D6 j.groups g=Fsm.DX j:=by
 unfold D6
 rw [List.take_of_length_le (by simpa using h)];rfl
theorem I4 (gs:List Ao) {g:Nat} (h:g < gs.length):D6 gs (g+1)=D6 gs g ++ Ee g (FO gs[g]):=by
 unfold D6
 rw [List.take_add_one,List.getElem?_eq_getElem (by simpa using h),List.flatMap_append]
 simp [Qe,Ee]
theorem Ll (g k:Nat):Ee g (k+1)=Ee g k ++ [((g:Int),(k:Int))]:=by simp [Ee,List.range_succ]
theorem FQ (g k:Nat):(Ee g k).length=k:=by simp [Ee]
theorem NZ (g:Ao):FO g≤4:=by unfold FO;omega
theorem JA (gs:List Ao):∀ g,g≤gs.length→(D6 gs g).length≤4*g
 | 0,_=>by simp [D6]
 | g+1,h=>by
  rw [I4 gs (by omega),List.length_append,FQ]
  have:=JA gs g (by omega)
  have:=NZ (gs[g]'(by omega))
  omega
def Dr (s:Ab) (job:Int):Nat × Nat:=match Fsm.AU s job with
 | none=>(0,0)
 | some j=>if j.ty == 3 then (0,0) else ((Fsm.DX j).length,F3 s.allocs j (Fsm.DX j))
theorem filter_all {α:Type} (p:α→Bool):∀ l:List α,(l.length == (l.filter p).length)=l.all p
 | []=>rfl
 | x :: r=>by
  rw [List.filter_cons,List.all_cons]
  cases hp:p x with
  | true=>simp only [if_true,List.length_cons,Bool.true_and,← filter_all p r];simp
  | false =>
   simp only [Bool.false_eq_true,if_false,List.length_cons,Bool.false_and]
   have:=List.length_filter_le p r
   simp only [beq_eq_false_iff_ne,ne_eq]
   omega
theorem Ms {s:Ab} {job:Int} {j:Aq} (h:Fsm.AU s job=some j):((Dr s job).1 == (Dr s job).2)=Fsm.EM s j:=by
 unfold Dr Fsm.EM
 rw [h]
 simp only []
 cases h3:(j.ty == 3) with
 | true=>simp
 | false=>simp only [Bool.false_eq_true,if_false,Bool.false_or];exact filter_all _ _
theorem NN {l:List Ac} {j:Aq} {x:Int × Int} (h:l.find? (Ce j.id x.1 x.2)=none):Fsm.Kk l j x=false:=by unfold Fsm.Kk;rw [h]
theorem Nb {l:List Ac} {j:Aq} {x:Int × Int} {a:Ac} (h:l.find? (Ce j.id x.1 x.2)=some a):Fsm.Kk l j x=(a.ver == j.ver && a.state == 2 && !a.stop):=by unfold Fsm.Kk;rw [h]
theorem Il (l:List Ac) (j:Aq) (x:Int × Int) {b:Bool} (h:Fsm.Kk l j x=b):F3 l j [x]=if b then 1 else 0:=by
 unfold F3
 rw [List.filter_cons,h]
 cases b <;> rfl
end
section
open Go.RowKit
theorem LZ (d:Ab) (t:Nat):(List.range (t+1)).foldl Fsm.AF d=Fsm.AF ((List.range t).foldl Fsm.AF d) t:=by
 rw [List.range_succ,List.foldl_append];rfl
theorem JK {s:Ab} {i:Nat} {d:DepD} (h:s.deploys[i]? = some d) (hj:Fsm.AU s d.job=none):Fsm.AF s i=s:=by unfold Fsm.AF;rw [h];simp only [];rw [hj]
theorem Ki {s:Ab} {i:Nat} {d:DepD} {j:Aq} (h:s.deploys[i]? = some d) (hj:Fsm.AU s d.job=some j) (hc:(d.state == 1 && j.ver == d.ver && Fsm.EM s j)=false):Fsm.AF s i=s:=by
 unfold Fsm.AF;rw [h];simp only [];rw [hj];simp only [];rw [if_neg (by rw [hc];exact Bool.false_ne_true)]
theorem O0 {s:Ab} {i:Nat} {d:DepD} {j:Aq} (h:s.deploys[i]? = some d) (hj:Fsm.AU s d.job=some j) (hc:(d.state == 1 && j.ver == d.ver && Fsm.EM s j)=true):Fsm.AF s i={ s with deploys:=s.deploys.set i { d with state:=2 },stable:=Fsm.Ak Aq.id j s.stable }:=by
 unfold Fsm.AF;rw [h];simp only [];rw [hj];simp only [];rw [if_pos hc]
end
section
open Go.RowKit
theorem STResult:Bb Tryz.prog 34 3:=.of (by kernel_rfl)
theorem IE:Bb Tryz.prog 51 27:=.of (by kernel_rfl)
def Fb (r:Int × Int):List Value:=[.int .i64 r.1,.int .i64 r.2]
def BB (r:Int):List Value:=[.int .i64 r]
structure Bl where
 op:Int
 client:Int
 req:Int
 job:Aq
 GA:Option Addr
 gn:Nat
 gc:Nat
 node:NodD
 reports:List (Int × Int)
 RA:Option Addr
 rn:Nat
 rc:Nat
 pj:Int
 pv:Int
 pi:Int
 stops:List Int
 SA:Option Addr
 sn:Nat
 sc:Nat
 places:List Ac
 PA:Option Addr
 pn:Nat
 pc:Nat
 blocked:Bool
 v25:Value
 v26:Value
def Bl.d (c:Bl):BV:=⟨c.op,c.client,c.req,c.job,c.node,c.reports,⟨c.pj,c.pv,c.pi,c.stops,c.places,c.blocked⟩⟩
abbrev Bl.Mr (c:Bl):Array Value:=#[.int .i64 c.job.id,.int .i64 c.job.ty,.int .i64 c.job.prio,.int .i64 c.job.par,.slice c.GA c.gn c.gc,.int .i64 c.job.ver,.bool c.job.stopped]
abbrev Bl.EN (c:Bl):Array Value:=#[.int .i64 c.node.id,.int .i64 c.node.cap.cpu,.int .i64 c.node.cap.mem,.bool c.node.up,.bool c.node.drain,.int .i64 c.node.boot,.int .i64 c.node.epoch,.int .i64 c.node.seq]
abbrev Bl.Kl (c:Bl):Array Value:=#[.int .i64 c.pj,.int .i64 c.pv,.int .i64 c.pi,.slice c.SA c.sn c.sc,.slice c.PA c.pn c.pc,.bool c.blocked]
abbrev Bl.arr (c:Bl):Array Value:=#[.int .i64 c.op,.int .i64 c.client,.int .i64 c.req,.int .i64 c.job.id,.int .i64 c.job.ty,.int .i64 c.job.prio,.int .i64 c.job.par,.slice c.GA c.gn c.gc,.int .i64 c.job.ver,.bool c.job.stopped,
 .int .i64 c.node.id,.int .i64 c.node.cap.cpu,.int .i64 c.node.cap.mem,.bool c.node.up,.bool c.node.drain,.int .i64 c.node.boot,.int .i64 c.node.epoch,.int .i64 c.node.seq,.slice c.RA c.rn c.rc,
 .int .i64 c.pj,.int .i64 c.pv,.int .i64 c.pi,.slice c.SA c.sn c.sc,.slice c.PA c.pn c.pc,.bool c.blocked,c.v25,c.v26]
structure Dx (base:Nat) (w:World) (c:Bl):Prop where
 g:Sl w 3 c.GA c.gn (c.job.groups.map Ao.cells)
 gl:c.gn≤1048576
 gb:∀ b,c.GA.map (·.block)=some b→c.job.groups ≠ []→b < base
 r:Sl w 2 c.RA c.rn (c.reports.map Fb)
 rl:c.rn≤1048576
 rb:∀ b,c.RA.map (·.block)=some b→c.reports ≠ []→b < base
 s:Sl w 1 c.SA c.sn (c.stops.map BB)
 sl:c.sn≤1048576
 sb:∀ b,c.SA.map (·.block)=some b→c.stops ≠ []→b < base
 p:Sl w 11 c.PA c.pn (c.places.map Ac.cells)
 pl:c.pn≤1048576
 pb:∀ b,c.PA.map (·.block)=some b→c.places ≠ []→b < base
 o25:c.v25.oneCell' = true
 o26:c.v26.oneCell' = true
def EZ (base:Nat) (w:World) (b:Nat):Prop:=base≤b∧∃ t cs,Blk w b t cs∧t∈El
theorem EZ.Bd {w:World} {base e sz n g:Nat} {v:Value} {xs:List Value} (h:w.ownsRow base e sz v n xs) (he:e∈El) (hv:v.ownBlock=some g):EZ base w g:=by
 obtain ⟨cs,hcs⟩:=CY h hv
 exact ⟨BM h hv,e,cs,hcs,he⟩
theorem EZ.FW {w:World} {base g t:Nat} {cs:Array Value} (h:Blk w g t cs) (ht:t∈El) (hb:base≤g):EZ base w g:=⟨hb,t,cs,h,ht⟩
theorem EZ.back {w w' : World} {base b:Nat} (hx:Ext (EZ base w) w w') (h:EZ base w' b) (hb:b < w.heap.size):EZ base w b:=by
 by_cases hn:EZ base w b
 ·exact hn
 obtain ⟨h1,t,cs,h2,h3⟩:=h
 exact ⟨h1,t,cs,(hx.block b hb hn).symm.trans h2,h3⟩
theorem Ext.row {S:Nat→Prop} {w w1 w2:World} {base:Nat} (h:Ext (EZ base w) w w1) (k:Ext S w1 w2) (hr:∀ b,S b→EZ base w1 b):Ext (EZ base w) w w2:=h.trans k (fun b hb e=>(hr b e).back h hb)
theorem Ext.setRow {w w1:World} {base g i:Nat} (h:Ext (EZ base w) w w1) (hr:EZ base w1 g) (u:Value):Ext (EZ base w) w (w1.setCell ⟨g,i,none⟩ u):=h.row (Ext.set1 w1 g i u) (fun b e=>by rw [show b=g from e];exact hr)
theorem Blk.kept {w w' : World} {base g t:Nat} {cs:Array Value} (h:Blk w g t cs) (hx:Ext (EZ base w) w w') (ht:t ∉ El):Blk w' g t cs:=h.ext hx (fun e=>by
 obtain ⟨_,t',cs',h2,h3⟩:=e
 have h4:some (Obj.cells cs t (0,0))=some (Obj.cells cs' t' (0,0)):=h.symm.trans h2
 injection h4 with h4
 injection h4 with _ h5 _
 exact ht (h5 ▸ h3))
theorem Dx.keep {base:Nat} {w w' : World} {c:Bl} (h:Dx base w c) (hx:Ext (fun b=>base≤b) w w'):Dx base w' c :=
 ⟨h.g.ext hx (fun b e ne hb=>by have:=h.gb b e (by rintro e;rw [e] at ne;exact ne rfl);omega),h.gl,h.gb,h.r.ext hx (fun b e ne hb=>by have:=h.rb b e (by rintro e;rw [e] at ne;exact ne rfl);omega),h.rl,h.rb,
  h.s.ext hx (fun b e ne hb=>by have:=h.sb b e (by rintro e;rw [e] at ne;exact ne rfl);omega),h.sl,h.sb,h.p.ext hx (fun b e ne hb=>by have:=h.pb b e (by rintro e;rw [e] at ne;exact ne rfl);omega),h.pl,h.pb,h.o25,h.o26⟩
theorem Dx.keepR {base:Nat} {w w' : World} {c:Bl} (h:Dx base w c) (hx:Ext (EZ base w) w w'):Dx base w' c:=h.keep (hx.mono (fun _ _ e=>e.1))
theorem Dx.AP {base:Nat} {w w' : World} {c:Bl} (h:Dx base w c) (hx:Ext Nothing w w'):Dx base w' c:=h.keep (hx.mono (fun _ _ e=>e.elim))
abbrev Au (code value:Int):Array Value:=#[.int .i64 code,.int .i64 value,.slice none 0 0]
theorem AB {P:Program} {o:Oper} {ρ:Operand→Value} {ty:TypeId} {x:Operand} {sz b:Nat} {t:TypeId} {cs:Array Value} {w:World} (ho:o.op=.load ty x) (E:Bb P ty sz) (hx:ρ x=.pointer (some ⟨b,0,none⟩))
  (hB:Blk w b t cs) (hi:cs.size=sz):(execOp ρ o).run P w=.ok (.value (.agg cs)) w :=
 run_load_struct (sz:=sz) (b:=b) (off:=0) ho E hx (fun j u hu=>by rw [Nat.zero_add,hB.cell];simpa using hu) hi
theorem Bl.Qd (c:Bl):∀ (j:Nat) (u:Value),c.Mr.toList[j]? = some u→c.arr[3+j]? = some u:=fun j u hu=>by
 match j,hu with
 | 0,hu=>exact hu
 | 1,hu=>exact hu
 | 2,hu=>exact hu
 | 3,hu=>exact hu
 | 4,hu=>exact hu
 | 5,hu=>exact hu
 | 6,hu=>exact hu
 | (n+7),hu=>simp at hu
theorem Bl.Ha (c:Bl):∀ (j:Nat) (u:Value),c.EN.toList[j]? = some u→c.arr[10+j]? = some u:=fun j u hu=>by
 match j,hu with
 | 0,hu=>exact hu
 | 1,hu=>exact hu
 | 2,hu=>exact hu
 | 3,hu=>exact hu
 | 4,hu=>exact hu
 | 5,hu=>exact hu
 | 6,hu=>exact hu
 | 7,hu=>exact hu
 | (n+8),hu=>simp at hu
theorem Bl.Q7 (c:Bl):∀ (j:Nat) (u:Value),c.Kl.toList[j]? = some u→c.arr[19+j]? = some u:=fun j u hu=>by
 match j,hu with
 | 0,hu=>exact hu
 | 1,hu=>exact hu
 | 2,hu=>exact hu
 | 3,hu=>exact hu
 | 4,hu=>exact hu
 | 5,hu=>exact hu
 | (n+6),hu=>simp at hu
theorem set_self {α:Type} {l:List α} {k:Nat} {x:α} (h:l[k]? = some x):l.set k x=l:=by
 apply List.ext_getElem?
 intro j
 rw [List.getElem?_set]
 by_cases e:k=j
 ·subst e
  obtain ⟨hk,_⟩:=List.getElem?_eq_some_iff.1 h
  rw [if_pos rfl,if_pos hk,h]
 rw [if_neg e]
theorem Nv {k:Int} {f:Aq→Aq} {l:List JobV} {i:Nat} {x:JobV} (hx:l[i]? = some x) (hp:(x.1.id == k)=true) (hf:∀ j < i,∀ y,l[j]? = some y→(y.1.id == k)=false) :
  Fsm.Ap (fun j=>j.id == k) f (l.map (·.1))=(l.set i (f x.1,x.2)).map (·.1):=by
 rw [Fsm.BF (i:=i) (x:=x.1) (by rw [List.getElem?_map,hx];rfl) hp (fun j hj y hy=>by
  rw [List.getElem?_map] at hy
  obtain ⟨z,hz,rfl⟩:=Option.map_eq_some_iff.1 hy
  exact hf j hj z hz),List.map_set]
theorem cmd0 (w:World) (c:Bl):Ext Nothing w ((w.alloc (.cells c.arr 51)).alloc (.cells #[.int .i64 0,.int .i64 0,.slice none 0 0] 34))∧Blk ((w.alloc (.cells c.arr 51)).alloc (.cells #[.int .i64 0,.int .i64 0,.slice none 0 0] 34)) w.heap.size 51 c.arr∧Blk ((w.alloc (.cells c.arr 51)).alloc (.cells #[.int .i64 0,.int .i64 0,.slice none 0 0] 34)) (w.heap.size+1) 34 #[.int .i64 0,.int .i64 0,.slice none 0 0]:=⟨Ext.Ay,(Blk.new w _ _).e0 Ext.Ay,Blk.new' _ _ _ (by simp)⟩
end
end Go.Proofs.YtccekmeifanipaaGreat
