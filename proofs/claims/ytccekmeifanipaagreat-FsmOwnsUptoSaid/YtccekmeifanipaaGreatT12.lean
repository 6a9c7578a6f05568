/- Parts of the proof: MPutDeploy MSlots Ref06 MSpec RefS RefL -/
import Derived.Test.YtccekmeifanipaaGreatT10
import Derived.Test.YtccekmeifanipaaGreatT04
import Derived.Test.YtccekmeifanipaaGreatT11
import Derived.Test.YtccekmeifanipaaGreatT06
import Derived.Test.YtccekmeifanipaaGreatT07
import Derived.Deep.CutRange
import Derived.Test.YtccekmeifanipaaGreatT08
import Derived.Test.YtccekmeifanipaaGreatT03
import Derived.StillTailTactics
namespace Go.Proofs.YtccekmeifanipaaGreat
set_option linter.unusedVariables false
set_option linter.unusedSimpArgs false
set_option linter.unusedSectionVars false
section
open Go.RowKit
theorem Ci (y:DepD) (w:World):Calls Tryz.prog 117 #[.agg #[.int .i64 y.job,.int .i64 y.ver,.int .i64 y.state,.int .i64 y.index]] w fun e w'=>e=.returned (.int .i64 y.job)∧Ext Nothing w w':=by
 have hx:Ext Nothing w (w.alloc (.cells #[.int .i64 y.job,.int .i64 y.ver,.int .i64 y.state,.int .i64 y.index] 74)):=Ext.Ay
 have hb:Blk (w.alloc (.cells #[.int .i64 y.job,.int .i64 y.ver,.int .i64 y.state,.int .i64 y.index] 74)) w.heap.size 74 #[.int .i64 y.job,.int .i64 y.ver,.int .i64 y.state,.int .i64 y.index]:=Blk.new _ _ _
 go_enter Tryz.func117,Tryz.ntmps117
 go_wp2
 go_ret
 exact ⟨rfl,hx⟩
set_option maxRecDepth 20000 in
set_option maxHeartbeats 4000000 in
theorem NQ (base:Nat) (A:Option Addr) (c:Nat) (l:List DepD) (x:DepD) (w:World) (h:w.ownsRow base 74 4 (.slice A l.length c) l.length (l.flatMap DepD.cells)) (hb:base≤w.heap.size) (hl:l.length≤67108862) (hu:Fsm.Up DepD.job l) :
  Calls Tryz.prog 116 #[.slice A l.length c,.agg #[.int .i64 x.job,.int .i64 x.ver,.int .i64 x.state,.int .i64 x.index],.func (.func 117) #[] #[]] w fun e w'=>∃ A' c',e=.returned (.slice A' (Fsm.Ak DepD.job x l).length c')∧w'.ownsRow base 74 4 (.slice A' (Fsm.Ak DepD.job x l).length c') (Fsm.Ak DepD.job x l).length ((Fsm.Ak DepD.job x l).flatMap DepD.cells)∧(∀ q,(Value.slice A' (Fsm.Ak DepD.job x l).length c').ownBlock=some q→(Value.slice A l.length c).ownBlock=some q ∨ w.heap.size≤q)∧Ext (fun q=>(Value.slice A l.length c).ownBlock=some q) w w':=by
 have hx0:Ext Nothing w (w.alloc (.cells #[.int .i64 x.job,.int .i64 x.ver,.int .i64 x.state,.int .i64 x.index] 74)):=Ext.Ay
 have hB0:Blk (w.alloc (.cells #[.int .i64 x.job,.int .i64 x.ver,.int .i64 x.state,.int .i64 x.index] 74)) w.heap.size 74 #[.int .i64 x.job,.int .i64 x.ver,.int .i64 x.state,.int .i64 x.index]:=Blk.new _ _ _
 go_enter Tryz.func116,Tryz.ntmps116
 go_wp2
 go_loopw [11] (fun i wr=>∃ k:Nat,k≤l.length∧i=.int .i64 k∧(∀ j < k,∀ z,l[j]? = some z→DepD.job z < x.job)∧Ext Nothing w wr∧Blk wr w.heap.size 74 #[.int .i64 x.job,.int .i64 x.ver,.int .i64 x.state,.int .i64 x.index]) (fun i _=>l.length - (intOf i).toNat)
 case atStart=>exact ⟨0,Nat.zero_le _,rfl,fun j hj=>absurd hj (by omega),hx0,hB0⟩
 case round =>
  obtain ⟨k,hk,rfl,hno,hxr,hB⟩:=hrel
  clear hB0 hx0
  by_cases hlt:k < l.length
  ·obtain ⟨g,cur,hAe,hbg,hg,hcs,hcap,hmax,htk,hset⟩:=DR (i:=k) (f:=DepD.cells) (fun _=>rfl) h hlt
   obtain ⟨hjn,b,off,hAe2,hce⟩:=(Sl.Bd (f:=DepD.cells) (fun _=>rfl) h rfl).get hxr hlt
   rw [hAe] at hAe2
   injection hAe2 with hAe2
   injection hAe2 with hAe3 hAe4
   subst hAe3 hAe4 hAe
   simp only [Nat.zero_add] at hce
   have hgw:g < w.heap.size:=hg.lt
   have hgr:=hg.e0 hxr
   have hne:w.heap.size ≠ g:=by omega
   have hy:l[k]? = some l[k]:=List.getElem?_eq_getElem hjn
   generalize l[k]=y at hce hy
   have hk0:(0:Int)≤(k:Int):=by omega
   have hk1:(k:Int) < l.length:=by omega
   have HY:=Lib.hid hy
   have HN:=Lib.hid hno
   have HS:=Lib.hid hset
   have HT:=Lib.hid htk
   have HC:=Lib.hid hcs
   have HU:=Lib.hid hu
   have H:=Lib.hid h
   clear hy hno hset htk hcs hu h
   rcases Int.lt_trichotomy y.job x.job with hc|hc|hc
   ·have q1:(y.job == x.job)=false:=by simp;omega
    have q2:¬ (y.job > x.job):=by omega
    have q3:¬ (y.job=x.job):=by omega
    go_wp2_with (first|go_skip|go_guarded|((with_reducible refine isW ?_);refine Ad rfl 74 _ rfl Cb g (k*4) rfl #[.int .i64 y.job,.int .i64 y.ver,.int .i64 y.state,.int .i64 y.index] hce rfl ?_)|((with_reducible refine isW ?_);refine Ae rfl 74 _ rfl Cb w.heap.size rfl #[.int .i64 x.job,.int .i64 x.ver,.int .i64 x.state,.int .i64 x.index] (show Blk _ _ _ _ from by first|exact hB2|exact hB1|exact hB) rfl ?_)|(go_at_call 117;(with_reducible refine (Ci y wr).mono ?_);rintro e w1 ⟨rfl,hx1⟩;have hB1:=hB.e0 hx1)|(go_at_call 117;(with_reducible refine (Ci x w1).mono ?_);rintro e w2 ⟨rfl,hx2⟩;have hB2:=hB1.e0 hx2)|(go_at_call 117;(with_reducible refine (Ci x w2).mono ?_);rintro e w3 ⟨rfl,hx3⟩;have hB3:=hB2.e0 hx3))
    go_roundw
    case rel =>
     refine ⟨k+1,hlt,by go_num,fun j hj z hz=>?_,((hxr.tr hx1).tr hx2).tr hx3,hB3⟩
     rcases Nat.lt_or_ge j k with h1|h1
     ·exact HN.out j h1 z hz
     obtain rfl:j=k:=by omega
     rw [HY.out] at hz;cases hz;exact hc
    case measure=>simp [intOf];omega
   ·have q1:(y.job == x.job)=true:=by simpa using hc
    have HCC:=Lib.hid hc
    clear hc
    have h0s:k*4+4≤cur.size:=by rw [HC.out];have:=Nat.mul_le_mul_right 4 (show k+1≤c by omega);omega
    go_wp2_with (first|go_skip|go_guarded|((with_reducible refine isW ?_);refine Ad rfl 74 _ rfl Cb g (k*4) rfl #[.int .i64 y.job,.int .i64 y.ver,.int .i64 y.state,.int .i64 y.index] hce rfl ?_)|((with_reducible refine isW ?_);refine Ae rfl 74 _ rfl Cb w.heap.size rfl #[.int .i64 x.job,.int .i64 x.ver,.int .i64 x.state,.int .i64 x.index] (show Blk _ _ _ _ from by first|exact hB2|exact hB1|exact hB) rfl ?_)|(go_at_call 117;(with_reducible refine (Ci y wr).mono ?_);rintro e w1 ⟨rfl,hx1⟩;have hB1:=hB.e0 hx1)|(go_at_call 117;(with_reducible refine (Ci x w1).mono ?_);rintro e w2 ⟨rfl,hx2⟩;have hB2:=hB1.e0 hx2)|((with_reducible refine isW ?_);refine wpList_store_row rfl 74 _ _ rfl Cb g (k*4) rfl #[.int .i64 x.job,.int .i64 x.ver,.int .i64 x.state,.int .i64 x.index] rfl (show Blk _ _ _ _ from (hgr.e0 hx1).e0 hx2) h0s rfl rfl ?_;intro w9 hB9 hx9))
    go_ret
    have e9:=Fsm.Ez HU.out HY.out HN.out HCC.out
    exact ⟨some ⟨g,0,none⟩,c,by rw [e9,List.length_set];rfl,by rw [e9,List.length_set];exact HS.out x w9 hB9,fun q hq=>.inl hq,((hxr.tr hx1).tr hx2).any.trans hx9 (fun b hb e=>by rw [show b=g from e];rfl)⟩
   have q1:(y.job == x.job)=false:=by simp;omega
   have q2:y.job > x.job:=by omega
   have q3:¬ (y.job=x.job):=by omega
   have e9:=Lib.hid (Fsm.Dk HU.out HY.out HN.out hc)
   have e8:(l.take k ++ x :: l.drop k).length=l.length+1:=by simp;omega
   have E8:=Lib.hid e8
   clear e8
   by_cases hroom:l.length+1≤c
   ·go_wp2_with (first|go_skip|go_guarded|((with_reducible refine isW ?_);refine Ad rfl 74 _ rfl Cb g (k*4) rfl #[.int .i64 y.job,.int .i64 y.ver,.int .i64 y.state,.int .i64 y.index] hce rfl ?_)|((with_reducible refine isW ?_);refine Ae rfl 74 _ rfl Cb w.heap.size rfl #[.int .i64 x.job,.int .i64 x.ver,.int .i64 x.state,.int .i64 x.index] (show Blk _ _ _ _ from by first|exact hB3|exact hB2|exact hB1|exact hB) rfl ?_)|(go_at_call 117;(with_reducible refine (Ci y wr).mono ?_);rintro e w1 ⟨rfl,hx1⟩;have hB1:=hB.e0 hx1)|(go_at_call 117;(with_reducible refine (Ci x w1).mono ?_);rintro e w2 ⟨rfl,hx2⟩;have hB2:=hB1.e0 hx2)|(go_at_call 117;(with_reducible refine (Ci x w2).mono ?_);rintro e w3 ⟨rfl,hx3⟩;have hB3:=hB2.e0 hx3)|((with_reducible refine isW ?_);refine AZ rfl 27 _ rfl CW #[.int .i64 x.job,.int .i64 x.ver,.int .i64 x.state,.int .i64 x.index] rfl rfl ?_)|(go_at_call 138;(refine (Jg base g c k w3.heap.size l x cur (w3.alloc (.cells #[.int .i64 x.job,.int .i64 x.ver,.int .i64 x.state,.int .i64 x.index] 74)) (((hgr.e0 hx1).e0 hx2).e0 (hx3.tr Ext.Ay)) HC.out HT.out hlt (Blk.new _ _ _) (by have:=hx1.size;have:=hx2.size;have:=hx3.size;have:=hxr.size;omega) hroom hmax hl).mono ?_);rintro e w9 ⟨rfl,hcc,hx9⟩))
    go_ret
    obtain ⟨cs9,hb9,hs9,ht9⟩:=hcc
    have hxA:Ext Nothing w (w3.alloc (.cells #[.int .i64 x.job,.int .i64 x.ver,.int .i64 x.state,.int .i64 x.index] 74)):=(((hxr.tr hx1).tr hx2).tr hx3).alloc _
    refine ⟨some ⟨g,0,none⟩,c,by rw [e9.out,E8.out];rfl,?_,fun q hq=>.inl hq,hxA.any.trans hx9 (fun b hb e=>by rw [show b=g from e];rfl)⟩
    rw [e9.out,E8.out]
    refine ⟨?_,.inr ⟨g,c,cs9,rfl,hbg,hb9,hroom,hmax,hs9,ht9⟩⟩
    rw [← ht9,List.length_take,Array.length_toList (xs:=cs9),hs9]
    exact Nat.min_eq_left (Nat.mul_le_mul_right _ hroom)
   go_wp2_with (first|go_skip|go_guarded|((with_reducible refine isW ?_);refine Ad rfl 74 _ rfl Cb g (k*4) rfl #[.int .i64 y.job,.int .i64 y.ver,.int .i64 y.state,.int .i64 y.index] hce rfl ?_)|((with_reducible refine isW ?_);refine Ae rfl 74 _ rfl Cb w.heap.size rfl #[.int .i64 x.job,.int .i64 x.ver,.int .i64 x.state,.int .i64 x.index] (show Blk _ _ _ _ from by first|exact hB3|exact hB2|exact hB1|exact hB) rfl ?_)|(go_at_call 117;(with_reducible refine (Ci y wr).mono ?_);rintro e w1 ⟨rfl,hx1⟩;have hB1:=hB.e0 hx1)|(go_at_call 117;(with_reducible refine (Ci x w1).mono ?_);rintro e w2 ⟨rfl,hx2⟩;have hB2:=hB1.e0 hx2)|(go_at_call 117;(with_reducible refine (Ci x w2).mono ?_);rintro e w3 ⟨rfl,hx3⟩;have hB3:=hB2.e0 hx3)|((with_reducible refine isW ?_);refine AZ rfl 27 _ rfl CW #[.int .i64 x.job,.int .i64 x.ver,.int .i64 x.state,.int .i64 x.index] rfl rfl ?_)|(go_at_call 138;(refine (Jq g c k w3.heap.size l x cur (w3.alloc (.cells #[.int .i64 x.job,.int .i64 x.ver,.int .i64 x.state,.int .i64 x.index] 74)) (((hgr.e0 hx1).e0 hx2).e0 (hx3.tr Ext.Ay)) HC.out HT.out hlt (Blk.new _ _ _) hcap (by omega) (by omega)).mono ?_);rintro e w9 ⟨G,hG1,hG2,rfl,hcc,hx9⟩))
   go_ret
   obtain ⟨cs9,hb9,hs9,ht9⟩:=hcc
   have hxA:Ext Nothing w (w3.alloc (.cells #[.int .i64 x.job,.int .i64 x.ver,.int .i64 x.state,.int .i64 x.index] 74)):=(((hxr.tr hx1).tr hx2).tr hx3).alloc _
   have hz9:(w3.alloc (.cells #[.int .i64 x.job,.int .i64 x.ver,.int .i64 x.state,.int .i64 x.index] 74)).heap.size=w3.heap.size+1:=by simp
   have hzA:=hxA.size
   rw [hz9] at hb9 hzA
   refine ⟨some ⟨_,0,none⟩,G,by rw [e9.out,E8.out];rfl,?_,fun q hq=>.inr (by simp [Value.ownBlock] at hq;omega),(hxA.tr hx9).any⟩
   rw [e9.out,E8.out]
   refine ⟨?_,.inr ⟨_,G,cs9,rfl,by omega,hb9,hG1,hG2,hs9,ht9⟩⟩
   rw [← ht9,List.length_take,Array.length_toList (xs:=cs9),hs9]
   exact Nat.min_eq_left (Nat.mul_le_mul_right _ hG1)
  have hkl:k=l.length:=by omega
  have e9:=Lib.hid (Fsm.EC (key:=DepD.job) (x:=x) (l:=l) (fun z hz=>by obtain ⟨j,hj⟩:=List.mem_iff_getElem?.1 hz;exact hno j (by have:=(List.getElem?_eq_some_iff.1 hj).1;omega) z hj))
  have hnl:¬ ((k:Int) < l.length):=by omega
  have ho:=Am h hxr (fun _ _ e=>e)
  clear hno hkl
  go_wp2_with (first|go_skip|go_guarded|((with_reducible refine isW ?_);refine Ae rfl 74 _ rfl Cb w.heap.size rfl #[.int .i64 x.job,.int .i64 x.ver,.int .i64 x.state,.int .i64 x.index] (show Blk _ _ _ _ from hB) rfl ?_)|((with_reducible refine Jh ?_);refine Cw rfl rfl 27 _ rfl _ _ rfl CW #[.int .i64 x.job,.int .i64 x.ver,.int .i64 x.state,.int .i64 x.index] rfl rfl base (.slice A l.length c) l.length (l.flatMap DepD.cells) rfl rfl ho rfl (by omega) (by have:=hxr.size;omega) ?_;intro A2 c2 w9 o9 hx9 hq9))
  go_ret
  have o8:=CG (x:=x) o9 rfl rfl
  exact ⟨A2,c2,by rw [e9.out,List.length_append];rfl,by rw [e9.out];exact o8,fun q hq=>(hq9 q (by cases A2 <;> exact hq)).imp id (fun h=>by have:=hxr.size;omega),hxr.any.tr hx9⟩
end
section
open Go.RowKit
theorem Oc:Bb Tryz.prog 66 3:=.of (by kernel_rfl)
set_option maxRecDepth 20000 in
set_option maxHeartbeats 4000000 in
theorem QL (base:Nat) (s:Aa) (job:Int) (w:World) (h:Aw base w s) (hJ:s.jobs.length≤1048576) (hA:s.allocs.length≤1048576) :
  Calls Tryz.prog 99 #[.agg s.arr,.int .i64 job] w fun e w'=>e=.returned (.tuple #[.int .i64 (Dr s.data job).1,.int .i64 (Dr s.data job).2])∧Ext Nothing w w':=by
 have hx0:Ext Nothing w (w.alloc (.cells s.arr 30)):=Ext.Ay
 have hB0:Blk (w.alloc (.cells s.arr 30)) w.heap.size 30 s.arr:=Blk.new w _ _
 have hjl:=Lib.hid h.jl
 have hal:=Lib.hid h.al
 have hsj:=h.slJ
 have hsa:=h.slA
 have hnJ:s.nJ≤67108864:=by have:=h.jl;omega
 have hnA:s.nA≤67108864:=by have:=h.al;omega
 rcases AV (fun x:JobV=>x.1.id == job) s.jobs with ⟨hi,hf,_⟩|⟨i,x,hi,hxi,hp,hf,_⟩
 ·have H:=Lib.hid (show Dr s.data job=(0,0) by unfold Dr;rw [Ct hf])
  have HI:=Lib.hid hi
  clear hi hf
  go_enter Tryz.func99,Tryz.ntmps99
  go_wp2_with (first|go_skip|go_guarded|((with_reducible refine isW ?_);refine Ae rfl 30 _ rfl Aj w.heap.size rfl s.arr (show Blk _ _ _ _ from hB0) rfl ?_)|(go_at_call 61;(with_reducible refine (Bu s.AJ s.nJ s.cJ s.jobs job _ (hsj.Al hx0) hnJ _ _ _ _ _ _ _ _ _ rfl).mono ?_);rintro e w1 ⟨rfl,hx1⟩;(rw [HI.out])))
  go_ret2
  exact ⟨by rw [H.out];rfl,hx0.tr hx1⟩
 have hja:=Cs hf
 obtain ⟨hi1,hi2⟩:=List.getElem?_eq_some_iff.1 hxi
 obtain ⟨_,b,off,hAe,hce⟩:=hsj.get (Ext.refl Nothing w) (k:=i) (by have:=hjl.out;omega)
 rw [hi2] at hce
 have hk0:(0:Int)≤(i:Int):=by omega
 have hk1:(i:Int) < s.nJ:=by have:=hjl.out;omega
 have hng:¬ ((i:Int) < 0):=by omega
 obtain ⟨GA,gn,gc,hgv,hgo,hgl,hgb⟩:=h.j.grp x (List.mem_of_getElem? hxi)
 have hgs:=Sl.Bd (f:=Ao.cells) (sz:=3) (fun _=>rfl) hgo hgl
 have HI:=Lib.hid hi
 have HA:=Lib.hid hAe
 clear hi hf hi2 hAe hxi hgo
 obtain ⟨⟨x0,x1,x2,x3,xg,x5,x6⟩,xv⟩:=x
 have hid:x0=job:=by simpa using hp
 subst hid
 change xv=_ at hgv
 subst hgv
 have HGL:=Lib.hid (show gn=xg.length from hgl)
 have hgs:Sl w 3 GA gn (xg.map Ao.cells):=hgs
 clear hp hgl
 cases h3:(x1 == 3) with
 | true =>
  have H:=Lib.hid (show Dr s.data x0=(0,0) by unfold Dr;rw [hja];simp only [];rw [if_pos h3])
  clear hja
  go_enter Tryz.func99,Tryz.ntmps99
  go_wp2_with (first|go_skip|go_guarded|((with_reducible refine isW ?_);refine Ae rfl 30 _ rfl Aj w.heap.size rfl s.arr (show Blk _ _ _ _ from hB0) rfl ?_)|(go_at_call 61;(with_reducible refine (Bu s.AJ s.nJ s.cJ s.jobs x0 _ (hsj.Al hx0) hnJ _ _ _ _ _ _ _ _ _ rfl).mono ?_);rintro e w1 ⟨rfl,hx1⟩;(rw [HI.out]);have hx2:=hx0.tr hx1;have hB1:=hB0.e0 hx1;have c2:w1.cell? ⟨w.heap.size,2,none⟩=some (.slice (some ⟨b,off,none⟩) s.nJ s.cJ):=(by rw [← HA.out];exact hB1.cell 2);have k1:w1.cell? ⟨b,off+i*7+1,none⟩=some (.int .i64 x1):=hx2.c0 (hce 1 _ rfl);have k4:w1.cell? ⟨b,off+i*7+4,none⟩=some (.slice GA gn gc):=hx2.c0 (hce 4 _ rfl)))
  go_ret2
  exact ⟨by rw [H.out];rfl,hx2⟩
 | false =>
  have H:=Lib.hid (show Dr s.data x0=((Fsm.DX ⟨x0,x1,x2,x3,xg,x5,x6⟩).length,F3 s.allocs ⟨x0,x1,x2,x3,xg,x5,x6⟩ (Fsm.DX ⟨x0,x1,x2,x3,xg,x5,x6⟩)) by unfold Dr;rw [hja];simp only [];rw [if_neg (by rw [h3];exact Bool.false_ne_true)];rfl)
  clear hja
  go_enter Tryz.func99,Tryz.ntmps99
  go_wp2_with (first|go_skip|go_guarded|((with_reducible refine isW ?_);refine Ae rfl 30 _ rfl Aj w.heap.size rfl s.arr (show Blk _ _ _ _ from hB0) rfl ?_)|(go_at_call 61;(with_reducible refine (Bu s.AJ s.nJ s.cJ s.jobs x0 _ (hsj.Al hx0) hnJ _ _ _ _ _ _ _ _ _ rfl).mono ?_);rintro e w1 ⟨rfl,hx1⟩;(rw [HI.out]);have hx2:=hx0.tr hx1;have hB1:=hB0.e0 hx1;have c2:w1.cell? ⟨w.heap.size,2,none⟩=some (.slice (some ⟨b,off,none⟩) s.nJ s.cJ):=(by rw [← HA.out];exact hB1.cell 2);have k1:w1.cell? ⟨b,off+i*7+1,none⟩=some (.int .i64 x1):=hx2.c0 (hce 1 _ rfl);have k4:w1.cell? ⟨b,off+i*7+4,none⟩=some (.slice GA gn gc):=hx2.c0 (hce 4 _ rfl)))
  go_loopw [7,8,35] (fun v8 v9 c wr=>∃ g:Nat,g≤gn∧c=.int .i64 g∧v8=.int .i64 ((D6 xg g).length:Nat)∧v9=.int .i64 (F3 s.allocs ⟨x0,x1,x2,x3,xg,x5,x6⟩ (D6 xg g):Nat)∧Ext Nothing w1 wr) (fun _ _ c _=>gn - (intOf c).toNat)
  case atStart=>exact ⟨0,Nat.zero_le _,rfl,rfl,rfl,Ext.refl _ _⟩
  case round =>
   obtain ⟨g,hg,rfl,rfl,rfl,hx⟩:=hrel
   clear c2 k1 k4
   by_cases hlt:g < gn
   ·obtain ⟨hgn,b2,off2,hAe2,hce2⟩:=hgs.get (hx2.tr hx) hlt
    have hpn:=I4 xg hgn
    have hpl:=JA xg g (by omega)
    have hg4:=NZ xg[g]
    generalize hG:xg[g]=G at hce2 hpn hg4
    obtain ⟨gc0,⟨ga,gm⟩⟩:=G
    have HC:=Lib.hid (show FO (⟨gc0,⟨ga,gm⟩⟩ : Ao)=(min gc0 4).toNat from rfl)
    rw [hAe2]
    have HAe2:=Lib.hid hAe2
    have HPN:=Lib.hid hpn
    have HLT:=Lib.hid hlt
    have hgn1:(g:Int) < gn:=by omega
    have hg0:(0:Int)≤(g:Int):=by omega
    have hgm:gn≤1048576:=hgb
    generalize hN:FO (⟨gc0,⟨ga,gm⟩⟩ : Ao)=N at hg4 hpn HPN HC
    clear hAe2 hpn hG hlt
    go_upto_region 8 with (first|go_skip|go_guarded|((with_reducible refine isW ?_);refine Ad rfl 66 _ rfl Oc b2 (off2+g*3) rfl #[.int .i64 gc0,.int .i64 ga,.int .i64 gm] hce2 rfl ?_))
    have hxg:Ext Nothing wr (wr.alloc (.cells #[.int .i64 gc0,.int .i64 ga,.int .i64 gm] 66)):=Ext.Ay
    have g0:(wr.alloc (.cells #[.int .i64 gc0,.int .i64 ga,.int .i64 gm] 66)).cell? ⟨wr.heap.size,0,none⟩=some (.int .i64 gc0):=(Blk.new wr _ _).cell 0
    generalize wr.heap.size=bg at g0 ⊢
    generalize (wr.alloc (.cells #[.int .i64 gc0,.int .i64 ga,.int .i64 gm] 66))=wo at hxg g0 ⊢
    go_cut [43,44] from 40 to 42 (fun e e0 wx=>e=.int .i64 (N:Nat)∧e0=.int .i64 0∧wo=wx)
    case first =>
     have hthree:(4 < gc0∧N=4) ∨ (0 < gc0∧gc0≤4∧gc0=N) ∨ (gc0≤0∧N=0):=by have:=HC.out;omega
     rcases hthree with ⟨k1,k2⟩|⟨k1,k2,k3⟩|⟨k1,k2⟩
     ·have K2:=Lib.hid k2
      clear k2
      go_wp2
      go_meet
      exact ⟨by first|(rw [K2.out];rfl)|(congr 1;have:=K2.out;omega),rfl,rfl⟩
     ·have K2:=Lib.hid k3
      clear k3
      go_wp2
      go_meet
      exact ⟨by first|(rw [← K2.out];done)|(congr 1;have:=K2.out;omega),rfl,rfl⟩
     have K2:=Lib.hid k2
     clear k2
     go_wp2
     go_meet
     exact ⟨by first|(rw [K2.out];rfl)|(congr 1;have:=K2.out;omega),rfl,rfl⟩
    case rest =>
     obtain ⟨rfl,rfl,rfl⟩:=hcut
     clear g0
     have hxo:=hx.tr hxg
     go_wp2
     go_loopw [7,8,44] (fun v8 v9 c wr=>∃ k:Nat,k≤N∧c=.int .i64 k∧v8=.int .i64 ((D6 xg g).length+k:Nat)∧v9=.int .i64 (F3 s.allocs ⟨x0,x1,x2,x3,xg,x5,x6⟩ (D6 xg g)+F3 s.allocs ⟨x0,x1,x2,x3,xg,x5,x6⟩ (Ee g k):Nat)∧Ext Nothing wo wr) (fun _ _ c _=>N - (intOf c).toNat)
     case atStart=>exact ⟨0,Nat.zero_le _,rfl,rfl,rfl,Ext.refl _ _⟩
     case round =>
      obtain ⟨k,hk,rfl,rfl,rfl,hxi⟩:=hrel
      by_cases hkl:k < N
      ·have hk1n:(k:Int) < (N:Int):=by omega
       have hwi:Ext Nothing w wr:=(hx2.tr hxo).tr hxi
       have hBi:=hB0.e0 ((hx1.tr hxo).tr hxi)
       have hcn:F3 s.allocs ⟨x0,x1,x2,x3,xg,x5,x6⟩ (D6 xg g)+F3 s.allocs ⟨x0,x1,x2,x3,xg,x5,x6⟩ (Ee g k)≤16777216:=by
        have e1:=MV s.allocs ⟨x0,x1,x2,x3,xg,x5,x6⟩ (D6 xg g)
        have e2:=MV s.allocs ⟨x0,x1,x2,x3,xg,x5,x6⟩ (Ee g k)
        rw [FQ] at e2
        omega
       have HRN:=Lib.hid (Ll g k)
       have HK:=Lib.hid hkl
       clear hk hkl
       rcases AV (Ce x0 g k) s.allocs with ⟨hq,hqf,_⟩|⟨p,a,hq,hpa,_,hqf,_⟩
       ·have HQ:=Lib.hid hq
        have HB:=Lib.hid (show Fsm.Kk s.allocs ⟨x0,x1,x2,x3,xg,x5,x6⟩ ((g:Int),(k:Int))=false from NN (j:=⟨x0,x1,x2,x3,xg,x5,x6⟩) (x:=((g:Int),(k:Int))) hqf)
        clear hq hqf
        go_wp2_with (first|go_skip|go_guarded|((with_reducible refine isW ?_);refine Ae rfl 30 _ rfl Aj w.heap.size rfl s.arr (show Blk _ _ _ _ from hBi) rfl ?_)|(go_at_call 121;(with_reducible refine (FX s.AA s.nA s.cA s.allocs x0 (g:Int) (k:Int) _ (hsa.Al hwi) hnA _ _ _ _ _ _ _ _).mono ?_);rintro e w2 ⟨rfl,hx2i⟩;(rw [HQ.out])))
        go_wp2
        go_roundw
        case rel=>exact ⟨k+1,HK.out,by go_num,by simp;omega,by rw [HRN.out,Gb,Il _ _ _ HB.out];simp,hxi.tr hx2i⟩
        case measure=>have:=HK.out;simp [intOf];omega
       have HQ:=Lib.hid hq
       have hr:=Nb (j:=⟨x0,x1,x2,x3,xg,x5,x6⟩) (x:=((g:Int),(k:Int))) hqf
       obtain ⟨hp1,hp2⟩:=List.getElem?_eq_some_iff.1 hpa
       obtain ⟨_,b3,off3,hAe3,hce3⟩:=hsa.get (Ext.refl Nothing w) (k:=p) (by have:=hal.out;omega)
       rw [hp2] at hce3
       have hp0:(0:Int)≤(p:Int):=by omega
       have hpn:(p:Int) < s.nA:=by have:=hal.out;omega
       obtain ⟨a0,a1,a2,a3,a4,a5,a6,⟨a7,a8⟩,a9,a10⟩:=a
       have HR:=Lib.hid hr
       have HA3:=Lib.hid hAe3
       have HC3:=Lib.hid (show ∀ j u,(#[.int .i64 a0,.int .i64 a1,.int .i64 a2,.int .i64 a3,.int .i64 a4,.int .i64 a5,.int .i64 a6,.int .i64 a7,.int .i64 a8,.bool a9,.int .i64 a10]:Array Value).toList[j]? = some u→w.cell? ⟨b3,off3+p*11+j,none⟩=some u from hce3)
       clear hq hqf hr hp2 hpa hAe3 hce3
       go_upto_region 15 with (first|go_skip|go_guarded|((with_reducible refine isW ?_);refine Ae rfl 30 _ rfl Aj w.heap.size rfl s.arr (show Blk _ _ _ _ from hBi) rfl ?_)|(go_at_call 121;(with_reducible refine (FX s.AA s.nA s.cA s.allocs x0 (g:Int) (k:Int) _ (hsa.Al hwi) hnA _ _ _ _ _ _ _ _).mono ?_);rintro e w2 ⟨rfl,hx2i⟩;(rw [HQ.out]);have hw2:=hwi.tr hx2i;have hB2:=hBi.e0 hx2i;have n5:w2.cell? ⟨w.heap.size,5,none⟩=some (.slice (some ⟨b3,off3,none⟩) s.nA s.cA):=(by rw [← HA3.out];exact hB2.cell 5))|((with_reducible refine isW ?_);refine Ad rfl 55 _ rfl Ba b3 (off3+p*11) rfl #[.int .i64 a0,.int .i64 a1,.int .i64 a2,.int .i64 a3,.int .i64 a4,.int .i64 a5,.int .i64 a6,.int .i64 a7,.int .i64 a8,.bool a9,.int .i64 a10] (fun j u hu=>hw2.c0 (HC3.out j u hu)) rfl ?_))
       have hxa:Ext Nothing w2 (w2.alloc (.cells #[.int .i64 a0,.int .i64 a1,.int .i64 a2,.int .i64 a3,.int .i64 a4,.int .i64 a5,.int .i64 a6,.int .i64 a7,.int .i64 a8,.bool a9,.int .i64 a10] 55)):=Ext.Ay
       have hBa:Blk (w2.alloc (.cells #[.int .i64 a0,.int .i64 a1,.int .i64 a2,.int .i64 a3,.int .i64 a4,.int .i64 a5,.int .i64 a6,.int .i64 a7,.int .i64 a8,.bool a9,.int .i64 a10] 55)) w2.heap.size 55 #[.int .i64 a0,.int .i64 a1,.int .i64 a2,.int .i64 a3,.int .i64 a4,.int .i64 a5,.int .i64 a6,.int .i64 a7,.int .i64 a8,.bool a9,.int .i64 a10]:=Blk.new _ _ _
       generalize w2.heap.size=ba at hBa ⊢
       generalize (w2.alloc (.cells #[.int .i64 a0,.int .i64 a1,.int .i64 a2,.int .i64 a3,.int .i64 a4,.int .i64 a5,.int .i64 a6,.int .i64 a7,.int .i64 a8,.bool a9,.int .i64 a10] 55))=wa at hxa hBa ⊢
       have d2:wa.cell? ⟨w.heap.size,2,none⟩=some (.slice (some ⟨b,off,none⟩) s.nJ s.cJ):=by rw [← HA.out];exact (hB2.e0 hxa).cell 2
       have d5:wa.cell? ⟨b,off+i*7+5,none⟩=some (.int .i64 x5):=(hw2.tr hxa).c0 (hce 5 _ rfl)
       have f2:wa.cell? ⟨ba,2,none⟩=some (.int .i64 a2):=hBa.cell 2
       have f9:wa.cell? ⟨ba,9,none⟩=some (.bool a9):=hBa.cell 9
       have f10:wa.cell? ⟨ba,10,none⟩=some (.int .i64 a10):=hBa.cell 10
       go_cut [79] from 61 to 78 (fun e wx=>e=.bool (a2 == x5 && a10 == 2 && !a9)∧Ext Nothing wa wx)
       case first =>
        cases z1:(a2 == x5) with
        | false =>
         go_quiet (fail)
         go_wp2
         go_meet
         exact ⟨by rw [z1];rfl,(Ext.refl _ _).drewN _⟩
        | true =>
         cases z2:(a10 == 2) with
         | false =>
          go_quiet (fail)
          go_wp2
          go_meet
          exact ⟨by rw [z1,z2];rfl,(Ext.refl _ _).drewN _⟩
         | true =>
          go_quiet (fail)
          go_wp2
          go_meet
          exact ⟨by rw [z1,z2];rfl,(Ext.refl _ _).drewN _⟩
       case rest =>
        obtain ⟨rfl,hdq⟩:=hcut
        rename World=>wq
        clear d2 d5 f2 f9 f10 hBa n5
        have HB:=Lib.hid (show Fsm.Kk s.allocs ⟨x0,x1,x2,x3,xg,x5,x6⟩ ((g:Int),(k:Int))=(a2 == x5 && a10 == 2 && !a9) from HR.out)
        clear HR
        generalize (a2 == x5 && a10 == 2 && !a9)=rb at HB ⊢
        cases rb with
        | false =>
         go_wp2
         go_roundw
         case rel=>exact ⟨k+1,HK.out,by go_num,by simp;omega,by rw [HRN.out,Gb,Il _ _ _ HB.out];simp,((hxi.tr hx2i).tr hxa).tr hdq⟩
         case measure=>have:=HK.out;simp [intOf];omega
        | true =>
         go_wp2
         go_roundw
         case rel=>exact ⟨k+1,HK.out,by go_num,by simp;omega,by rw [HRN.out,Gb,Il _ _ _ HB.out];simp;omega,((hxi.tr hx2i).tr hxa).tr hdq⟩
         case measure=>have:=HK.out;simp [intOf];omega
      have hkn:¬ ((k:Int) < (N:Int)):=by omega
      have HKE:=Lib.hid (show k=N by omega)
      go_wp2
      go_roundw
      case rel=>exact ⟨g+1,HLT.out,by go_num,by rw [HPN.out,List.length_append,FQ,HKE.out],by rw [HPN.out,Gb,HKE.out],hxo.tr hxi⟩
      case measure=>have:=HLT.out;simp [intOf];omega
   have HGE:=Lib.hid (show D6 xg g=Fsm.DX ⟨x0,x1,x2,x3,xg,x5,x6⟩ from Nw ⟨x0,x1,x2,x3,xg,x5,x6⟩ (by have:=HGL.out;show xg.length≤g;omega))
   have hgl2:¬ ((g:Int) < gn):=by omega
   go_wp2
   go_ret2
   exact ⟨by rw [H.out,HGE.out];rfl,hx2.tr hx⟩
end
section
open Go.RowKit
def Eu (j:Aq):Int:=if Fsm.Dw j then 0 else 30
def Dh (n:NodD):Int:=if Fsm.DL n then 0 else 31
theorem J7 {j:Aq} (h:Fsm.Dw j=false):Eu j=30:=by unfold Eu;rw [h];rfl
theorem JV {j:Aq} (h:Fsm.Dw j=true):Eu j=0:=by unfold Eu;rw [h];rfl
theorem Et {n:NodD} (h:Fsm.DL n=false):Dh n=31:=by unfold Dh;rw [h];rfl
theorem IX {n:NodD} (h:Fsm.DL n=true):Dh n=0:=by unfold Dh;rw [h];rfl
end
section
open Go.RowKit
theorem Nf (n0 n1 n2:Int) (n3 n4:Bool) (n5 n6 n7:Int):Fsm.DL ⟨n0,⟨n1,n2⟩,n3,n4,n5,n6,n7⟩=(inB n0 1 4 && D5 ⟨n1,n2⟩ 1099511627776 && inB n5 1 1099511627776):=by
 unfold Fsm.DL D5 inB;simp only [Fsm.BU,Bool.and_assoc];rfl
theorem Dn {ty g0 g1 g2:Int}:Fsm.BG ty ⟨g0,⟨g1,g2⟩⟩=(inB g0 0 4 && D5 ⟨g1,g2⟩ 1099511627776 && (ty != 3 || g0 == 1)):=by
 unfold Fsm.BG D5 inB;simp only [Fsm.BU,Bool.and_assoc,bne,Bool.not_and,Bool.not_not];rfl
theorem OL (x0 x1 x2 x3:Int) (xg:List Ao) (x5:Int) (x6:Bool) (nG:Nat) (h:nG=xg.length):Fsm.Dw ⟨x0,x1,x2,x3,xg,x5,x6⟩=((inB x0 1 1099511627776 && inB x1 1 3 && inB x2 1 100 && inB x3 1 8 && inB (nG:Int) 1 2) && xg.all (Fsm.BG x1)):=by
 have e1:decide (1≤xg.length)=decide ((1:Int)≤(nG:Int)):=decide_eq_decide.2 (by omega)
 have e2:decide (xg.length≤2)=decide ((nG:Int)≤2):=decide_eq_decide.2 (by omega)
 unfold Fsm.Dw inB;simp only [Fsm.BU,Bool.and_assoc,e1,e2];rfl
set_option maxRecDepth 20000 in
set_option maxHeartbeats 4000000 in
theorem Lm (n:NodD) (w:World):Calls Tryz.prog 65 #[.agg #[.int .i64 n.id,.int .i64 n.cap.cpu,.int .i64 n.cap.mem,.bool n.up,.bool n.drain,.int .i64 n.boot,.int .i64 n.epoch,.int .i64 n.seq]] w fun e w'=>e=.returned (.int .i64 (Dh n))∧Ext Nothing w w':=by
 obtain ⟨n0,⟨n1,n2⟩,n3,n4,n5,n6,n7⟩:=n
 simp only
 have hx0:Ext Nothing w (w.alloc (.cells #[.int .i64 n0,.int .i64 n1,.int .i64 n2,.bool n3,.bool n4,.int .i64 n5,.int .i64 n6,.int .i64 n7] 43)):=Ext.Ay
 have hC:Blk (w.alloc (.cells #[.int .i64 n0,.int .i64 n1,.int .i64 n2,.bool n3,.bool n4,.int .i64 n5,.int .i64 n6,.int .i64 n7] 43)) w.heap.size 43 #[.int .i64 n0,.int .i64 n1,.int .i64 n2,.bool n3,.bool n4,.int .i64 n5,.int .i64 n6,.int .i64 n7]:=Blk.new _ _ _
 have HK:=Lib.hid (Nf n0 n1 n2 n3 n4 n5 n6 n7)
 cases e1:inB n0 1 4 with
 | false =>
  have E1:=Lib.hid e1
  have H:=Lib.hid (show Dh ⟨n0,⟨n1,n2⟩,n3,n4,n5,n6,n7⟩=31 from Et (by rw [HK.out,E1.out];rfl))
  go_enter Tryz.func65,Tryz.ntmps65
  go_wp2_with (first|go_skip|go_guarded|(go_at_call 85;(with_reducible refine (Bp _ _ _ _).mono ?_);rintro e w1 ⟨rfl,rfl⟩;(first|rw [E1.out])))
  go_ret
  exact ⟨by rw [H.out];rfl,hx0⟩
 | true =>
  have E1:=Lib.hid e1
  cases e2:D5 ⟨n1,n2⟩ 1099511627776 with
  | false =>
   have E2:=Lib.hid e2
   have H:=Lib.hid (show Dh ⟨n0,⟨n1,n2⟩,n3,n4,n5,n6,n7⟩=31 from Et (by rw [HK.out,E1.out,E2.out];rfl))
   go_enter Tryz.func65,Tryz.ntmps65
   go_wp2_with (first|go_skip|go_guarded|(go_at_call 85;(with_reducible refine (Bp _ _ _ _).mono ?_);rintro e w1 ⟨rfl,rfl⟩;(first|rw [E1.out]))|(go_at_call 86;(with_reducible refine (Cv _ _ _ _).mono ?_);rintro e w2 ⟨rfl,hx2⟩;(rw [E2.out]);have k5:w2.cell? ⟨w.heap.size,5,none⟩=some (.int .i64 n5):=(hC.e0 hx2).cell 5))
   go_ret
   exact ⟨by rw [H.out];rfl,hx0.tr hx2⟩
  | true =>
   have E2:=Lib.hid e2
   cases e3:inB n5 1 1099511627776 with
   | false =>
    have E3:=Lib.hid e3
    have H:=Lib.hid (show Dh ⟨n0,⟨n1,n2⟩,n3,n4,n5,n6,n7⟩=31 from Et (by rw [HK.out,E1.out,E2.out,E3.out];rfl))
    go_enter Tryz.func65,Tryz.ntmps65
    go_wp2_with (first|go_skip|go_guarded|(go_at_call 85;(with_reducible refine (Bp _ _ _ _).mono ?_);rintro e w1 ⟨rfl,rfl⟩;(first|rw [E1.out]|rw [E3.out]))|(go_at_call 86;(with_reducible refine (Cv _ _ _ _).mono ?_);rintro e w2 ⟨rfl,hx2⟩;(rw [E2.out]);have k5:w2.cell? ⟨w.heap.size,5,none⟩=some (.int .i64 n5):=(hC.e0 hx2).cell 5))
    go_ret
    exact ⟨by rw [H.out];rfl,hx0.tr hx2⟩
   | true =>
    have E3:=Lib.hid e3
    have H:=Lib.hid (show Dh ⟨n0,⟨n1,n2⟩,n3,n4,n5,n6,n7⟩=0 from IX (by rw [HK.out,E1.out,E2.out,E3.out];rfl))
    go_enter Tryz.func65,Tryz.ntmps65
    go_wp2_with (first|go_skip|go_guarded|(go_at_call 85;(with_reducible refine (Bp _ _ _ _).mono ?_);rintro e w1 ⟨rfl,rfl⟩;(first|rw [E1.out]|rw [E3.out]))|(go_at_call 86;(with_reducible refine (Cv _ _ _ _).mono ?_);rintro e w2 ⟨rfl,hx2⟩;(rw [E2.out]);have k5:w2.cell? ⟨w.heap.size,5,none⟩=some (.int .i64 n5):=(hC.e0 hx2).cell 5))
    go_ret
    exact ⟨by rw [H.out];rfl,hx0.tr hx2⟩
set_option maxRecDepth 20000 in
set_option maxHeartbeats 8000000 in
theorem MR (x0 x1 x2 x3:Int) (xg:List Ao) (x5:Int) (x6:Bool) (AG:Option Addr) (nG cG:Nat) (w:World) (hG:Sl w 3 AG nG (xg.map Ao.cells)) (hn:nG≤1048576) :
  Calls Tryz.prog 60 #[.agg #[.int .i64 x0,.int .i64 x1,.int .i64 x2,.int .i64 x3,.slice AG nG cG,.int .i64 x5,.bool x6]] w fun e w'=>e=.returned (.int .i64 (Eu ⟨x0,x1,x2,x3,xg,x5,x6⟩))∧Ext Nothing w w':=by
 have hx0:Ext Nothing w (w.alloc (.cells #[.int .i64 x0,.int .i64 x1,.int .i64 x2,.int .i64 x3,.slice AG nG cG,.int .i64 x5,.bool x6] 39)):=Ext.Ay
 have hC:Blk (w.alloc (.cells #[.int .i64 x0,.int .i64 x1,.int .i64 x2,.int .i64 x3,.slice AG nG cG,.int .i64 x5,.bool x6] 39)) w.heap.size 39 #[.int .i64 x0,.int .i64 x1,.int .i64 x2,.int .i64 x3,.slice AG nG cG,.int .i64 x5,.bool x6]:=Blk.new _ _ _
 have HGL:=Lib.hid hG.len
 have HK:=Lib.hid (OL x0 x1 x2 x3 xg x5 x6 nG hG.len)
 go_enter Tryz.func60,Tryz.ntmps60
 go_upto_region 1 with (first|go_skip|go_guarded)
 generalize w.heap.size=C at hC ⊢
 generalize (w.alloc (.cells #[.int .i64 x0,.int .i64 x1,.int .i64 x2,.int .i64 x3,.slice AG nG cG,.int .i64 x5,.bool x6] 39))=W at hx0 hC ⊢
 have c0:W.cell? ⟨C,0,none⟩=some (.int .i64 x0):=hC.cell 0
 have c1:W.cell? ⟨C,1,none⟩=some (.int .i64 x1):=hC.cell 1
 have c2:W.cell? ⟨C,2,none⟩=some (.int .i64 x2):=hC.cell 2
 have c3:W.cell? ⟨C,3,none⟩=some (.int .i64 x3):=hC.cell 3
 have c4:W.cell? ⟨C,4,none⟩=some (.slice AG nG cG):=hC.cell 4
 go_cut [3] from 6 to 29 (fun e wx=>e=.bool (inB x0 1 1099511627776 && inB x1 1 3 && inB x2 1 100 && inB x3 1 8 && inB (nG:Int) 1 2)∧W=wx)
 case first =>
  cases e1:inB x0 1 1099511627776 with
  | false =>
   have E1:=Lib.hid e1
   go_wp2_with (first|go_skip|go_guarded|(go_at_call 85;(with_reducible refine (Bp _ _ _ _).mono ?_);rintro e w1 ⟨rfl,rfl⟩;(first|rw [E1.out])))
   go_meet
   exact ⟨by rw [E1.out];rfl,rfl⟩
  | true =>
   have E1:=Lib.hid e1
   cases e2:inB x1 1 3 with
   | false =>
    have E2:=Lib.hid e2
    go_wp2_with (first|go_skip|go_guarded|(go_at_call 85;(with_reducible refine (Bp _ _ _ _).mono ?_);rintro e w1 ⟨rfl,rfl⟩;(first|rw [E1.out]|rw [E2.out])))
    go_meet
    exact ⟨by rw [E1.out,E2.out];rfl,rfl⟩
   | true =>
    have E2:=Lib.hid e2
    cases e3:inB x2 1 100 with
    | false =>
     have E3:=Lib.hid e3
     go_wp2_with (first|go_skip|go_guarded|(go_at_call 85;(with_reducible refine (Bp _ _ _ _).mono ?_);rintro e w1 ⟨rfl,rfl⟩;(first|rw [E1.out]|rw [E2.out]|rw [E3.out])))
     go_meet
     exact ⟨by rw [E1.out,E2.out,E3.out];rfl,rfl⟩
    | true =>
     have E3:=Lib.hid e3
     cases e4:inB x3 1 8 with
     | false =>
      have E4:=Lib.hid e4
      go_wp2_with (first|go_skip|go_guarded|(go_at_call 85;(with_reducible refine (Bp _ _ _ _).mono ?_);rintro e w1 ⟨rfl,rfl⟩;(first|rw [E1.out]|rw [E2.out]|rw [E3.out]|rw [E4.out])))
      go_meet
      exact ⟨by rw [E1.out,E2.out,E3.out,E4.out];rfl,rfl⟩
     | true =>
      have E4:=Lib.hid e4
      cases e5:inB (nG:Int) 1 2 with
      | false =>
       have E5:=Lib.hid e5
       go_wp2_with (first|go_skip|go_guarded|(go_at_call 85;(with_reducible refine (Bp _ _ _ _).mono ?_);rintro e w1 ⟨rfl,rfl⟩;(first|rw [E1.out]|rw [E2.out]|rw [E3.out]|rw [E4.out]|rw [E5.out])))
       go_meet
       exact ⟨by rw [E1.out,E2.out,E3.out,E4.out,E5.out];rfl,rfl⟩
      | true =>
       have E5:=Lib.hid e5
       go_wp2_with (first|go_skip|go_guarded|(go_at_call 85;(with_reducible refine (Bp _ _ _ _).mono ?_);rintro e w1 ⟨rfl,rfl⟩;(first|rw [E1.out]|rw [E2.out]|rw [E3.out]|rw [E4.out]|rw [E5.out])))
       go_meet
       exact ⟨by rw [E1.out,E2.out,E3.out,E4.out,E5.out];rfl,rfl⟩
 case rest =>
  obtain ⟨rfl,rfl⟩:=hcut
  generalize (inB x0 1 1099511627776 && inB x1 1 3 && inB x2 1 100 && inB x3 1 8 && inB (nG:Int) 1 2)=o0 at HK ⊢
  clear c0 c1 c2 c3
  go_wp2_with (first|go_skip|go_guarded)
  clear c4
  go_loopw [3,33] (fun v i wr=>∃ t:Nat,t≤nG∧i=.int .i64 t∧v=.bool (o0 && (xg.take t).all (Fsm.BG x1))∧Ext Nothing W wr) (fun _ i _=>nG - (intOf i).toNat)
  case atStart=>exact ⟨0,Nat.zero_le _,rfl,by simp,Ext.refl _ _⟩
  case round =>
   obtain ⟨t,ht,rfl,rfl,hx⟩:=hrel
   have hz0:=hx0.size
   by_cases hlt:t < nG
   ·obtain ⟨hgn,b,off,hAe,hce⟩:=hG.get (hx0.tr hx) hlt
    have hnx:(xg.take (t+1)).all (Fsm.BG x1)=((xg.take t).all (Fsm.BG x1) && Fsm.BG x1 xg[t]):=by rw [List.take_add_one,List.getElem?_eq_getElem hgn,List.all_append];simp
    generalize xg[t]=G at hce hnx
    obtain ⟨g0,⟨g1,g2⟩⟩:=G
    have HNX:=Lib.hid (show (o0 && (xg.take (t+1)).all (Fsm.BG x1))=((o0 && (xg.take t).all (Fsm.BG x1)) && Fsm.BG x1 ⟨g0,⟨g1,g2⟩⟩) by rw [hnx,Bool.and_assoc])
    clear hnx
    generalize (o0 && (xg.take t).all (Fsm.BG x1))=ok at HNX ⊢
    rw [hAe]
    have HT:=Lib.hid hlt
    have hk0:(0:Int)≤(t:Int):=by omega
    have hk1:(t:Int) < nG:=by omega
    clear hAe hlt
    have hCr:=hC.e0 hx
    have hxa:Ext Nothing wr (wr.alloc (.cells #[.int .i64 g0,.int .i64 g1,.int .i64 g2] 66)):=Ext.Ay
    have hBa:Blk (wr.alloc (.cells #[.int .i64 g0,.int .i64 g1,.int .i64 g2] 66)) wr.heap.size 66 #[.int .i64 g0,.int .i64 g1,.int .i64 g2]:=Blk.new _ _ _
    go_upto_region 5 with (first|go_skip|go_guarded|((with_reducible refine isW ?_);refine Ad rfl 66 _ rfl Oc b (off+t*3) rfl #[.int .i64 g0,.int .i64 g1,.int .i64 g2] hce rfl ?_))
    generalize wr.heap.size=ba at hBa ⊢
    generalize (wr.alloc (.cells #[.int .i64 g0,.int .i64 g1,.int .i64 g2] 66))=wa at hxa hBa ⊢
    have j1:wa.cell? ⟨C,1,none⟩=some (.int .i64 x1):=(hCr.e0 hxa).cell 1
    have f0:wa.cell? ⟨ba,0,none⟩=some (.int .i64 g0):=hBa.cell 0
    have f1:wa.cell? ⟨ba,1,none⟩=some (.int .i64 g1):=hBa.cell 1
    have f2:wa.cell? ⟨ba,2,none⟩=some (.int .i64 g2):=hBa.cell 2
    cases ok with
    | false =>
     have HR:=Lib.hid (HNX.out.trans (show (_ && Fsm.BG x1 ⟨g0,⟨g1,g2⟩⟩)=false by rw [Dn];rfl))
     go_wp2_with (first|go_skip|go_guarded)
     go_roundw
     case rel=>exact ⟨t+1,HT.out,by go_num,by rw [HR.out],hx.tr hxa⟩
     case measure=>have:=HT.out;simp [intOf];omega
    | true =>
     cases h1:inB g0 0 4 with
     | false =>
      have G1:=Lib.hid h1
      have HR:=Lib.hid (HNX.out.trans (show (_ && Fsm.BG x1 ⟨g0,⟨g1,g2⟩⟩)=false by rw [Dn,G1.out];rfl))
      go_wp2_with (first|go_skip|go_guarded|(go_at_call 85;(with_reducible refine (Bp _ _ _ _).mono ?_);rintro e w1 ⟨rfl,rfl⟩;(first|rw [G1.out])))
      go_roundw
      case rel=>exact ⟨t+1,HT.out,by go_num,by rw [HR.out],hx.tr hxa⟩
      case measure=>have:=HT.out;simp [intOf];omega
     | true =>
      have G1:=Lib.hid h1
      cases h2:D5 ⟨g1,g2⟩ 1099511627776 with
      | false =>
       have G2:=Lib.hid h2
       have HR:=Lib.hid (HNX.out.trans (show (_ && Fsm.BG x1 ⟨g0,⟨g1,g2⟩⟩)=false by rw [Dn,G1.out,G2.out];rfl))
       go_wp2_with (first|go_skip|go_guarded|(go_at_call 85;(with_reducible refine (Bp _ _ _ _).mono ?_);rintro e w1 ⟨rfl,rfl⟩;(first|rw [G1.out]))|(go_at_call 86;(with_reducible refine (Cv _ _ _ _).mono ?_);rintro e w2 ⟨rfl,hx2⟩;(rw [G2.out]);have j1:=hx2.c0 j1;have f0:=hx2.c0 f0))
       go_roundw
       case rel=>exact ⟨t+1,HT.out,by go_num,by rw [HR.out],(hx.tr hxa).tr hx2⟩
       case measure=>have:=HT.out;simp [intOf];omega
      | true =>
       have G2:=Lib.hid h2
       cases h3:(x1 != 3) with
       | true =>
        have G3:=Lib.hid h3
        have HR:=Lib.hid (HNX.out.trans (show (_ && Fsm.BG x1 ⟨g0,⟨g1,g2⟩⟩)=true by rw [Dn,G1.out,G2.out,G3.out];rfl))
        go_wp2_with (first|go_skip|go_guarded|(go_at_call 85;(with_reducible refine (Bp _ _ _ _).mono ?_);rintro e w1 ⟨rfl,rfl⟩;(first|rw [G1.out]))|(go_at_call 86;(with_reducible refine (Cv _ _ _ _).mono ?_);rintro e w2 ⟨rfl,hx2⟩;(rw [G2.out]);have j1:=hx2.c0 j1;have f0:=hx2.c0 f0))
        go_roundw
        case rel=>exact ⟨t+1,HT.out,by go_num,by rw [HR.out],(hx.tr hxa).tr hx2⟩
        case measure=>have:=HT.out;simp [intOf];omega
       | false =>
        have G3:=Lib.hid h3
        cases h4:(g0 == 1) with
        | false =>
         have G4:=Lib.hid h4
         have HR:=Lib.hid (HNX.out.trans (show (_ && Fsm.BG x1 ⟨g0,⟨g1,g2⟩⟩)=false by rw [Dn,G1.out,G2.out,G3.out,G4.out];rfl))
         go_wp2_with (first|go_skip|go_guarded|(go_at_call 85;(with_reducible refine (Bp _ _ _ _).mono ?_);rintro e w1 ⟨rfl,rfl⟩;(first|rw [G1.out]))|(go_at_call 86;(with_reducible refine (Cv _ _ _ _).mono ?_);rintro e w2 ⟨rfl,hx2⟩;(rw [G2.out]);have j1:=hx2.c0 j1;have f0:=hx2.c0 f0))
         go_roundw
         case rel=>exact ⟨t+1,HT.out,by go_num,by rw [HR.out],(hx.tr hxa).tr hx2⟩
         case measure=>have:=HT.out;simp [intOf];omega
        | true =>
         have G4:=Lib.hid h4
         have HR:=Lib.hid (HNX.out.trans (show (_ && Fsm.BG x1 ⟨g0,⟨g1,g2⟩⟩)=true by rw [Dn,G1.out,G2.out,G3.out,G4.out];rfl))
         go_wp2_with (first|go_skip|go_guarded|(go_at_call 85;(with_reducible refine (Bp _ _ _ _).mono ?_);rintro e w1 ⟨rfl,rfl⟩;(first|rw [G1.out]))|(go_at_call 86;(with_reducible refine (Cv _ _ _ _).mono ?_);rintro e w2 ⟨rfl,hx2⟩;(rw [G2.out]);have j1:=hx2.c0 j1;have f0:=hx2.c0 f0))
         go_roundw
         case rel=>exact ⟨t+1,HT.out,by go_num,by rw [HR.out],(hx.tr hxa).tr hx2⟩
         case measure=>have:=HT.out;simp [intOf];omega
   have hnl:¬ ((t:Int) < nG):=by omega
   have HB:=Lib.hid (show (o0 && (xg.take t).all (Fsm.BG x1))=Fsm.Dw ⟨x0,x1,x2,x3,xg,x5,x6⟩ by rw [HK.out,List.take_of_length_le (by have:=HGL.out;omega)])
   generalize (o0 && (xg.take t).all (Fsm.BG x1))=ob at HB ⊢
   cases ob with
   | false =>
    have H:=Lib.hid (show Eu ⟨x0,x1,x2,x3,xg,x5,x6⟩=30 from J7 HB.out.symm)
    go_wp2_with (first|go_skip|go_guarded)
    go_ret
    exact ⟨by rw [H.out];rfl,hx0.tr hx⟩
   | true =>
    have H:=Lib.hid (show Eu ⟨x0,x1,x2,x3,xg,x5,x6⟩=0 from JV HB.out.symm)
    go_wp2_with (first|go_skip|go_guarded)
    go_ret
    exact ⟨by rw [H.out];rfl,hx0.tr hx⟩
end
section
open Go.RowKit
def CX (t:Ab) (j:Aq):Ab:=if j.ty == 3 && !j.stopped then Fsm.eval t j.id else t
theorem Oi (s:Ab):Fsm.system s=s.jobs.foldl CX s:=rfl
theorem Aw.cs {base:Nat} {W:World} {s:Aa} {A:Option Addr} {n c:Nat} {l:List EvalD} (h:Aw base W ({ s with AE:=A,nE:=n,cE:=c,evals:=l }:Aa)):n=l.length:=h.el
end
section
open Go.RowKit
theorem Mw (node:Int) (d:Ab) (t:Nat):(List.range (t+1)).foldl (Fsm.AR node) d=Fsm.AR node ((List.range t).foldl (Fsm.AR node) d) t:=by
 rw [List.range_succ,List.foldl_append];rfl
theorem M3 {node:Int} {d:Ab} {t:Nat} {a:Ac} (h:d.allocs[t]? = some a) (hc:(a.node == node && !Bv a)=false):Fsm.AR node d t=d:=by
 unfold Fsm.AR;rw [h];simp only [];rw [if_neg (by rw [hc];exact Bool.false_ne_true)]
theorem Od {node:Int} {d:Ab} {t:Nat} {a:Ac} (h:d.allocs[t]? = some a) (hc:(a.node == node && !Bv a)=true):Fsm.AR node d t=Fsm.eval { d with allocs:=d.allocs.set t { a with state:=6 } } a.job:=by
 unfold Fsm.AR;rw [h];simp only [];rw [if_pos hc]
end
end Go.Proofs.YtccekmeifanipaaGreat
