/- Parts of the proof: MPutJob -/
import Derived.Test.YtccekmeifanipaaGreatT10
import Derived.Test.YtccekmeifanipaaGreatT04
namespace Go.Proofs.YtccekmeifanipaaGreat
set_option linter.unusedVariables false
set_option linter.unusedSimpArgs false
set_option linter.unusedSectionVars false
open Go.RowKit
theorem DN (y:JobV) (w:World):Calls Tryz.prog 90 #[.agg #[.int .i64 y.1.id,.int .i64 y.1.ty,.int .i64 y.1.prio,.int .i64 y.1.par,y.2,.int .i64 y.1.ver,.bool y.1.stopped]] w fun e w'=>e=.returned (.int .i64 y.1.id)∧Ext Nothing w w':=by
 have hx:Ext Nothing w (w.alloc (.cells #[.int .i64 y.1.id,.int .i64 y.1.ty,.int .i64 y.1.prio,.int .i64 y.1.par,y.2,.int .i64 y.1.ver,.bool y.1.stopped] 39)):=Ext.Ay
 have hb:Blk (w.alloc (.cells #[.int .i64 y.1.id,.int .i64 y.1.ty,.int .i64 y.1.prio,.int .i64 y.1.par,y.2,.int .i64 y.1.ver,.bool y.1.stopped] 39)) w.heap.size 39 #[.int .i64 y.1.id,.int .i64 y.1.ty,.int .i64 y.1.prio,.int .i64 y.1.par,y.2,.int .i64 y.1.ver,.bool y.1.stopped]:=Blk.new _ _ _
 go_enter Tryz.func90,Tryz.ntmps90
 go_wp2
 go_ret
 exact ⟨rfl,hx⟩
set_option maxRecDepth 20000 in
set_option maxHeartbeats 4000000 in
theorem Qx (base:Nat) (A:Option Addr) (c:Nat) (l:List JobV) (x:JobV) (hv1:∀ y∈x :: l,y.2.oneCell' = true) (w:World) (h:w.ownsRow base 39 7 (.slice A l.length c) l.length (l.flatMap JobV.cells)) (hb:base≤w.heap.size) (hl:l.length≤67108862) (hu:Fsm.Up (fun y:JobV=>y.1.id) l) :
  Calls Tryz.prog 89 #[.slice A l.length c,.agg #[.int .i64 x.1.id,.int .i64 x.1.ty,.int .i64 x.1.prio,.int .i64 x.1.par,x.2,.int .i64 x.1.ver,.bool x.1.stopped],.func (.func 90) #[] #[]] w fun e w'=>∃ A' c',e=.returned (.slice A' (Fsm.Ak (fun y:JobV=>y.1.id) x l).length c')∧w'.ownsRow base 39 7 (.slice A' (Fsm.Ak (fun y:JobV=>y.1.id) x l).length c') (Fsm.Ak (fun y:JobV=>y.1.id) x l).length ((Fsm.Ak (fun y:JobV=>y.1.id) x l).flatMap JobV.cells)∧(∀ q,(Value.slice A' (Fsm.Ak (fun y:JobV=>y.1.id) x l).length c').ownBlock=some q→(Value.slice A l.length c).ownBlock=some q ∨ w.heap.size≤q)∧Ext (fun q=>(Value.slice A l.length c).ownBlock=some q) w w':=by
 have hx0:Ext Nothing w (w.alloc (.cells #[.int .i64 x.1.id,.int .i64 x.1.ty,.int .i64 x.1.prio,.int .i64 x.1.par,x.2,.int .i64 x.1.ver,.bool x.1.stopped] 39)):=Ext.Ay
 have hB0:Blk (w.alloc (.cells #[.int .i64 x.1.id,.int .i64 x.1.ty,.int .i64 x.1.prio,.int .i64 x.1.par,x.2,.int .i64 x.1.ver,.bool x.1.stopped] 39)) w.heap.size 39 #[.int .i64 x.1.id,.int .i64 x.1.ty,.int .i64 x.1.prio,.int .i64 x.1.par,x.2,.int .i64 x.1.ver,.bool x.1.stopped]:=Blk.new _ _ _
 go_enter Tryz.func89,Tryz.ntmps89
 go_wp2
 go_loopw [11] (fun i wr=>∃ k:Nat,k≤l.length∧i=.int .i64 k∧(∀ j < k,∀ z,l[j]? = some z→(fun y:JobV=>y.1.id) z < x.1.id)∧Ext Nothing w wr∧Blk wr w.heap.size 39 #[.int .i64 x.1.id,.int .i64 x.1.ty,.int .i64 x.1.prio,.int .i64 x.1.par,x.2,.int .i64 x.1.ver,.bool x.1.stopped]) (fun i _=>l.length - (intOf i).toNat)
 case atStart=>exact ⟨0,Nat.zero_le _,rfl,fun j hj=>absurd hj (by omega),hx0,hB0⟩
 case round =>
  obtain ⟨k,hk,rfl,hno,hxr,hB⟩:=hrel
  clear hB0 hx0
  by_cases hlt:k < l.length
  ·obtain ⟨g,cur,hAe,hbg,hg,hcs,hcap,hmax,htk,hset⟩:=DR (i:=k) (f:=JobV.cells) (fun _=>rfl) h hlt
   obtain ⟨hjn,b,off,hAe2,hce⟩:=(Sl.Bd (f:=JobV.cells) (fun _=>rfl) h rfl).get hxr hlt
   rw [hAe] at hAe2
   injection hAe2 with hAe2
   injection hAe2 with hAe3 hAe4
   subst hAe3 hAe4 hAe
   simp only [Nat.zero_add] at hce
   have hgw:g < w.heap.size:=hg.lt
   have hgr:=hg.e0 hxr
   have hne:w.heap.size ≠ g:=by omega
   have hy:l[k]? = some l[k]:=List.getElem?_eq_getElem hjn
   generalize l[k]=y at hce hy
   have hk0:(0:Int)≤(k:Int):=by omega
   have hk1:(k:Int) < l.length:=by omega
   have HY:=Lib.hid hy
   have HN:=Lib.hid hno
   have HS:=Lib.hid hset
   have HT:=Lib.hid htk
   have HC:=Lib.hid hcs
   have HU:=Lib.hid hu
   have H:=Lib.hid h
   clear hy hno hset htk hcs hu h
   rcases Int.lt_trichotomy y.1.id x.1.id with hc|hc|hc
   ·have q1:(y.1.id == x.1.id)=false:=by simp;omega
    have q2:¬ (y.1.id > x.1.id):=by omega
    have q3:¬ (y.1.id=x.1.id):=by omega
    go_wp2_with (first|go_skip|go_guarded|((with_reducible refine isW ?_);refine Ad rfl 39 _ rfl STJob g (k*7) rfl #[.int .i64 y.1.id,.int .i64 y.1.ty,.int .i64 y.1.prio,.int .i64 y.1.par,y.2,.int .i64 y.1.ver,.bool y.1.stopped] hce rfl ?_)|((with_reducible refine isW ?_);refine Ae rfl 39 _ rfl STJob w.heap.size rfl #[.int .i64 x.1.id,.int .i64 x.1.ty,.int .i64 x.1.prio,.int .i64 x.1.par,x.2,.int .i64 x.1.ver,.bool x.1.stopped] (show Blk _ _ _ _ from by first|exact hB2|exact hB1|exact hB) rfl ?_)|(go_at_call 90;(with_reducible refine (DN y wr).mono ?_);rintro e w1 ⟨rfl,hx1⟩;have hB1:=hB.e0 hx1)|(go_at_call 90;(with_reducible refine (DN x w1).mono ?_);rintro e w2 ⟨rfl,hx2⟩;have hB2:=hB1.e0 hx2)|(go_at_call 90;(with_reducible refine (DN x w2).mono ?_);rintro e w3 ⟨rfl,hx3⟩;have hB3:=hB2.e0 hx3))
    go_roundw
    case rel =>
     refine ⟨k+1,hlt,by go_num,fun j hj z hz=>?_,((hxr.tr hx1).tr hx2).tr hx3,hB3⟩
     rcases Nat.lt_or_ge j k with h1|h1
     ·exact HN.out j h1 z hz
     obtain rfl:j=k:=by omega
     rw [HY.out] at hz;cases hz;exact hc
    case measure=>simp [intOf];omega
   ·have q1:(y.1.id == x.1.id)=true:=by simpa using hc
    have HCC:=Lib.hid hc
    clear hc
    have h0s:k*7+7≤cur.size:=by rw [HC.out];have:=Nat.mul_le_mul_right 7 (show k+1≤c by omega);omega
    go_wp2_with (first|go_skip|go_guarded|((with_reducible refine isW ?_);refine Ad rfl 39 _ rfl STJob g (k*7) rfl #[.int .i64 y.1.id,.int .i64 y.1.ty,.int .i64 y.1.prio,.int .i64 y.1.par,y.2,.int .i64 y.1.ver,.bool y.1.stopped] hce rfl ?_)|((with_reducible refine isW ?_);refine Ae rfl 39 _ rfl STJob w.heap.size rfl #[.int .i64 x.1.id,.int .i64 x.1.ty,.int .i64 x.1.prio,.int .i64 x.1.par,x.2,.int .i64 x.1.ver,.bool x.1.stopped] (show Blk _ _ _ _ from by first|exact hB2|exact hB1|exact hB) rfl ?_)|(go_at_call 90;(with_reducible refine (DN y wr).mono ?_);rintro e w1 ⟨rfl,hx1⟩;have hB1:=hB.e0 hx1)|(go_at_call 90;(with_reducible refine (DN x w1).mono ?_);rintro e w2 ⟨rfl,hx2⟩;have hB2:=hB1.e0 hx2)|((with_reducible refine isW ?_);refine wpList_store_row rfl 39 _ _ rfl STJob g (k*7) rfl #[.int .i64 x.1.id,.int .i64 x.1.ty,.int .i64 x.1.prio,.int .i64 x.1.par,x.2,.int .i64 x.1.ver,.bool x.1.stopped] rfl (show Blk _ _ _ _ from (hgr.e0 hx1).e0 hx2) h0s rfl (by have q9:=hv1 x (List.mem_cons_self ..);simpa [Value.oneCell'] using q9) ?_;intro w9 hB9 hx9))
    go_ret
    have e9:=Fsm.Ez HU.out HY.out HN.out HCC.out
    exact ⟨some ⟨g,0,none⟩,c,by rw [e9,List.length_set];rfl,by rw [e9,List.length_set];exact HS.out x w9 hB9,fun q hq=>.inl hq,((hxr.tr hx1).tr hx2).any.trans hx9 (fun b hb e=>by rw [show b=g from e];rfl)⟩
   have q1:(y.1.id == x.1.id)=false:=by simp;omega
   have q2:y.1.id > x.1.id:=by omega
   have q3:¬ (y.1.id=x.1.id):=by omega
   have e9:=Lib.hid (Fsm.Dk HU.out HY.out HN.out hc)
   have e8:(l.take k ++ x :: l.drop k).length=l.length+1:=by simp;omega
   have E8:=Lib.hid e8
   clear e8
   by_cases hroom:l.length+1≤c
   ·go_wp2_with (first|go_skip|go_guarded|((with_reducible refine isW ?_);refine Ad rfl 39 _ rfl STJob g (k*7) rfl #[.int .i64 y.1.id,.int .i64 y.1.ty,.int .i64 y.1.prio,.int .i64 y.1.par,y.2,.int .i64 y.1.ver,.bool y.1.stopped] hce rfl ?_)|((with_reducible refine isW ?_);refine Ae rfl 39 _ rfl STJob w.heap.size rfl #[.int .i64 x.1.id,.int .i64 x.1.ty,.int .i64 x.1.prio,.int .i64 x.1.par,x.2,.int .i64 x.1.ver,.bool x.1.stopped] (show Blk _ _ _ _ from by first|exact hB3|exact hB2|exact hB1|exact hB) rfl ?_)|(go_at_call 90;(with_reducible refine (DN y wr).mono ?_);rintro e w1 ⟨rfl,hx1⟩;have hB1:=hB.e0 hx1)|(go_at_call 90;(with_reducible refine (DN x w1).mono ?_);rintro e w2 ⟨rfl,hx2⟩;have hB2:=hB1.e0 hx2)|(go_at_call 90;(with_reducible refine (DN x w2).mono ?_);rintro e w3 ⟨rfl,hx3⟩;have hB3:=hB2.e0 hx3)|((with_reducible refine isW ?_);refine AZ rfl 23 _ rfl FJ #[.int .i64 x.1.id,.int .i64 x.1.ty,.int .i64 x.1.prio,.int .i64 x.1.par,x.2,.int .i64 x.1.ver,.bool x.1.stopped] rfl rfl ?_)|(go_at_call 115;(refine (Ig base g c k w3.heap.size l x hv1 cur (w3.alloc (.cells #[.int .i64 x.1.id,.int .i64 x.1.ty,.int .i64 x.1.prio,.int .i64 x.1.par,x.2,.int .i64 x.1.ver,.bool x.1.stopped] 39)) (((hgr.e0 hx1).e0 hx2).e0 (hx3.tr Ext.Ay)) HC.out HT.out hlt (Blk.new _ _ _) (by have:=hx1.size;have:=hx2.size;have:=hx3.size;have:=hxr.size;omega) hroom hmax hl).mono ?_);rintro e w9 ⟨rfl,hcc,hx9⟩))
    go_ret
    obtain ⟨cs9,hb9,hs9,ht9⟩:=hcc
    have hxA:Ext Nothing w (w3.alloc (.cells #[.int .i64 x.1.id,.int .i64 x.1.ty,.int .i64 x.1.prio,.int .i64 x.1.par,x.2,.int .i64 x.1.ver,.bool x.1.stopped] 39)):=(((hxr.tr hx1).tr hx2).tr hx3).alloc _
    refine ⟨some ⟨g,0,none⟩,c,by rw [e9.out,E8.out];rfl,?_,fun q hq=>.inl hq,hxA.any.trans hx9 (fun b hb e=>by rw [show b=g from e];rfl)⟩
    rw [e9.out,E8.out]
    refine ⟨?_,.inr ⟨g,c,cs9,rfl,hbg,hb9,hroom,hmax,hs9,ht9⟩⟩
    rw [← ht9,List.length_take,Array.length_toList (xs:=cs9),hs9]
    exact Nat.min_eq_left (Nat.mul_le_mul_right _ hroom)
   go_wp2_with (first|go_skip|go_guarded|((with_reducible refine isW ?_);refine Ad rfl 39 _ rfl STJob g (k*7) rfl #[.int .i64 y.1.id,.int .i64 y.1.ty,.int .i64 y.1.prio,.int .i64 y.1.par,y.2,.int .i64 y.1.ver,.bool y.1.stopped] hce rfl ?_)|((with_reducible refine isW ?_);refine Ae rfl 39 _ rfl STJob w.heap.size rfl #[.int .i64 x.1.id,.int .i64 x.1.ty,.int .i64 x.1.prio,.int .i64 x.1.par,x.2,.int .i64 x.1.ver,.bool x.1.stopped] (show Blk _ _ _ _ from by first|exact hB3|exact hB2|exact hB1|exact hB) rfl ?_)|(go_at_call 90;(with_reducible refine (DN y wr).mono ?_);rintro e w1 ⟨rfl,hx1⟩;have hB1:=hB.e0 hx1)|(go_at_call 90;(with_reducible refine (DN x w1).mono ?_);rintro e w2 ⟨rfl,hx2⟩;have hB2:=hB1.e0 hx2)|(go_at_call 90;(with_reducible refine (DN x w2).mono ?_);rintro e w3 ⟨rfl,hx3⟩;have hB3:=hB2.e0 hx3)|((with_reducible refine isW ?_);refine AZ rfl 23 _ rfl FJ #[.int .i64 x.1.id,.int .i64 x.1.ty,.int .i64 x.1.prio,.int .i64 x.1.par,x.2,.int .i64 x.1.ver,.bool x.1.stopped] rfl rfl ?_)|(go_at_call 115;(refine (IB g c k w3.heap.size l x hv1 cur (w3.alloc (.cells #[.int .i64 x.1.id,.int .i64 x.1.ty,.int .i64 x.1.prio,.int .i64 x.1.par,x.2,.int .i64 x.1.ver,.bool x.1.stopped] 39)) (((hgr.e0 hx1).e0 hx2).e0 (hx3.tr Ext.Ay)) HC.out HT.out hlt (Blk.new _ _ _) hcap (by omega) (by omega)).mono ?_);rintro e w9 ⟨G,hG1,hG2,rfl,hcc,hx9⟩))
   go_ret
   obtain ⟨cs9,hb9,hs9,ht9⟩:=hcc
   have hxA:Ext Nothing w (w3.alloc (.cells #[.int .i64 x.1.id,.int .i64 x.1.ty,.int .i64 x.1.prio,.int .i64 x.1.par,x.2,.int .i64 x.1.ver,.bool x.1.stopped] 39)):=(((hxr.tr hx1).tr hx2).tr hx3).alloc _
   have hz9:(w3.alloc (.cells #[.int .i64 x.1.id,.int .i64 x.1.ty,.int .i64 x.1.prio,.int .i64 x.1.par,x.2,.int .i64 x.1.ver,.bool x.1.stopped] 39)).heap.size=w3.heap.size+1:=by simp
   have hzA:=hxA.size
   rw [hz9] at hb9 hzA
   refine ⟨some ⟨_,0,none⟩,G,by rw [e9.out,E8.out];rfl,?_,fun q hq=>.inr (by simp [Value.ownBlock] at hq;omega),(hxA.tr hx9).any⟩
   rw [e9.out,E8.out]
   refine ⟨?_,.inr ⟨_,G,cs9,rfl,by omega,hb9,hG1,hG2,hs9,ht9⟩⟩
   rw [← ht9,List.length_take,Array.length_toList (xs:=cs9),hs9]
   exact Nat.min_eq_left (Nat.mul_le_mul_right _ hG1)
  have hkl:k=l.length:=by omega
  have e9:=Lib.hid (Fsm.EC (key:=(fun y:JobV=>y.1.id)) (x:=x) (l:=l) (fun z hz=>by obtain ⟨j,hj⟩:=List.mem_iff_getElem?.1 hz;exact hno j (by have:=(List.getElem?_eq_some_iff.1 hj).1;omega) z hj))
  have hnl:¬ ((k:Int) < l.length):=by omega
  have ho:=Am h hxr (fun _ _ e=>e)
  clear hno hkl
  go_wp2_with (first|go_skip|go_guarded|((with_reducible refine isW ?_);refine Ae rfl 39 _ rfl STJob w.heap.size rfl #[.int .i64 x.1.id,.int .i64 x.1.ty,.int .i64 x.1.prio,.int .i64 x.1.par,x.2,.int .i64 x.1.ver,.bool x.1.stopped] (show Blk _ _ _ _ from hB) rfl ?_)|((with_reducible refine Jh ?_);refine Cw rfl rfl 23 _ rfl _ _ rfl FJ #[.int .i64 x.1.id,.int .i64 x.1.ty,.int .i64 x.1.prio,.int .i64 x.1.par,x.2,.int .i64 x.1.ver,.bool x.1.stopped] rfl rfl base (.slice A l.length c) l.length (l.flatMap JobV.cells) rfl rfl ho (by have q9:=hv1 x (List.mem_cons_self ..);simpa [Value.oneCell'] using q9) (by omega) (by have:=hxr.size;omega) ?_;intro A2 c2 w9 o9 hx9 hq9))
  go_ret
  have o8:=CG (x:=x) o9 rfl rfl
  exact ⟨A2,c2,by rw [e9.out,List.length_append];rfl,by rw [e9.out];exact o8,fun q hq=>(hq9 q (by cases A2 <;> exact hq)).imp id (fun h=>by have:=hxr.size;omega),hxr.any.tr hx9⟩
theorem Da (y:JobV) (w:World):Calls Tryz.prog 100 #[.agg #[.int .i64 y.1.id,.int .i64 y.1.ty,.int .i64 y.1.prio,.int .i64 y.1.par,y.2,.int .i64 y.1.ver,.bool y.1.stopped]] w fun e w'=>e=.returned (.int .i64 y.1.id)∧Ext Nothing w w':=by
 have hx:Ext Nothing w (w.alloc (.cells #[.int .i64 y.1.id,.int .i64 y.1.ty,.int .i64 y.1.prio,.int .i64 y.1.par,y.2,.int .i64 y.1.ver,.bool y.1.stopped] 39)):=Ext.Ay
 have hb:Blk (w.alloc (.cells #[.int .i64 y.1.id,.int .i64 y.1.ty,.int .i64 y.1.prio,.int .i64 y.1.par,y.2,.int .i64 y.1.ver,.bool y.1.stopped] 39)) w.heap.size 39 #[.int .i64 y.1.id,.int .i64 y.1.ty,.int .i64 y.1.prio,.int .i64 y.1.par,y.2,.int .i64 y.1.ver,.bool y.1.stopped]:=Blk.new _ _ _
 go_enter Tryz.func100,Tryz.ntmps100
 go_wp2
 go_ret
 exact ⟨rfl,hx⟩
set_option maxRecDepth 20000 in
set_option maxHeartbeats 4000000 in
theorem PK (base:Nat) (A:Option Addr) (c:Nat) (l:List JobV) (x:JobV) (hv1:∀ y∈x :: l,y.2.oneCell' = true) (w:World) (h:w.ownsRow base 39 7 (.slice A l.length c) l.length (l.flatMap JobV.cells)) (hb:base≤w.heap.size) (hl:l.length≤67108862) (hu:Fsm.Up (fun y:JobV=>y.1.id) l) :
  Calls Tryz.prog 89 #[.slice A l.length c,.agg #[.int .i64 x.1.id,.int .i64 x.1.ty,.int .i64 x.1.prio,.int .i64 x.1.par,x.2,.int .i64 x.1.ver,.bool x.1.stopped],.func (.func 100) #[] #[]] w fun e w'=>∃ A' c',e=.returned (.slice A' (Fsm.Ak (fun y:JobV=>y.1.id) x l).length c')∧w'.ownsRow base 39 7 (.slice A' (Fsm.Ak (fun y:JobV=>y.1.id) x l).length c') (Fsm.Ak (fun y:JobV=>y.1.id) x l).length ((Fsm.Ak (fun y:JobV=>y.1.id) x l).flatMap JobV.cells)∧(∀ q,(Value.slice A' (Fsm.Ak (fun y:JobV=>y.1.id) x l).length c').ownBlock=some q→(Value.slice A l.length c).ownBlock=some q ∨ w.heap.size≤q)∧Ext (fun q=>(Value.slice A l.length c).ownBlock=some q) w w':=by
 have hx0:Ext Nothing w (w.alloc (.cells #[.int .i64 x.1.id,.int .i64 x.1.ty,.int .i64 x.1.prio,.int .i64 x.1.par,x.2,.int .i64 x.1.ver,.bool x.1.stopped] 39)):=Ext.Ay
 have hB0:Blk (w.alloc (.cells #[.int .i64 x.1.id,.int .i64 x.1.ty,.int .i64 x.1.prio,.int .i64 x.1.par,x.2,.int .i64 x.1.ver,.bool x.1.stopped] 39)) w.heap.size 39 #[.int .i64 x.1.id,.int .i64 x.1.ty,.int .i64 x.1.prio,.int .i64 x.1.par,x.2,.int .i64 x.1.ver,.bool x.1.stopped]:=Blk.new _ _ _
 go_enter Tryz.func89,Tryz.ntmps89
 go_wp2
 go_loopw [11] (fun i wr=>∃ k:Nat,k≤l.length∧i=.int .i64 k∧(∀ j < k,∀ z,l[j]? = some z→(fun y:JobV=>y.1.id) z < x.1.id)∧Ext Nothing w wr∧Blk wr w.heap.size 39 #[.int .i64 x.1.id,.int .i64 x.1.ty,.int .i64 x.1.prio,.int .i64 x.1.par,x.2,.int .i64 x.1.ver,.bool x.1.stopped]) (fun i _=>l.length - (intOf i).toNat)
 case atStart=>exact ⟨0,Nat.zero_le _,rfl,fun j hj=>absurd hj (by omega),hx0,hB0⟩
 case round =>
  obtain ⟨k,hk,rfl,hno,hxr,hB⟩:=hrel
  clear hB0 hx0
  by_cases hlt:k < l.length
  ·obtain ⟨g,cur,hAe,hbg,hg,hcs,hcap,hmax,htk,hset⟩:=DR (i:=k) (f:=JobV.cells) (fun _=>rfl) h hlt
   obtain ⟨hjn,b,off,hAe2,hce⟩:=(Sl.Bd (f:=JobV.cells) (fun _=>rfl) h rfl).get hxr hlt
   rw [hAe] at hAe2
   injection hAe2 with hAe2
   injection hAe2 with hAe3 hAe4
   subst hAe3 hAe4 hAe
   simp only [Nat.zero_add] at hce
   have hgw:g < w.heap.size:=hg.lt
   have hgr:=hg.e0 hxr
   have hne:w.heap.size ≠ g:=by omega
   have hy:l[k]? = some l[k]:=List.getElem?_eq_getElem hjn
   generalize l[k]=y at hce hy
   have hk0:(0:Int)≤(k:Int):=by omega
   have hk1:(k:Int) < l.length:=by omega
   have HY:=Lib.hid hy
   have HN:=Lib.hid hno
   have HS:=Lib.hid hset
   have HT:=Lib.hid htk
   have HC:=Lib.hid hcs
   have HU:=Lib.hid hu
   have H:=Lib.hid h
   clear hy hno hset htk hcs hu h
   rcases Int.lt_trichotomy y.1.id x.1.id with hc|hc|hc
   ·have q1:(y.1.id == x.1.id)=false:=by simp;omega
    have q2:¬ (y.1.id > x.1.id):=by omega
    have q3:¬ (y.1.id=x.1.id):=by omega
    go_wp2_with (first|go_skip|go_guarded|((with_reducible refine isW ?_);refine Ad rfl 39 _ rfl STJob g (k*7) rfl #[.int .i64 y.1.id,.int .i64 y.1.ty,.int .i64 y.1.prio,.int .i64 y.1.par,y.2,.int .i64 y.1.ver,.bool y.1.stopped] hce rfl ?_)|((with_reducible refine isW ?_);refine Ae rfl 39 _ rfl STJob w.heap.size rfl #[.int .i64 x.1.id,.int .i64 x.1.ty,.int .i64 x.1.prio,.int .i64 x.1.par,x.2,.int .i64 x.1.ver,.bool x.1.stopped] (show Blk _ _ _ _ from by first|exact hB2|exact hB1|exact hB) rfl ?_)|(go_at_call 100;(with_reducible refine (Da y wr).mono ?_);rintro e w1 ⟨rfl,hx1⟩;have hB1:=hB.e0 hx1)|(go_at_call 100;(with_reducible refine (Da x w1).mono ?_);rintro e w2 ⟨rfl,hx2⟩;have hB2:=hB1.e0 hx2)|(go_at_call 100;(with_reducible refine (Da x w2).mono ?_);rintro e w3 ⟨rfl,hx3⟩;have hB3:=hB2.e0 hx3))
    go_roundw
    case rel =>
     refine ⟨k+1,hlt,by go_num,fun j hj z hz=>?_,((hxr.tr hx1).tr hx2).tr hx3,hB3⟩
     rcases Nat.lt_or_ge j k with h1|h1
     ·exact HN.out j h1 z hz
     obtain rfl:j=k:=by omega
     rw [HY.out] at hz;cases hz;exact hc
    case measure=>simp [intOf];omega
   ·have q1:(y.1.id == x.1.id)=true:=by simpa using hc
    have HCC:=Lib.hid hc
    clear hc
    have h0s:k*7+7≤cur.size:=by rw [HC.out];have:=Nat.mul_le_mul_right 7 (show k+1≤c by omega);omega
    go_wp2_with (first|go_skip|go_guarded|((with_reducible refine isW ?_);refine Ad rfl 39 _ rfl STJob g (k*7) rfl #[.int .i64 y.1.id,.int .i64 y.1.ty,.int .i64 y.1.prio,.int .i64 y.1.par,y.2,.int .i64 y.1.ver,.bool y.1.stopped] hce rfl ?_)|((with_reducible refine isW ?_);refine Ae rfl 39 _ rfl STJob w.heap.size rfl #[.int .i64 x.1.id,.int .i64 x.1.ty,.int .i64 x.1.prio,.int .i64 x.1.par,x.2,.int .i64 x.1.ver,.bool x.1.stopped] (show Blk _ _ _ _ from by first|exact hB2|exact hB1|exact hB) rfl ?_)|(go_at_call 100;(with_reducible refine (Da y wr).mono ?_);rintro e w1 ⟨rfl,hx1⟩;have hB1:=hB.e0 hx1)|(go_at_call 100;(with_reducible refine (Da x w1).mono ?_);rintro e w2 ⟨rfl,hx2⟩;have hB2:=hB1.e0 hx2)|((with_reducible refine isW ?_);refine wpList_store_row rfl 39 _ _ rfl STJob g (k*7) rfl #[.int .i64 x.1.id,.int .i64 x.1.ty,.int .i64 x.1.prio,.int .i64 x.1.par,x.2,.int .i64 x.1.ver,.bool x.1.stopped] rfl (show Blk _ _ _ _ from (hgr.e0 hx1).e0 hx2) h0s rfl (by have q9:=hv1 x (List.mem_cons_self ..);simpa [Value.oneCell'] using q9) ?_;intro w9 hB9 hx9))
    go_ret
    have e9:=Fsm.Ez HU.out HY.out HN.out HCC.out
    exact ⟨some ⟨g,0,none⟩,c,by rw [e9,List.length_set];rfl,by rw [e9,List.length_set];exact HS.out x w9 hB9,fun q hq=>.inl hq,((hxr.tr hx1).tr hx2).any.trans hx9 (fun b hb e=>by rw [show b=g from e];rfl)⟩
   have q1:(y.1.id == x.1.id)=false:=by simp;omega
   have q2:y.1.id > x.1.id:=by omega
   have q3:¬ (y.1.id=x.1.id):=by omega
   have e9:=Lib.hid (Fsm.Dk HU.out HY.out HN.out hc)
   have e8:(l.take k ++ x :: l.drop k).length=l.length+1:=by simp;omega
   have E8:=Lib.hid e8
   clear e8
   by_cases hroom:l.length+1≤c
   ·go_wp2_with (first|go_skip|go_guarded|((with_reducible refine isW ?_);refine Ad rfl 39 _ rfl STJob g (k*7) rfl #[.int .i64 y.1.id,.int .i64 y.1.ty,.int .i64 y.1.prio,.int .i64 y.1.par,y.2,.int .i64 y.1.ver,.bool y.1.stopped] hce rfl ?_)|((with_reducible refine isW ?_);refine Ae rfl 39 _ rfl STJob w.heap.size rfl #[.int .i64 x.1.id,.int .i64 x.1.ty,.int .i64 x.1.prio,.int .i64 x.1.par,x.2,.int .i64 x.1.ver,.bool x.1.stopped] (show Blk _ _ _ _ from by first|exact hB3|exact hB2|exact hB1|exact hB) rfl ?_)|(go_at_call 100;(with_reducible refine (Da y wr).mono ?_);rintro e w1 ⟨rfl,hx1⟩;have hB1:=hB.e0 hx1)|(go_at_call 100;(with_reducible refine (Da x w1).mono ?_);rintro e w2 ⟨rfl,hx2⟩;have hB2:=hB1.e0 hx2)|(go_at_call 100;(with_reducible refine (Da x w2).mono ?_);rintro e w3 ⟨rfl,hx3⟩;have hB3:=hB2.e0 hx3)|((with_reducible refine isW ?_);refine AZ rfl 23 _ rfl FJ #[.int .i64 x.1.id,.int .i64 x.1.ty,.int .i64 x.1.prio,.int .i64 x.1.par,x.2,.int .i64 x.1.ver,.bool x.1.stopped] rfl rfl ?_)|(go_at_call 115;(refine (Ig base g c k w3.heap.size l x hv1 cur (w3.alloc (.cells #[.int .i64 x.1.id,.int .i64 x.1.ty,.int .i64 x.1.prio,.int .i64 x.1.par,x.2,.int .i64 x.1.ver,.bool x.1.stopped] 39)) (((hgr.e0 hx1).e0 hx2).e0 (hx3.tr Ext.Ay)) HC.out HT.out hlt (Blk.new _ _ _) (by have:=hx1.size;have:=hx2.size;have:=hx3.size;have:=hxr.size;omega) hroom hmax hl).mono ?_);rintro e w9 ⟨rfl,hcc,hx9⟩))
    go_ret
    obtain ⟨cs9,hb9,hs9,ht9⟩:=hcc
    have hxA:Ext Nothing w (w3.alloc (.cells #[.int .i64 x.1.id,.int .i64 x.1.ty,.int .i64 x.1.prio,.int .i64 x.1.par,x.2,.int .i64 x.1.ver,.bool x.1.stopped] 39)):=(((hxr.tr hx1).tr hx2).tr hx3).alloc _
    refine ⟨some ⟨g,0,none⟩,c,by rw [e9.out,E8.out];rfl,?_,fun q hq=>.inl hq,hxA.any.trans hx9 (fun b hb e=>by rw [show b=g from e];rfl)⟩
    rw [e9.out,E8.out]
    refine ⟨?_,.inr ⟨g,c,cs9,rfl,hbg,hb9,hroom,hmax,hs9,ht9⟩⟩
    rw [← ht9,List.length_take,Array.length_toList (xs:=cs9),hs9]
    exact Nat.min_eq_left (Nat.mul_le_mul_right _ hroom)
   go_wp2_with (first|go_skip|go_guarded|((with_reducible refine isW ?_);refine Ad rfl 39 _ rfl STJob g (k*7) rfl #[.int .i64 y.1.id,.int .i64 y.1.ty,.int .i64 y.1.prio,.int .i64 y.1.par,y.2,.int .i64 y.1.ver,.bool y.1.stopped] hce rfl ?_)|((with_reducible refine isW ?_);refine Ae rfl 39 _ rfl STJob w.heap.size rfl #[.int .i64 x.1.id,.int .i64 x.1.ty,.int .i64 x.1.prio,.int .i64 x.1.par,x.2,.int .i64 x.1.ver,.bool x.1.stopped] (show Blk _ _ _ _ from by first|exact hB3|exact hB2|exact hB1|exact hB) rfl ?_)|(go_at_call 100;(with_reducible refine (Da y wr).mono ?_);rintro e w1 ⟨rfl,hx1⟩;have hB1:=hB.e0 hx1)|(go_at_call 100;(with_reducible refine (Da x w1).mono ?_);rintro e w2 ⟨rfl,hx2⟩;have hB2:=hB1.e0 hx2)|(go_at_call 100;(with_reducible refine (Da x w2).mono ?_);rintro e w3 ⟨rfl,hx3⟩;have hB3:=hB2.e0 hx3)|((with_reducible refine isW ?_);refine AZ rfl 23 _ rfl FJ #[.int .i64 x.1.id,.int .i64 x.1.ty,.int .i64 x.1.prio,.int .i64 x.1.par,x.2,.int .i64 x.1.ver,.bool x.1.stopped] rfl rfl ?_)|(go_at_call 115;(refine (IB g c k w3.heap.size l x hv1 cur (w3.alloc (.cells #[.int .i64 x.1.id,.int .i64 x.1.ty,.int .i64 x.1.prio,.int .i64 x.1.par,x.2,.int .i64 x.1.ver,.bool x.1.stopped] 39)) (((hgr.e0 hx1).e0 hx2).e0 (hx3.tr Ext.Ay)) HC.out HT.out hlt (Blk.new _ _ _) hcap (by omega) (by omega)).mono ?_);rintro e w9 ⟨G,hG1,hG2,rfl,hcc,hx9⟩))
   go_ret
   obtain ⟨cs9,hb9,hs9,ht9⟩:=hcc
   have hxA:Ext Nothing w (w3.alloc (.cells #[.int .i64 x.1.id,.int .i64 x.1.ty,.int .i64 x.1.prio,.int .i64 x.1.par,x.2,.int .i64 x.1.ver,.bool x.1.stopped] 39)):=(((hxr.tr hx1).tr hx2).tr hx3).alloc _
   have hz9:(w3.alloc (.cells #[.int .i64 x.1.id,.int .i64 x.1.ty,.int .i64 x.1.prio,.int .i64 x.1.par,x.2,.int .i64 x.1.ver,.bool x.1.stopped] 39)).heap.size=w3.heap.size+1:=by simp
   have hzA:=hxA.size
   rw [hz9] at hb9 hzA
   refine ⟨some ⟨_,0,none⟩,G,by rw [e9.out,E8.out];rfl,?_,fun q hq=>.inr (by simp [Value.ownBlock] at hq;omega),(hxA.tr hx9).any⟩
   rw [e9.out,E8.out]
   refine ⟨?_,.inr ⟨_,G,cs9,rfl,by omega,hb9,hG1,hG2,hs9,ht9⟩⟩
   rw [← ht9,List.length_take,Array.length_toList (xs:=cs9),hs9]
   exact Nat.min_eq_left (Nat.mul_le_mul_right _ hG1)
  have hkl:k=l.length:=by omega
  have e9:=Lib.hid (Fsm.EC (key:=(fun y:JobV=>y.1.id)) (x:=x) (l:=l) (fun z hz=>by obtain ⟨j,hj⟩:=List.mem_iff_getElem?.1 hz;exact hno j (by have:=(List.getElem?_eq_some_iff.1 hj).1;omega) z hj))
  have hnl:¬ ((k:Int) < l.length):=by omega
  have ho:=Am h hxr (fun _ _ e=>e)
  clear hno hkl
  go_wp2_with (first|go_skip|go_guarded|((with_reducible refine isW ?_);refine Ae rfl 39 _ rfl STJob w.heap.size rfl #[.int .i64 x.1.id,.int .i64 x.1.ty,.int .i64 x.1.prio,.int .i64 x.1.par,x.2,.int .i64 x.1.ver,.bool x.1.stopped] (show Blk _ _ _ _ from hB) rfl ?_)|((with_reducible refine Jh ?_);refine Cw rfl rfl 23 _ rfl _ _ rfl FJ #[.int .i64 x.1.id,.int .i64 x.1.ty,.int .i64 x.1.prio,.int .i64 x.1.par,x.2,.int .i64 x.1.ver,.bool x.1.stopped] rfl rfl base (.slice A l.length c) l.length (l.flatMap JobV.cells) rfl rfl ho (by have q9:=hv1 x (List.mem_cons_self ..);simpa [Value.oneCell'] using q9) (by omega) (by have:=hxr.size;omega) ?_;intro A2 c2 w9 o9 hx9 hq9))
  go_ret
  have o8:=CG (x:=x) o9 rfl rfl
  exact ⟨A2,c2,by rw [e9.out,List.length_append];rfl,by rw [e9.out];exact o8,fun q hq=>(hq9 q (by cases A2 <;> exact hq)).imp id (fun h=>by have:=hxr.size;omega),hxr.any.tr hx9⟩
end Go.Proofs.YtccekmeifanipaaGreat
