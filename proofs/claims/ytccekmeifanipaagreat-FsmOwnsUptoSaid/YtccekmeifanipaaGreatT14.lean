/- Parts of the proof: MPutSeen MSeenF Used NodesF SortR MSort PlanF Idx HoldsF OwnOk ReadCmd Good Fine -/
import Derived.Test.YtccekmeifanipaaGreatT10
import Derived.Test.YtccekmeifanipaaGreatT05
import Derived.Test.YtccekmeifanipaaGreatT07
import Derived.Lib.SlicesCompact
import Derived.Test.YtccekmeifanipaaGreatT13
import Derived.Sort.Grow
import Derived.Test.YtccekmeifanipaaGreatT11
import Derived.Test.YtccekmeifanipaaGreatT00
import Derived.BigQuiet
import Derived.Test.YtccekmeifanipaaGreatT08
import Derived.Test.YtccekmeifanipaaGreatT09
namespace Go.Proofs.YtccekmeifanipaaGreat
set_option linter.unusedVariables false
set_option linter.unusedSimpArgs false
set_option linter.unusedSectionVars false
section
open Go.RowKit
theorem Dg (y:SeenV) (w:World):Calls Tryz.prog 37 #[.agg #[.int .i64 y.1.client,.int .i64 y.1.req,.int .i64 y.1.answer.code,.int .i64 y.1.answer.value,y.2]] w fun e w'=>e=.returned (.int .i64 y.1.client)∧Ext Nothing w w':=by
 have hx:Ext Nothing w (w.alloc (.cells #[.int .i64 y.1.client,.int .i64 y.1.req,.int .i64 y.1.answer.code,.int .i64 y.1.answer.value,y.2] 89)):=Ext.Ay
 have hb:Blk (w.alloc (.cells #[.int .i64 y.1.client,.int .i64 y.1.req,.int .i64 y.1.answer.code,.int .i64 y.1.answer.value,y.2] 89)) w.heap.size 89 #[.int .i64 y.1.client,.int .i64 y.1.req,.int .i64 y.1.answer.code,.int .i64 y.1.answer.value,y.2]:=Blk.new _ _ _
 go_enter Tryz.func37,Tryz.ntmps37
 go_wp2
 go_ret
 exact ⟨rfl,hx⟩
set_option maxRecDepth 20000 in
set_option maxHeartbeats 4000000 in
theorem PI (base:Nat) (A:Option Addr) (c:Nat) (l:List SeenV) (x:SeenV) (hv1:∀ y∈x :: l,y.2.oneCell' = true) (w:World) (h:w.ownsRow base 89 5 (.slice A l.length c) l.length (l.flatMap SeenV.cells)) (hb:base≤w.heap.size) (hl:l.length≤67108862) (hu:Fsm.Up (fun y:SeenV=>y.1.client) l) :
  Calls Tryz.prog 36 #[.slice A l.length c,.agg #[.int .i64 x.1.client,.int .i64 x.1.req,.int .i64 x.1.answer.code,.int .i64 x.1.answer.value,x.2],.func (.func 37) #[] #[]] w fun e w'=>∃ A' c',e=.returned (.slice A' (Fsm.Ak (fun y:SeenV=>y.1.client) x l).length c')∧w'.ownsRow base 89 5 (.slice A' (Fsm.Ak (fun y:SeenV=>y.1.client) x l).length c') (Fsm.Ak (fun y:SeenV=>y.1.client) x l).length ((Fsm.Ak (fun y:SeenV=>y.1.client) x l).flatMap SeenV.cells)∧(∀ q,(Value.slice A' (Fsm.Ak (fun y:SeenV=>y.1.client) x l).length c').ownBlock=some q→(Value.slice A l.length c).ownBlock=some q ∨ w.heap.size≤q)∧Ext (fun q=>(Value.slice A l.length c).ownBlock=some q) w w':=by
 have hx0:Ext Nothing w (w.alloc (.cells #[.int .i64 x.1.client,.int .i64 x.1.req,.int .i64 x.1.answer.code,.int .i64 x.1.answer.value,x.2] 89)):=Ext.Ay
 have hB0:Blk (w.alloc (.cells #[.int .i64 x.1.client,.int .i64 x.1.req,.int .i64 x.1.answer.code,.int .i64 x.1.answer.value,x.2] 89)) w.heap.size 89 #[.int .i64 x.1.client,.int .i64 x.1.req,.int .i64 x.1.answer.code,.int .i64 x.1.answer.value,x.2]:=Blk.new _ _ _
 go_enter Tryz.func36,Tryz.ntmps36
 go_wp2
 go_loopw [11] (fun i wr=>∃ k:Nat,k≤l.length∧i=.int .i64 k∧(∀ j < k,∀ z,l[j]? = some z→(fun y:SeenV=>y.1.client) z < x.1.client)∧Ext Nothing w wr∧Blk wr w.heap.size 89 #[.int .i64 x.1.client,.int .i64 x.1.req,.int .i64 x.1.answer.code,.int .i64 x.1.answer.value,x.2]) (fun i _=>l.length - (intOf i).toNat)
 case atStart=>exact ⟨0,Nat.zero_le _,rfl,fun j hj=>absurd hj (by omega),hx0,hB0⟩
 case round =>
  obtain ⟨k,hk,rfl,hno,hxr,hB⟩:=hrel
  clear hB0 hx0
  by_cases hlt:k < l.length
  ·obtain ⟨g,cur,hAe,hbg,hg,hcs,hcap,hmax,htk,hset⟩:=DR (i:=k) (f:=SeenV.cells) (fun _=>rfl) h hlt
   obtain ⟨hjn,b,off,hAe2,hce⟩:=(Sl.Bd (f:=SeenV.cells) (fun _=>rfl) h rfl).get hxr hlt
   rw [hAe] at hAe2
   injection hAe2 with hAe2
   injection hAe2 with hAe3 hAe4
   subst hAe3 hAe4 hAe
   simp only [Nat.zero_add] at hce
   have hgw:g < w.heap.size:=hg.lt
   have hgr:=hg.e0 hxr
   have hne:w.heap.size ≠ g:=by omega
   have hy:l[k]? = some l[k]:=List.getElem?_eq_getElem hjn
   generalize l[k]=y at hce hy
   have hk0:(0:Int)≤(k:Int):=by omega
   have hk1:(k:Int) < l.length:=by omega
   have HY:=Lib.hid hy
   have HN:=Lib.hid hno
   have HS:=Lib.hid hset
   have HT:=Lib.hid htk
   have HC:=Lib.hid hcs
   have HU:=Lib.hid hu
   have H:=Lib.hid h
   clear hy hno hset htk hcs hu h
   rcases Int.lt_trichotomy y.1.client x.1.client with hc|hc|hc
   ·have q1:(y.1.client == x.1.client)=false:=by simp;omega
    have q2:¬ (y.1.client > x.1.client):=by omega
    have q3:¬ (y.1.client=x.1.client):=by omega
    go_wp2_with (first|go_skip|go_guarded|((with_reducible refine isW ?_);refine Ad rfl 89 _ rfl Df g (k*5) rfl #[.int .i64 y.1.client,.int .i64 y.1.req,.int .i64 y.1.answer.code,.int .i64 y.1.answer.value,y.2] hce rfl ?_)|((with_reducible refine isW ?_);refine Ae rfl 89 _ rfl Df w.heap.size rfl #[.int .i64 x.1.client,.int .i64 x.1.req,.int .i64 x.1.answer.code,.int .i64 x.1.answer.value,x.2] (show Blk _ _ _ _ from by first|exact hB2|exact hB1|exact hB) rfl ?_)|(go_at_call 37;(with_reducible refine (Dg y wr).mono ?_);rintro e w1 ⟨rfl,hx1⟩;have hB1:=hB.e0 hx1)|(go_at_call 37;(with_reducible refine (Dg x w1).mono ?_);rintro e w2 ⟨rfl,hx2⟩;have hB2:=hB1.e0 hx2)|(go_at_call 37;(with_reducible refine (Dg x w2).mono ?_);rintro e w3 ⟨rfl,hx3⟩;have hB3:=hB2.e0 hx3))
    go_roundw
    case rel =>
     refine ⟨k+1,hlt,by go_num,fun j hj z hz=>?_,((hxr.tr hx1).tr hx2).tr hx3,hB3⟩
     rcases Nat.lt_or_ge j k with h1|h1
     ·exact HN.out j h1 z hz
     obtain rfl:j=k:=by omega
     rw [HY.out] at hz;cases hz;exact hc
    case measure=>simp [intOf];omega
   ·have q1:(y.1.client == x.1.client)=true:=by simpa using hc
    have HCC:=Lib.hid hc
    clear hc
    have h0s:k*5+5≤cur.size:=by rw [HC.out];have:=Nat.mul_le_mul_right 5 (show k+1≤c by omega);omega
    go_wp2_with (first|go_skip|go_guarded|((with_reducible refine isW ?_);refine Ad rfl 89 _ rfl Df g (k*5) rfl #[.int .i64 y.1.client,.int .i64 y.1.req,.int .i64 y.1.answer.code,.int .i64 y.1.answer.value,y.2] hce rfl ?_)|((with_reducible refine isW ?_);refine Ae rfl 89 _ rfl Df w.heap.size rfl #[.int .i64 x.1.client,.int .i64 x.1.req,.int .i64 x.1.answer.code,.int .i64 x.1.answer.value,x.2] (show Blk _ _ _ _ from by first|exact hB2|exact hB1|exact hB) rfl ?_)|(go_at_call 37;(with_reducible refine (Dg y wr).mono ?_);rintro e w1 ⟨rfl,hx1⟩;have hB1:=hB.e0 hx1)|(go_at_call 37;(with_reducible refine (Dg x w1).mono ?_);rintro e w2 ⟨rfl,hx2⟩;have hB2:=hB1.e0 hx2)|((with_reducible refine isW ?_);refine wpList_store_row rfl 89 _ _ rfl Df g (k*5) rfl #[.int .i64 x.1.client,.int .i64 x.1.req,.int .i64 x.1.answer.code,.int .i64 x.1.answer.value,x.2] rfl (show Blk _ _ _ _ from (hgr.e0 hx1).e0 hx2) h0s rfl (by have q9:=hv1 x (List.mem_cons_self ..);simpa [Value.oneCell'] using q9) ?_;intro w9 hB9 hx9))
    go_ret
    have e9:=Fsm.Ez HU.out HY.out HN.out HCC.out
    exact ⟨some ⟨g,0,none⟩,c,by rw [e9,List.length_set];rfl,by rw [e9,List.length_set];exact HS.out x w9 hB9,fun q hq=>.inl hq,((hxr.tr hx1).tr hx2).any.trans hx9 (fun b hb e=>by rw [show b=g from e];rfl)⟩
   have q1:(y.1.client == x.1.client)=false:=by simp;omega
   have q2:y.1.client > x.1.client:=by omega
   have q3:¬ (y.1.client=x.1.client):=by omega
   have e9:=Lib.hid (Fsm.Dk HU.out HY.out HN.out hc)
   have e8:(l.take k ++ x :: l.drop k).length=l.length+1:=by simp;omega
   have E8:=Lib.hid e8
   clear e8
   by_cases hroom:l.length+1≤c
   ·go_wp2_with (first|go_skip|go_guarded|((with_reducible refine isW ?_);refine Ad rfl 89 _ rfl Df g (k*5) rfl #[.int .i64 y.1.client,.int .i64 y.1.req,.int .i64 y.1.answer.code,.int .i64 y.1.answer.value,y.2] hce rfl ?_)|((with_reducible refine isW ?_);refine Ae rfl 89 _ rfl Df w.heap.size rfl #[.int .i64 x.1.client,.int .i64 x.1.req,.int .i64 x.1.answer.code,.int .i64 x.1.answer.value,x.2] (show Blk _ _ _ _ from by first|exact hB3|exact hB2|exact hB1|exact hB) rfl ?_)|(go_at_call 37;(with_reducible refine (Dg y wr).mono ?_);rintro e w1 ⟨rfl,hx1⟩;have hB1:=hB.e0 hx1)|(go_at_call 37;(with_reducible refine (Dg x w1).mono ?_);rintro e w2 ⟨rfl,hx2⟩;have hB2:=hB1.e0 hx2)|(go_at_call 37;(with_reducible refine (Dg x w2).mono ?_);rintro e w3 ⟨rfl,hx3⟩;have hB3:=hB2.e0 hx3)|((with_reducible refine isW ?_);refine AZ rfl 28 _ rfl Es #[.int .i64 x.1.client,.int .i64 x.1.req,.int .i64 x.1.answer.code,.int .i64 x.1.answer.value,x.2] rfl rfl ?_)|(go_at_call 58;(refine (Lp base g c k w3.heap.size l x hv1 cur (w3.alloc (.cells #[.int .i64 x.1.client,.int .i64 x.1.req,.int .i64 x.1.answer.code,.int .i64 x.1.answer.value,x.2] 89)) (((hgr.e0 hx1).e0 hx2).e0 (hx3.tr Ext.Ay)) HC.out HT.out hlt (Blk.new _ _ _) (by have:=hx1.size;have:=hx2.size;have:=hx3.size;have:=hxr.size;omega) hroom hmax hl).mono ?_);rintro e w9 ⟨rfl,hcc,hx9⟩))
    go_ret
    obtain ⟨cs9,hb9,hs9,ht9⟩:=hcc
    have hxA:Ext Nothing w (w3.alloc (.cells #[.int .i64 x.1.client,.int .i64 x.1.req,.int .i64 x.1.answer.code,.int .i64 x.1.answer.value,x.2] 89)):=(((hxr.tr hx1).tr hx2).tr hx3).alloc _
    refine ⟨some ⟨g,0,none⟩,c,by rw [e9.out,E8.out];rfl,?_,fun q hq=>.inl hq,hxA.any.trans hx9 (fun b hb e=>by rw [show b=g from e];rfl)⟩
    rw [e9.out,E8.out]
    refine ⟨?_,.inr ⟨g,c,cs9,rfl,hbg,hb9,hroom,hmax,hs9,ht9⟩⟩
    rw [← ht9,List.length_take,Array.length_toList (xs:=cs9),hs9]
    exact Nat.min_eq_left (Nat.mul_le_mul_right _ hroom)
   go_wp2_with (first|go_skip|go_guarded|((with_reducible refine isW ?_);refine Ad rfl 89 _ rfl Df g (k*5) rfl #[.int .i64 y.1.client,.int .i64 y.1.req,.int .i64 y.1.answer.code,.int .i64 y.1.answer.value,y.2] hce rfl ?_)|((with_reducible refine isW ?_);refine Ae rfl 89 _ rfl Df w.heap.size rfl #[.int .i64 x.1.client,.int .i64 x.1.req,.int .i64 x.1.answer.code,.int .i64 x.1.answer.value,x.2] (show Blk _ _ _ _ from by first|exact hB3|exact hB2|exact hB1|exact hB) rfl ?_)|(go_at_call 37;(with_reducible refine (Dg y wr).mono ?_);rintro e w1 ⟨rfl,hx1⟩;have hB1:=hB.e0 hx1)|(go_at_call 37;(with_reducible refine (Dg x w1).mono ?_);rintro e w2 ⟨rfl,hx2⟩;have hB2:=hB1.e0 hx2)|(go_at_call 37;(with_reducible refine (Dg x w2).mono ?_);rintro e w3 ⟨rfl,hx3⟩;have hB3:=hB2.e0 hx3)|((with_reducible refine isW ?_);refine AZ rfl 28 _ rfl Es #[.int .i64 x.1.client,.int .i64 x.1.req,.int .i64 x.1.answer.code,.int .i64 x.1.answer.value,x.2] rfl rfl ?_)|(go_at_call 58;(refine (LH g c k w3.heap.size l x hv1 cur (w3.alloc (.cells #[.int .i64 x.1.client,.int .i64 x.1.req,.int .i64 x.1.answer.code,.int .i64 x.1.answer.value,x.2] 89)) (((hgr.e0 hx1).e0 hx2).e0 (hx3.tr Ext.Ay)) HC.out HT.out hlt (Blk.new _ _ _) hcap (by omega) (by omega)).mono ?_);rintro e w9 ⟨G,hG1,hG2,rfl,hcc,hx9⟩))
   go_ret
   obtain ⟨cs9,hb9,hs9,ht9⟩:=hcc
   have hxA:Ext Nothing w (w3.alloc (.cells #[.int .i64 x.1.client,.int .i64 x.1.req,.int .i64 x.1.answer.code,.int .i64 x.1.answer.value,x.2] 89)):=(((hxr.tr hx1).tr hx2).tr hx3).alloc _
   have hz9:(w3.alloc (.cells #[.int .i64 x.1.client,.int .i64 x.1.req,.int .i64 x.1.answer.code,.int .i64 x.1.answer.value,x.2] 89)).heap.size=w3.heap.size+1:=by simp
   have hzA:=hxA.size
   rw [hz9] at hb9 hzA
   refine ⟨some ⟨_,0,none⟩,G,by rw [e9.out,E8.out];rfl,?_,fun q hq=>.inr (by simp [Value.ownBlock] at hq;omega),(hxA.tr hx9).any⟩
   rw [e9.out,E8.out]
   refine ⟨?_,.inr ⟨_,G,cs9,rfl,by omega,hb9,hG1,hG2,hs9,ht9⟩⟩
   rw [← ht9,List.length_take,Array.length_toList (xs:=cs9),hs9]
   exact Nat.min_eq_left (Nat.mul_le_mul_right _ hG1)
  have hkl:k=l.length:=by omega
  have e9:=Lib.hid (Fsm.EC (key:=(fun y:SeenV=>y.1.client)) (x:=x) (l:=l) (fun z hz=>by obtain ⟨j,hj⟩:=List.mem_iff_getElem?.1 hz;exact hno j (by have:=(List.getElem?_eq_some_iff.1 hj).1;omega) z hj))
  have hnl:¬ ((k:Int) < l.length):=by omega
  have ho:=Am h hxr (fun _ _ e=>e)
  clear hno hkl
  go_wp2_with (first|go_skip|go_guarded|((with_reducible refine isW ?_);refine Ae rfl 89 _ rfl Df w.heap.size rfl #[.int .i64 x.1.client,.int .i64 x.1.req,.int .i64 x.1.answer.code,.int .i64 x.1.answer.value,x.2] (show Blk _ _ _ _ from hB) rfl ?_)|((with_reducible refine Jh ?_);refine Cw rfl rfl 28 _ rfl _ _ rfl Es #[.int .i64 x.1.client,.int .i64 x.1.req,.int .i64 x.1.answer.code,.int .i64 x.1.answer.value,x.2] rfl rfl base (.slice A l.length c) l.length (l.flatMap SeenV.cells) rfl rfl ho (by have q9:=hv1 x (List.mem_cons_self ..);simpa [Value.oneCell'] using q9) (by omega) (by have:=hxr.size;omega) ?_;intro A2 c2 w9 o9 hx9 hq9))
  go_ret
  have o8:=CG (x:=x) o9 rfl rfl
  exact ⟨A2,c2,by rw [e9.out,List.length_append];rfl,by rw [e9.out];exact o8,fun q hq=>(hq9 q (by cases A2 <;> exact hq)).imp id (fun h=>by have:=hxr.size;omega),hxr.any.tr hx9⟩
end
section
namespace Fsm
theorem M5 {l:List Co} {k:Int} (r:Int) (hf:l.find? (fun x=>x.client == k)=none):l.find? (fun x=>x.client == k && decide (r≤x.req))=none:=by
 rw [List.find?_eq_none] at hf ⊢
 intro x hx h
 exact hf x hx (by simp at h ⊢;exact h.1)
theorem KJ {k:Int} (r:Int) {x:Co}:∀ {l:List Co},Up Co.client l→l.find? (fun x=>x.client == k)=some x→l.find? (fun x=>x.client == k && decide (r≤x.req))=if r≤x.req then some x else none
 | [],_,h=>by simp at h
 | y :: l,hu,h=>by
  have hu' : Up Co.client l:=(List.pairwise_cons.1 (show (y.client :: l.map Co.client).Pairwise (· < ·) from hu)).2
  have hlt:=(List.pairwise_cons.1 (show (y.client :: l.map Co.client).Pairwise (· < ·) from hu)).1
  cases e:(y.client == k) with
  | true =>
   rw [List.find?_cons_of_pos (by exact e)] at h
   cases h
   by_cases hr:r≤x.req
   ·rw [if_pos hr,List.find?_cons_of_pos (by simp [e,hr])]
   rw [if_neg hr,List.find?_cons_of_neg (by simp [hr])]
   refine M5 r (List.find?_eq_none.2 fun z hz hzk=>?_)
   have h1:=hlt z.client (List.mem_map_of_mem hz)
   simp at e hzk
   omega
  | false =>
   rw [List.find?_cons_of_neg (by simp [e])] at h
   rw [List.find?_cons_of_neg (by simp [e])]
   exact KJ r hu' h
end Fsm
end
section
open Go.RowKit
theorem En (node:Int):∀ l:List Ac,l.foldl (CK node) none=none
 | []=>rfl
 | x :: r=>by rw [List.foldl_cons];exact En node r
set_option maxHeartbeats 2000000 in
theorem O8 (AA:Option Addr) (nA cA:Nat) (l:List Ac) (node:Int) (w:World) (s0 s1 s2 s3 s4 s6 s7 s8:Value) (hl:Sl w 11 AA nA (l.map Ac.cells)) (hn:nA≤67108864) :
  Calls Tryz.prog 134 #[.agg #[s0,s1,s2,s3,s4,.slice AA nA cA,s6,s7,s8],.int .i64 node] w fun e w'=>e=.returned (.agg #[.int .i64 (Dv l node).cpu,.int .i64 (Dv l node).mem])∧Ext Nothing w w':=by
 have hlen:=Lib.hid hl.len
 have hx0:Ext Nothing w (((w.alloc (.cells #[s0,s1,s2,s3,s4,.slice AA nA cA,s6,s7,s8] 30)).alloc (.cells #[.int .i64 0,.int .i64 0] 41)).alloc (.cells #[.int .i64 0,.int .i64 0] 41)):=Ext.Ay
 have hR0:Blk (((w.alloc (.cells #[s0,s1,s2,s3,s4,.slice AA nA cA,s6,s7,s8] 30)).alloc (.cells #[.int .i64 0,.int .i64 0] 41)).alloc (.cells #[.int .i64 0,.int .i64 0] 41)) (w.heap.size+1) 41 #[.int .i64 0,.int .i64 0]:=(Blk.new' (w.alloc (.cells #[s0,s1,s2,s3,s4,.slice AA nA cA,s6,s7,s8] 30)) _ _ (by simp)).e0 Ext.Ay
 have hS0:Blk (((w.alloc (.cells #[s0,s1,s2,s3,s4,.slice AA nA cA,s6,s7,s8] 30)).alloc (.cells #[.int .i64 0,.int .i64 0] 41)).alloc (.cells #[.int .i64 0,.int .i64 0] 41)) (w.heap.size+1+1) 41 #[.int .i64 0,.int .i64 0]:=Blk.new' _ _ _ (by simp)
 go_enter Tryz.func134,Tryz.ntmps134
 go_wp2
 go_loopw [12] (fun i wr=>∃ k:Nat,k≤nA∧i=.int .i64 k∧∃ r1 r2:Int,(l.take k).foldl (CK node) (some ⟨0,0⟩)=some ⟨r1,r2⟩∧Blk wr (w.heap.size+1) 41 #[.int .i64 0,.int .i64 0]∧Blk wr (w.heap.size+1+1) 41 #[.int .i64 r1,.int .i64 r2]∧Ext Nothing w wr) (fun i _=>nA - (intOf i).toNat)
 case atStart=>exact ⟨0,Nat.zero_le _,rfl,0,0,rfl,hR0,hS0,hx0⟩
 case round =>
  obtain ⟨k,hk,rfl,r1,r2,hf,hR,hS,hx⟩:=hrel
  have hwz:=hx.size
  have hltS:=hS.lt
  by_cases hlt:k < nA
  ·obtain ⟨hjn,b,off,rfl,hce⟩:=hl.get hx hlt
   have hst:=Ex (CK node) (some ⟨0,0⟩) l k hjn
   have htd:l=l.take (k+1) ++ l.drop (k+1):=(List.take_append_drop _ _).symm
   rw [hf] at hst
   generalize l[k]=a at hce hst
   obtain ⟨x0,x1,x2,x3,x4,x5,x6,⟨x7,x8⟩,x9,x10⟩:=a
   simp only [Ac.cells] at hce
   have hxB:Ext Nothing wr (wr.alloc (.cells #[.int .i64 x0,.int .i64 x1,.int .i64 x2,.int .i64 x3,.int .i64 x4,.int .i64 x5,.int .i64 x6,.int .i64 x7,.int .i64 x8,.bool x9,.int .i64 x10] 55)):=Ext.Ay
   have hSB:=Blk.ext (S:=Nothing) hS hxB (fun e=>e)
   have hRB:=Blk.ext (S:=Nothing) hR hxB (fun e=>e)
   by_cases e1:x5=node
   ·subst e1
    cases e2:decide (3≤x10) with
    | true =>
     have H:=Lib.hid (show (l.take (k+1)).foldl (CK x5) (some ⟨0,0⟩)=some ⟨r1,r2⟩ by rw [hst];simp [CK,Bv,of_decide_eq_true e2])
     have HO:=Lib.hid e2
     clear hst hf htd e2
     go_wp2_with (first|(refine Ad rfl 55 _ rfl Ba b (off+k*11) rfl #[.int .i64 x0,.int .i64 x1,.int .i64 x2,.int .i64 x3,.int .i64 x4,.int .i64 x5,.int .i64 x6,.int .i64 x7,.int .i64 x8,.bool x9,.int .i64 x10] (by exact hce) rfl ?_)|(go_at_call 74;refine (Bt _ x10 _ rfl rfl).mono ?_;rintro e w2 ⟨rfl,hx2⟩;rw [HO.out]))
     go_roundw
     case rel=>exact ⟨k+1,by omega,by go_num,r1,r2,H.out,hRB.e0 hx2,hSB.e0 hx2,(hx.tr hxB).tr hx2⟩
     case measure=>simp [intOf];omega
    | false =>
     have HO:=Lib.hid e2
     have e3:=of_decide_eq_false e2
     have hst' : (l.take (k+1)).foldl (CK x5) (some ⟨0,0⟩)=Dc ⟨r1,r2⟩ ⟨x7,x8⟩:=by rw [hst];simp [CK,Bv,e3]
     clear e2 e3 hst hf
     cases ha:Dc ⟨r1,r2⟩ ⟨x7,x8⟩ with
     | none =>
      have H:=Lib.hid (show Dv l x5=big by unfold Dv;rw [htd,List.foldl_append,hst',ha,En];rfl)
      have HA:=Lib.hid ha
      clear hst' htd ha
      go_wp2_with (first|(refine Ad rfl 55 _ rfl Ba b (off+k*11) rfl #[.int .i64 x0,.int .i64 x1,.int .i64 x2,.int .i64 x3,.int .i64 x4,.int .i64 x5,.int .i64 x6,.int .i64 x7,.int .i64 x8,.bool x9,.int .i64 x10] (by exact hce) rfl ?_)|(go_at_call 74;refine (Bt _ x10 _ rfl rfl).mono ?_;rintro e w2 ⟨rfl,hx2⟩;rw [HO.out];have hx02:Ext Nothing wr w2:=hxB.tr hx2;have bA2:=(Blk.new wr 55 #[.int .i64 x0,.int .i64 x1,.int .i64 x2,.int .i64 x3,.int .i64 x4,.int .i64 x5,.int .i64 x6,.int .i64 x7,.int .i64 x8,.bool x9,.int .i64 x10]).e0 hx2;have a7:w2.cell? ⟨wr.heap.size,7,none⟩=some (.int .i64 x7):=bA2.cell 7;have a8:w2.cell? ⟨wr.heap.size,8,none⟩=some (.int .i64 x8):=bA2.cell 8;have hS2:=hS.e0 hx02;have c0:w2.cell? ⟨w.heap.size+1+1,0,none⟩=some (.int .i64 r1):=hS2.cell 0;have c1:w2.cell? ⟨w.heap.size+1+1,1,none⟩=some (.int .i64 r2):=hS2.cell 1)|(go_at_call 149;refine (add_lit _ _ _ _ _).mono ?_;rintro e w3 ⟨rfl,hx3⟩;rw [HA.out];simp only [Jd,Option.getD_none,Option.isSome_none];have hS3:=hS2.e0 hx3;have hR3:=(hR.e0 hx02).e0 hx3;have d0:w3.cell? ⟨w.heap.size+1+1,0,none⟩=some (.int .i64 r1):=hS3.cell 0;have d1:w3.cell? ⟨w.heap.size+1+1,1,none⟩=some (.int .i64 r2):=hS3.cell 1;have f0:w3.frozen? ⟨w.heap.size+1+1,0,none⟩=false:=hS3.frozen 0;have f1:w3.frozen? ⟨w.heap.size+1+1,1,none⟩=false:=hS3.frozen 1;have g0:w3.cell? ⟨w.heap.size+1,0,none⟩=some (.int .i64 0):=hR3.cell 0;have g1:w3.cell? ⟨w.heap.size+1,1,none⟩=some (.int .i64 0):=hR3.cell 1;have h0:w3.frozen? ⟨w.heap.size+1,0,none⟩=false:=hR3.frozen 0;have h1:w3.frozen? ⟨w.heap.size+1,1,none⟩=false:=hR3.frozen 1))
      refine bodyPost_ret (results_cell rfl J3 (g:=w.heap.size+1) rfl (((hR3.ext (Ext.set1 _ _ _ _) (by omega)).ext (Ext.set1 _ _ _ _) (by omega)) |>.Bi 0 _ |>.Bi 1 _) rfl) rfl ?_
      rw [H.out]
      refine ⟨rfl,?_⟩
      have h3:=((hx.tr hxB).tr hx2).tr hx3
      (with_reducible repeat' first|assumption|exact Ext.refl _ _|refine Ext.alloc ?_ _|refine Ext.drew ?_|refine Ext.drewN ?_ _|refine xS ?_ (by simp only [World.size_alloc,World.size_setCell,World.size_drew] <;> omega) _|refine Ext.tr ?_ (by assumption))
     | some r =>
      obtain ⟨r3,r4⟩:=r
      have H:=Lib.hid (show (l.take (k+1)).foldl (CK x5) (some ⟨0,0⟩)=some ⟨r3,r4⟩ by rw [hst',ha])
      have HA:=Lib.hid ha
      clear hst' htd ha
      go_wp2_with (first|(refine Ad rfl 55 _ rfl Ba b (off+k*11) rfl #[.int .i64 x0,.int .i64 x1,.int .i64 x2,.int .i64 x3,.int .i64 x4,.int .i64 x5,.int .i64 x6,.int .i64 x7,.int .i64 x8,.bool x9,.int .i64 x10] (by exact hce) rfl ?_)|(go_at_call 74;refine (Bt _ x10 _ rfl rfl).mono ?_;rintro e w2 ⟨rfl,hx2⟩;rw [HO.out];have hx02:Ext Nothing wr w2:=hxB.tr hx2;have bA2:=(Blk.new wr 55 #[.int .i64 x0,.int .i64 x1,.int .i64 x2,.int .i64 x3,.int .i64 x4,.int .i64 x5,.int .i64 x6,.int .i64 x7,.int .i64 x8,.bool x9,.int .i64 x10]).e0 hx2;have a7:w2.cell? ⟨wr.heap.size,7,none⟩=some (.int .i64 x7):=bA2.cell 7;have a8:w2.cell? ⟨wr.heap.size,8,none⟩=some (.int .i64 x8):=bA2.cell 8;have hS2:=hS.e0 hx02;have c0:w2.cell? ⟨w.heap.size+1+1,0,none⟩=some (.int .i64 r1):=hS2.cell 0;have c1:w2.cell? ⟨w.heap.size+1+1,1,none⟩=some (.int .i64 r2):=hS2.cell 1)|(go_at_call 149;refine (add_lit _ _ _ _ _).mono ?_;rintro e w3 ⟨rfl,hx3⟩;rw [HA.out];simp only [Jd,Option.getD_some,Option.isSome_some];have hS3:=hS2.e0 hx3;have hR3:=(hR.e0 hx02).e0 hx3;have d0:w3.cell? ⟨w.heap.size+1+1,0,none⟩=some (.int .i64 r1):=hS3.cell 0;have d1:w3.cell? ⟨w.heap.size+1+1,1,none⟩=some (.int .i64 r2):=hS3.cell 1;have f0:w3.frozen? ⟨w.heap.size+1+1,0,none⟩=false:=hS3.frozen 0;have f1:w3.frozen? ⟨w.heap.size+1+1,1,none⟩=false:=hS3.frozen 1;have g0:w3.cell? ⟨w.heap.size+1,0,none⟩=some (.int .i64 0):=hR3.cell 0;have g1:w3.cell? ⟨w.heap.size+1,1,none⟩=some (.int .i64 0):=hR3.cell 1;have h0:w3.frozen? ⟨w.heap.size+1,0,none⟩=false:=hR3.frozen 0;have h1:w3.frozen? ⟨w.heap.size+1,1,none⟩=false:=hR3.frozen 1))
      go_roundw
      case rel =>
       have h3:=((hx.tr hxB).tr hx2).tr hx3
       exact ⟨k+1,by omega,by go_num,r3,r4,H.out,(hR3.ext (Ext.set1 _ _ _ _) (by omega)).ext (Ext.set1 _ _ _ _) (by omega),(hS3.Bi 0 _).Bi 1 _,by (with_reducible repeat' first|assumption|exact Ext.refl _ _|refine Ext.alloc ?_ _|refine Ext.drew ?_|refine Ext.drewN ?_ _|refine xS ?_ (by simp only [World.size_alloc,World.size_setCell,World.size_drew] <;> omega) _|refine Ext.tr ?_ (by assumption))⟩
      case measure=>simp [intOf];omega
   have H:=Lib.hid (show (l.take (k+1)).foldl (CK node) (some ⟨0,0⟩)=some ⟨r1,r2⟩ by rw [hst];simp [CK,e1])
   have e1a:(x5 == node)=false:=by simpa using e1
   clear hst hf htd
   go_wp2_with (refine Ad rfl 55 _ rfl Ba b (off+k*11) rfl #[.int .i64 x0,.int .i64 x1,.int .i64 x2,.int .i64 x3,.int .i64 x4,.int .i64 x5,.int .i64 x6,.int .i64 x7,.int .i64 x8,.bool x9,.int .i64 x10] (by exact hce) rfl ?_)
   go_roundw
   case rel=>exact ⟨k+1,by omega,by go_num,r1,r2,H.out,hRB,hSB,hx.tr hxB⟩
   case measure=>simp [intOf];omega
  have hall:=Ns (CK node) (some ⟨0,0⟩) l k (by have:=hlen.out;omega)
  rw [hall] at hf
  have H:=Lib.hid (show Dv l node=⟨r1,r2⟩ by unfold Dv;rw [hf];rfl)
  clear hf hall
  have c0:wr.cell? ⟨w.heap.size+1+1,0,none⟩=some (.int .i64 r1):=hS.cell 0
  have c1:wr.cell? ⟨w.heap.size+1+1,1,none⟩=some (.int .i64 r2):=hS.cell 1
  have d0:wr.cell? ⟨w.heap.size+1,0,none⟩=some (.int .i64 0):=hR.cell 0
  have d1:wr.cell? ⟨w.heap.size+1,1,none⟩=some (.int .i64 0):=hR.cell 1
  have f0:wr.frozen? ⟨w.heap.size+1,0,none⟩=false:=hR.frozen 0
  have f1:wr.frozen? ⟨w.heap.size+1,1,none⟩=false:=hR.frozen 1
  go_wp2
  refine bodyPost_ret (results_cell rfl J3 (g:=w.heap.size+1) rfl ((hR.Bi 0 _).Bi 1 _) rfl) rfl ?_
  rw [H.out]
  exact ⟨rfl,by (with_reducible repeat' first|assumption|exact Ext.refl _ _|refine Ext.alloc ?_ _|refine Ext.drew ?_|refine Ext.drewN ?_ _|refine xS ?_ (by simp only [World.size_alloc,World.size_setCell,World.size_drew] <;> omega) _|refine Ext.tr ?_ (by assumption))⟩
end
section
namespace Fsm
theorem MF:∀ {a b:List Int},UpI a→UpI b→(∀ y,y∈a ↔ y∈b)→a=b
 | [],[],_,_,_=>rfl
 | [],y :: r,_,_,h=>absurd ((h y).2 List.mem_cons_self) (by simp)
 | x :: l,[],_,_,h=>absurd ((h x).1 List.mem_cons_self) (by simp)
 | x :: l,y :: r,ha,hb,h=>by
  have e:x=y:=by
   rcases List.mem_cons.1 ((h x).1 List.mem_cons_self) with e|e
   ·exact e
   rcases List.mem_cons.1 ((h y).2 List.mem_cons_self) with e'|e'
   ·exact e'.symm
   have h1:=ha.1 y e'
   have h2:=hb.1 x e
   omega
  subst e
  have hx:∀ z∈l,z ≠ x:=fun z hz e=>by have:=ha.1 z hz;omega
  have hy:∀ z∈r,z ≠ x:=fun z hz e=>by have:=hb.1 z hz;omega
  rw [MF ha.2 hb.2 fun z=>⟨fun hz=>by
   rcases List.mem_cons.1 ((h z).1 (List.mem_cons_of_mem _ hz)) with e|e
   ·exact absurd e (hx z hz)
   ·exact e,fun hz=>by
   rcases List.mem_cons.1 ((h z).2 (List.mem_cons_of_mem _ hz)) with e|e
   ·exact absurd e (hy z hz)
   exact e⟩]
theorem Lv:∀ {a:List Int} {x:Int},UpI a→(∀ y∈a,y < x)→UpI (a ++ [x])
 | [],_,_,_=>⟨by simp,trivial⟩
 | y :: r,x,h,hx=>⟨fun z hz=>by
   rcases List.mem_append.1 hz with hz|hz
   ·exact h.1 z hz
   rw [List.mem_singleton.1 hz];exact hx y List.mem_cons_self,Lv h.2 fun z hz=>hx z (List.mem_cons_of_mem _ hz)⟩
theorem Kq (d:Array Int) (y:Int):∀ m,y∈Lib.compactUpTo d m ↔ ∃ j < m,d[j]! = y
 | 0=>by simp [Lib.compactUpTo]
 | m+1=>by
  rw [Lib.compactUpTo_succ,List.mem_append,Kq d y m]
  constructor
  ·rintro (⟨j,hj,e⟩|h)
   ·exact ⟨j,by omega,e⟩
   split at h
   ·exact ⟨m,by omega,(List.mem_singleton.1 h).symm⟩
   simp at h
  rintro ⟨j,hj,e⟩
  by_cases hjm:j < m
  ·exact .inl ⟨j,hjm,e⟩
  have:j=m:=by omega
  subst this
  cases hk:Lib.keeps d j with
  | true=>exact .inr (by rw [if_pos rfl];exact List.mem_singleton.2 e.symm)
  | false =>
   have h2:¬ (j=0 ∨ d[j]! ≠ d[j - 1]!):=by simpa only [Lib.keeps,decide_eq_false_iff_not] using hk
   have h0:j ≠ 0:=fun e=>h2 (.inl e)
   have h1:d[j]! = d[j - 1]!:=Classical.byContradiction fun e=>h2 (.inr e)
   exact .inl ⟨j - 1,by omega,by rw [← h1];exact e⟩
theorem O4 (d:Array Int) (hs:∀ i j,i≤j→j < d.size→d[i]!≤d[j]!):∀ m,m≤d.size→UpI (Lib.compactUpTo d m)
 | 0,_=>by simp [Lib.compactUpTo,UpI]
 | m+1,hm=>by
  rw [Lib.compactUpTo_succ]
  have h1:=O4 d hs m (by omega)
  cases hk:Lib.keeps d m with
  | false=>simpa using h1
  | true =>
   rw [if_pos rfl]
   refine Lv h1 fun y hy=>?_
   obtain ⟨j,hj,e⟩:=(Kq d y m).1 hy
   have h2:m=0 ∨ d[m]! ≠ d[m - 1]!:=by simpa only [Lib.keeps,decide_eq_true_eq] using hk
   have h3:d[j]!≤d[m - 1]!:=hs j (m - 1) (by omega) (by omega)
   have h4:d[m - 1]!≤d[m]!:=hs (m - 1) m (by omega) (by omega)
   rcases h2 with h2|h2
   ·omega
   omega
theorem LG (l:List Int) (y:Int):y∈Lib.compact l ↔ y∈l:=by
 unfold Lib.compact
 rw [Kq,List.mem_iff_getElem]
 constructor
 ·rintro ⟨j,hj,e⟩
  exact ⟨j,hj,by rw [← e];simp [hj]⟩
 rintro ⟨j,hj,e⟩
 exact ⟨j,hj,by rw [← e];simp [hj]⟩
theorem Mi {l:List Int} (h:l.Pairwise (·≤·)):∀ i j,i≤j→j < l.toArray.size→l.toArray[i]!≤l.toArray[j]!:=by
 intro i j hij hj
 have hj:j < l.length:=by simpa using hj
 have hi:i < l.length:=by omega
 have e1:l.toArray[i]! = l[i]:=by simp [hi]
 have e2:l.toArray[j]! = l[j]:=by simp [hj]
 rw [e1,e2]
 by_cases e:i=j
 ·subst e;exact Int.le_refl _
 exact (List.pairwise_iff_getElem.1 h) i j hi hj (by omega)
theorem Kv (l:List Ac):Lib.compact ((l.map Ac.node).mergeSort fun x y=>decide (x≤y))=BK l:=by
 have hs:((l.map Ac.node).mergeSort fun x y=>decide (x≤y)).Pairwise (·≤·):=by
  have:=List.pairwise_mergeSort (le:=fun x y:Int=>decide (x≤y)) (fun a b c h1 h2=>by simp at h1 h2 ⊢;omega) (fun a b=>by simp;omega) (l.map Ac.node)
  exact this.imp fun h=>by simpa using h
 refine MF ?_ (nodesUp_up l) fun y=>?_
 ·exact O4 _ (Mi hs) _ (by simp)
 rw [LG,List.mem_mergeSort,List.mem_map,GZ]
theorem Jn (s:Ab) (j:Aq) (nd:Int) (l:List Ac):places s j nd (l.filter fun x=>x.node == nd)=places s j nd l:=by
 unfold places
 rw [List.filter_filter]
 simp only [Bool.and_self]
end Fsm
end
section
open Go.RowKit Go.Sort
theorem ext_putRow (w:World) (n g off:Nat) (d:Array Int) (os:Array Obj):Ext (fun q=>q=g) w (grow (putRow (Value.int .i64) (Sort.ahead w n) g off d) os):=by
 refine ⟨rfl,rfl,rfl,?_,fun k hk hn=>?_⟩
 ·show w.heap.size≤((w.heap.modify g _) ++ os).size
  simp
 show ((w.heap.modify g _) ++ os)[k]? = w.heap[k]?
 rw [Array.getElem?_append_left (by simpa using hk),Array.getElem?_modify,if_neg (fun e=>hn e.symm)]
theorem KV {w:World} {n g off:Nat} {d:Array Int} {os:Array Obj} {c:Array Value} {e:TypeId} (h:Blk w g e c):Blk (grow (putRow (Value.int .i64) (Sort.ahead w n) g off d) os) g e (putCells (Value.int .i64) off d c):=by
 show ((w.heap.modify g _) ++ os)[g]? = _
 rw [Array.getElem?_append_left (by simpa using h.lt),Array.getElem?_modify,if_pos rfl,show w.heap[g]? = _ from h]
 rfl
theorem O9 {d:Array Int} {c:Array Value} (h:d.size≤c.size):((putCells (Value.int .i64) 0 d c).toList.take d.size)=d.toList.map (Value.int .i64):=by
 apply List.ext_getElem?
 intro i
 rw [List.getElem?_take,List.getElem?_map]
 by_cases hi:i < d.size
 ·rw [if_pos hi]
  have hc:i < c.size:=by omega
  simp [putCells,hi,hc]
 rw [if_neg hi]
 simp [hi]
theorem CQ (zs:List Int):zs.flatMap BB=zs.map (Value.int .i64):=by
 induction zs with
 | nil=>rfl
 | cons x r ih=>rw [List.flatMap_cons,ih];rfl
section
variable {w:World} {base e g n cap:Nat} {zs:List Int}
theorem own_putRow (h:w.ownsRow base e 1 (.slice (some ⟨g,0,none⟩) n cap) n (zs.flatMap BB)) (k:Nat) {ds:List Int} (hd:ds.length=n) (os:Array Obj):(grow (putRow (Value.int .i64) (Sort.ahead w k) g 0 ds.toArray) os).ownsRow base e 1 (.slice (some ⟨g,0,none⟩) n cap) n (ds.flatMap BB):=by
 refine ⟨by rw [CQ,List.length_map];omega,.inr ?_⟩
 rcases h.2 with ⟨hv,_⟩|⟨g',cap',cur,hv,hb,hg,hn,hm,hs,ht⟩
 ·cases hv
 injection hv with hv hv1 hv2
 injection hv with hv
 injection hv with hv
 subst hv hv2
 refine ⟨_,_,_,rfl,hb,KV hg,hn,hm,by simp [putCells,hs],?_⟩
 have:=O9 (d:=ds.toArray) (c:=cur) (by simp;omega)
 rw [CQ]
 simpa [hd] using this
theorem Jw (h:w.ownsRow base e 1 (.slice (some ⟨g,0,none⟩) n cap) n (zs.flatMap BB)) (hn:n=zs.length):Holds (Value.int .i64) w g 0 zs.toArray∧g < w.heap.size∧n≤cap:=by
 rcases h.2 with ⟨hv,_⟩|⟨g',cap',cur,hv,hb,hg,hnc,hm,hs,ht⟩
 ·cases hv
 injection hv with hv hv1 hv2
 injection hv with hv
 injection hv with hv
 subst hv hv2
 have hB:Blk w g e cur:=hg
 refine ⟨fun j hj=>⟨?_,hB.frozen _⟩,hB.lt,hnc⟩
 have hj:j < zs.length:=by simpa using hj
 rw [hB.cell]
 rw [CQ] at ht
 have h1:(cur.toList.take (n*1))[j]? = some (Value.int .i64 zs[j]):=by rw [ht];simp [hj]
 rw [List.getElem?_take,if_pos (by omega)] at h1
 simpa [hj] using h1
theorem NV (h:w.ownsRow base e 1 (.slice (some ⟨g,0,none⟩) n cap) n (zs.flatMap BB)) {k:Nat} (hk:k≤n):w.ownsRow base e 1 (.slice (some ⟨g,0,none⟩) k cap) k ((zs.take k).flatMap BB):=by
 have hl:zs.length=n:=by have:=h.1;rw [CQ,List.length_map] at this;omega
 refine ⟨by rw [CQ,List.length_map,List.length_take];omega,.inr ?_⟩
 rcases h.2 with ⟨hv,_⟩|⟨g',cap',cur,hv,hb,hg,hnc,hm,hs,ht⟩
 ·cases hv
 injection hv with hv hv1 hv2
 injection hv with hv
 injection hv with hv
 subst hv hv2
 refine ⟨_,_,_,rfl,hb,hg,by omega,hm,hs,?_⟩
 rw [CQ] at ht ⊢
 have h2:=congrArg (List.take k) ht
 rw [List.take_take,Nat.min_eq_left (by omega)] at h2
 rw [Nat.mul_one,h2,List.map_take]
end
theorem Md (l:List Int):(Lib.compact l).length≤l.length:=by
 unfold Lib.compact Lib.compactUpTo
 rw [List.length_map]
 exact Nat.le_trans (List.length_filter_le _ _) (by simp)
end
section
open Go.RowKit Go.Sort
theorem QZ (base:Nat) (A:Option Addr) (n cap:Nat) (zs:List Int) (w:World) (h:w.ownsRow base 3 1 (.slice A n cap) n (zs.flatMap BB)) (hn:n≤67108864) :
  Calls Tryz.prog 77 #[.slice A n cap] w fun e w'=>e=.returned (.tuple #[])∧w'.ownsRow base 3 1 (.slice A n cap) n ((zs.mergeSort fun x y=>decide (x≤y)).flatMap BB)∧Ext (fun q=>(Value.slice A n cap).ownBlock=some q) w w':=by
 have hl:zs.length=n:=by have:=h.1;rw [CQ,List.length_map] at this;omega
 rcases h.2 with ⟨hv,h0⟩|⟨g,cap',cur,hv,_⟩
 ·injection hv with hv hv1 hv2
  subst hv hv2 h0
  have hz:zs=[]:=List.eq_nil_of_length_eq_zero hl
  subst hz
  refine (Tryz.slices_Sort_int_none none 0 w).mono ?_
  rintro e w' ⟨rfl,rfl⟩
  exact ⟨rfl,by simpa using h,Ext.refl _ _⟩
 injection hv with hv hv1 hv2
 subst hv hv2
 obtain ⟨h1,h2,h3⟩:=Jw h hl.symm
 subst hl
 refine (Tryz.slices_Sort_int g 0 cap zs w h1 h2 (by omega)).mono ?_
 rintro e w' ⟨rfl,k,os,rfl⟩
 exact ⟨rfl,own_putRow h k (by simp) os,(ext_putRow w k g 0 _ os).mono (fun q _ e=>by subst e;rfl)⟩
theorem Ph (base:Nat) (A:Option Addr) (n cap:Nat) (zs:List Int) (w:World) (h:w.ownsRow base 3 1 (.slice A n cap) n (zs.flatMap BB)) (hn:n≤67108864) :
  Calls Tryz.prog 78 #[.slice A n cap] w fun e w'=>e=.returned (.slice A (Lib.compact zs).length cap)∧w'.ownsRow base 3 1 (.slice A (Lib.compact zs).length cap) (Lib.compact zs).length ((Lib.compact zs).flatMap BB)∧Ext (fun q=>(Value.slice A n cap).ownBlock=some q) w w':=by
 have hl:zs.length=n:=by have:=h.1;rw [CQ,List.length_map] at this;omega
 rcases h.2 with ⟨hv,h0⟩|⟨g,cap',cur,hv,_⟩
 ·injection hv with hv hv1 hv2
  subst hv hv2 h0
  have hz:zs=[]:=List.eq_nil_of_length_eq_zero hl
  subst hz
  refine (Tryz.slices_Compact_int_empty none 0 w).mono ?_
  rintro e w' ⟨rfl,rfl⟩
  exact ⟨rfl,h,Ext.refl _ _⟩
 injection hv with hv hv1 hv2
 subst hv hv2
 obtain ⟨h1,h2,h3⟩:=Jw h hl.symm
 subst hl
 refine (Tryz.slices_Compact_int g 0 cap zs w h1 (by omega) h3).mono ?_
 rintro e w' ⟨rfl,k,rfl⟩
 have hc:=Md zs
 have h4:=own_putRow h k (ds:=Lib.compact zs ++ List.replicate (zs.length - (Lib.compact zs).length) 0) (by simp;omega) #[]
 have h5:=NV h4 hc
 rw [List.take_left' rfl] at h5
 rw [grow_empty] at h5
 refine ⟨rfl,h5,?_⟩
 have h6:=ext_putRow w k g 0 (Lib.compact zs ++ List.replicate (zs.length - (Lib.compact zs).length) 0).toArray #[]
 rw [grow_empty] at h6
 exact h6.mono (fun q _ e=>by subst e;rfl)
end
section
namespace Fsm
structure D8 (s t:Ab):Prop where
 index:t.index=s.index
 jobs:t.jobs=s.jobs
 stable:t.stable=s.stable
 nodes:t.nodes=s.nodes
 evals:t.evals=s.evals
 deploys:t.deploys=s.deploys
 len:t.allocs.length≤s.allocs.length ∨ t.allocs.length≤64
theorem D8.refl (s:Ab):D8 s s:=⟨rfl,rfl,rfl,rfl,rfl,rfl,.inl (Nat.le_refl _)⟩
theorem D8.trans {s t u:Ab} (h:D8 s t) (k:D8 t u):D8 s u :=
 ⟨k.index.trans h.index,k.jobs.trans h.jobs,k.stable.trans h.stable,k.nodes.trans h.nodes,k.evals.trans h.evals,k.deploys.trans h.deploys,by rcases k.len with a|a <;> rcases h.len with b|b <;> omega⟩
theorem G9 (j:Aq) (n:NodD):∀ (l:List Ac) (s t:Ab),l.foldl (Bc j n) (some s)=some t→t.index=s.index∧t.jobs=s.jobs∧t.stable=s.stable∧t.nodes=s.nodes∧t.evals=s.evals∧t.deploys=s.deploys
 | [],s,t,h=>by cases h;exact ⟨rfl,rfl,rfl,rfl,rfl,rfl⟩
 | x :: r,s,t,h=>by
  rw [List.foldl_cons] at h
  unfold Bc at h
  simp only at h
  by_cases hm:EI s j n x=true
  ·rw [if_pos hm] at h
   obtain ⟨a,b,c,d,e,f⟩:=G9 j n r _ t h
   exact ⟨a,b,c,d,e,f⟩
  rw [if_neg hm] at h
  have h2:∀ l:List Ac,l.foldl (fun o x=>match o with|none=>none|some t=>if EI t j n x then some (placed t j n x) else none) (none:Option Ab)=none:=by
   intro l
   induction l with
   | nil=>rfl
   | cons y l ih=>rw [List.foldl_cons];exact ih
  have h3:(none:Option Ab)=some t:=(h2 r).symm.trans h
  cases h3
theorem M8 (jobs:List Aq):∀ (n:Nat) (l m:List Ac),Di jobs n l=some m→m.length≤64
 | 0,l,m,h=>by
  unfold Di at h
  by_cases hl:l.length≤64
  ·rw [if_pos hl] at h;cases h;exact hl
  rw [if_neg hl] at h;cases h
 | n+1,l,m,h=>by
  unfold Di at h
  by_cases hl:l.length≤64
  ·rw [if_pos hl] at h;cases h;exact hl
  rw [if_neg hl] at h
  cases hk:l.findIdx? (fun a=>!Cf jobs a) with
  | none=>rw [hk] at h;cases h
  | some k=>rw [hk] at h;exact M8 jobs n _ m h
theorem NB (s:Ab) (j:Aq) (n:Int) (l:List Ac):D8 s (places s j n l).1:=by
 unfold places
 split
 ·exact D8.refl s
 split
 ·exact D8.refl s
 split
 ·exact D8.refl s
 rename_i t ht
 split
 ·exact D8.refl s
 rename_i m hm
 obtain ⟨a,b,c,d,e,f⟩:=G9 j _ _ s t ht
 exact ⟨a,b,c,d,e,f,.inr (M8 _ _ _ _ hm)⟩
theorem LK (j:Aq) (l:List Ac):∀ (ns:List Int) (z:Ab × Bool),D8 z.1 (ns.foldl (CE j l) z).1
 | [],z=>D8.refl z.1
 | n :: r,z=>(NB z.1 j n l).trans (LK j l r (CE j l z n))
theorem NT (j:Aq) (l:List Ac) (ns:List Int) (k:Nat) (h:k < ns.length) (z:Ab × Bool):(ns.take (k+1)).foldl (CE j l) z=CE j l ((ns.take k).foldl (CE j l) z) ns[k]:=by
 rw [List.take_add_one,List.getElem?_eq_getElem h,List.foldl_append]
 rfl
theorem LD {α:Type} (p:α→Bool) (l:List α) (t:Nat) (h:t < l.length):(l.take (t+1)).filter p=(l.take t).filter p ++ if p l[t] then [l[t]] else []:=by
 rw [List.take_add_one,List.getElem?_eq_getElem h,List.filter_append]
 congr 1
 cases e:p l[t] <;> simp [e]
theorem Jk (l:List Ac) (t:Nat) (h:t < l.length):((l.take (t+1)).map Ac.node).flatMap BB=((l.take t).map Ac.node).flatMap BB ++ [.int .i64 l[t].node]:=by
 rw [List.take_add_one,List.getElem?_eq_getElem h,List.map_append,List.flatMap_append]
 rfl
end Fsm
end
section
open Go.RowKit
theorem Rs:Bg Tryz.prog 45 3 1:=.of (by kernel_rfl)
end
section
open Go.RowKit
namespace Fsm
theorem Rk {n:Nat} (h:n≤1048576):n*n≤1099511627776:=Nat.le_trans (Nat.mul_le_mul h h) (by decide)
end Fsm
end
section
open Go.RowKit
theorem Aw.ok {base:Nat} {w:World} {s:Aa} (h:Aw base w s) (h64:Fsm.EH s.data) (hJ:s.jobs.length≤1048576) (hS:s.stable.length≤1048576) (hN:s.nodes.length≤1048576) (hA:s.allocs.length≤1048576) (hE:s.evals.length≤1048576) (hD:s.deploys.length≤1048576) (hX:s.seen.length≤1048576):s.Ok w:=by
 have job:∀ {v:Value} {l:List JobV},BC base w v l→(∀ x∈l.map (·.1),x.ok)→∀ x∈l,JobV.ok w x:=fun hj ho x hx=>by
  obtain ⟨h1,h2,_⟩:=ho x.1 (List.mem_map_of_mem hx)
  obtain ⟨A,n,c,g1,g2,g3,g4⟩:=hj.grp x hx
  exact ⟨h1,A,n,c,g1,Sl.Bd (fun _=>rfl) g2 g3,h2,g4⟩
 refine ⟨h.slJ,job h.j h64.j,by have:=h.jl;omega,h.slT,job h.t h64.t,by have:=h.tl;omega,h.slN,h64.n,by have:=h.nl;omega,h.slA,h64.a,by have:=h.al;omega,h.slE,h64.e,by have:=h.el;omega,h.slD,h64.d,by have:=h.dl;omega,h.slX,fun x hx=>?_,by have:=h.xl;omega⟩
 obtain ⟨h1,h2⟩:=h64.x x.1 (List.mem_map_of_mem hx)
 obtain ⟨A,c,h3,h4⟩:=h.xa x hx
 exact ⟨h1,A,0,c,h3,by rw [h4];exact Sl.nil _ _ _,by rw [h4];simp,by omega⟩
end
section
set_option maxRecDepth 100000
open Go.RowKit Go.ChangeShapes Go.WideShapes Go.ChangeAt Go.Deep
theorem Pf:Dl Tryz.prog 2 97=true:=by kernel_rfl
theorem NY:EG Tryz.prog 2 97=[3,3]:=by kernel_rfl
theorem Pk:Tryz.prog.cellsOf 97=2:=by kernel_rfl
theorem Rl:Dl Tryz.prog 2 3=true:=by kernel_rfl
theorem Rf:EG Tryz.prog 2 3=[3]:=by kernel_rfl
theorem QK:Tryz.prog.cellsOf 3=1:=by kernel_rfl
theorem Rc:Dl Tryz.prog 3 51=true:=by kernel_rfl
theorem Rt:EG Tryz.prog 3 51=[3,3,3,3,3,3,3,37,3,4,3,3,3,4,4,3,3,3,44,3,3,3,45,25,4,45,45]:=by kernel_rfl
theorem Ry:Tryz.prog.cellsOf 51=27:=by kernel_rfl
section
variable {H:Type} {enc:TypeId × Value→H} {w:World} {base:Nat} {spare:Nat→Bool} {held:Bool}
theorem Lg {B:Nat} (n:Nat) (cs:List Value) (y:DataW H × List MemPlace) (h:DataW.trod enc Tryz.prog w base spare held n 97 cs=some y) (hB:Rows.uptoBulk y.1≤B):∃ x:Int × Int,cs=Fb x∧(In64 x.1∧In64 x.2):=by
 have h1:=leaves (P:=Tryz.prog) (d:=2) Pf h hB
 rw [NY] at h1
 match cs,h1 with
 | [c0,c1],⟨l0,l1,_⟩ =>
  obtain ⟨a0,rfl,w0⟩:=l0.int Tryz.underlying3
  obtain ⟨a1,rfl,w1⟩:=l1.int Tryz.underlying3
  exact ⟨(a0,a1),rfl,Be w0,Be w1⟩
theorem Ii {B:Nat} (n:Nat) (cs:List Value) (y:DataW H × List MemPlace) (h:DataW.trod enc Tryz.prog w base spare held n 3 cs=some y) (hB:Rows.uptoBulk y.1≤B):∃ x:Int,cs=BB x∧In64 x:=by
 have h1:=leaves (P:=Tryz.prog) (d:=2) Rl h hB
 rw [Rf] at h1
 match cs,h1 with
 | [c0],⟨l0,_⟩ =>
  obtain ⟨a0,rfl,w0⟩:=l0.int Tryz.underlying3
  exact ⟨a0,rfl,Be w0⟩
structure Bl.Read (w:World) (c:Bl):Prop where
 g:Sl w 3 c.GA c.gn (c.job.groups.map Ao.cells)
 gl:c.gn≤1048576
 r:Sl w 2 c.RA c.rn (c.reports.map Fb)
 rl:c.rn≤1048576
 s:Sl w 1 c.SA c.sn (c.stops.map BB)
 sl:c.sn≤1048576
 p:Sl w 11 c.PA c.pn (c.places.map Ac.cells)
 pl:c.pn≤1048576
 o25:c.v25.oneCell' = true
 o26:c.v26.oneCell' = true
 op:(Lit.int .i64 c.op).wf=true
 ok:c.d.ok
def Bl.cells (c:Bl):List Value:=c.arr.toList
theorem Lr {B:Nat} (hB1:B≤1048577) (n:Nat) (cs:List Value) (y:DataW H × List MemPlace) (h:DataW.trod enc Tryz.prog w base spare held n 51 cs=some y) (hB:Rows.uptoBulk y.1≤B):∃ x:Bl,cs=x.cells∧x.Read w:=by
 have h1:=leaves (P:=Tryz.prog) (d:=3) Rc h hB
 rw [Rt] at h1
 match cs,h1 with
 | [c0,c1,c2,c3,c4,c5,c6,c7,c8,c9,c10,c11,c12,c13,c14,c15,c16,c17,c18,c19,c20,c21,c22,c23,c24,c25,c26],⟨l0,l1,l2,l3,l4,l5,l6,l7,l8,l9,l10,l11,l12,l13,l14,l15,l16,l17,l18,l19,l20,l21,l22,l23,l24,l25,l26,_⟩ =>
  obtain ⟨a0,rfl,w0⟩:=l0.int Tryz.underlying3
  obtain ⟨a1,rfl,w1⟩:=l1.int Tryz.underlying3
  obtain ⟨a2,rfl,w2⟩:=l2.int Tryz.underlying3
  obtain ⟨a3,rfl,w3⟩:=l3.int Tryz.underlying3
  obtain ⟨a4,rfl,w4⟩:=l4.int Tryz.underlying3
  obtain ⟨a5,rfl,w5⟩:=l5.int Tryz.underlying3
  obtain ⟨a6,rfl,w6⟩:=l6.int Tryz.underlying3
  obtain ⟨A7,n7,k7,x7,rfl,s7,o7,m7,_⟩:=F8.slice Ao.cells Ao.ok Tryz.underlying37 QO (by decide) Mk l7
  obtain ⟨a8,rfl,w8⟩:=l8.int Tryz.underlying3
  obtain ⟨a9,rfl⟩:=l9.bool Tryz.underlying4
  obtain ⟨a10,rfl,w10⟩:=l10.int Tryz.underlying3
  obtain ⟨a11,rfl,w11⟩:=l11.int Tryz.underlying3
  obtain ⟨a12,rfl,w12⟩:=l12.int Tryz.underlying3
  obtain ⟨a13,rfl⟩:=l13.bool Tryz.underlying4
  obtain ⟨a14,rfl⟩:=l14.bool Tryz.underlying4
  obtain ⟨a15,rfl,w15⟩:=l15.int Tryz.underlying3
  obtain ⟨a16,rfl,w16⟩:=l16.int Tryz.underlying3
  obtain ⟨a17,rfl,w17⟩:=l17.int Tryz.underlying3
  obtain ⟨A18,n18,k18,x18,rfl,s18,o18,m18,_⟩:=F8.slice Fb (fun r=>In64 r.1∧In64 r.2) Tryz.underlying44 Pk (by decide) Lg l18
  obtain ⟨a19,rfl,w19⟩:=l19.int Tryz.underlying3
  obtain ⟨a20,rfl,w20⟩:=l20.int Tryz.underlying3
  obtain ⟨a21,rfl,w21⟩:=l21.int Tryz.underlying3
  obtain ⟨A22,n22,k22,x22,rfl,s22,o22,m22,_⟩:=F8.slice BB In64 Tryz.underlying45 QK (by decide) Ii l22
  obtain ⟨A23,n23,k23,x23,rfl,s23,o23,m23,_⟩:=F8.slice Ac.cells Ac.ok Tryz.underlying25 QR (by decide) LY l23
  obtain ⟨a24,rfl⟩:=l24.bool Tryz.underlying4
  obtain ⟨A25,n25,k25,x25,rfl,s25,o25,m25,_⟩:=F8.slice BB In64 Tryz.underlying45 QK (by decide) Ii l25
  obtain ⟨A26,n26,k26,x26,rfl,s26,o26,m26,_⟩:=F8.slice BB In64 Tryz.underlying45 QK (by decide) Ii l26
  refine ⟨⟨a0,a1,a2,⟨a3,a4,a5,a6,x7,a8,a9⟩,A7,n7,k7,⟨a10,⟨a11,a12⟩,a13,a14,a15,a16,a17⟩,x18,A18,n18,k18,a19,a20,a21,x22,A22,n22,k22,x23,A23,n23,k23,a24,.slice A25 n25 k25,.slice A26 n26 k26⟩,rfl,?_⟩
  refine ⟨s7,by simp only;omega,s18,by simp only;omega,s22,by simp only;omega,s23,by simp only;omega,rfl,rfl,w0,?_⟩
  refine ⟨Be w1,Be w2,⟨⟨Be w3,Be w4,Be w5,Be w6,Be w8⟩,o7,?_⟩,⟨Be w10,Be w11,Be w12,Be w15,Be w16,Be w17⟩,o18,Be w21,o23⟩
  have h9:=s7.len
  show x7.length≤_
  omega
end
end
section
open Go.RowKit
def Gm:Aa:=⟨0,1,none,0,0,[],none,0,0,[],none,0,0,[],none,0,0,[],none,0,0,[],none,0,0,[],none,0,0,[]⟩
theorem KI (base:Nat) (w:World):Aw base w Gm :=
 ⟨⟨World.ownsRow_nil _ _ _ _,by simp [Gm]⟩,rfl,⟨World.ownsRow_nil _ _ _ _,by simp [Gm]⟩,rfl,World.ownsRow_nil _ _ _ _,rfl,World.ownsRow_nil _ _ _ _,rfl,World.ownsRow_nil _ _ _ _,rfl,World.ownsRow_nil _ _ _ _,rfl,World.ownsRow_nil _ _ _ _,rfl,by simp [Gm],by simp [Gm,Value.ownBlock]⟩
theorem Bl.Read.Qr {w w' : World} {c:Bl} (h:c.Read w) (hx:Ext Nothing w w'):Dx w'.heap.size w' c:=by
 have lt:∀ {sz n:Nat} {A:Option Addr} {xs:List (List Value)},Sl w' sz A n xs→0 < sz→∀ b,A.map (·.block)=some b→xs ≠ []→b < w'.heap.size:=fun hs h0 b hb hne=>by
  rcases Nat.lt_or_ge b w'.heap.size with h1|h1
  ·exact h1
  exact absurd (hs.old h0 hb h1) hne
 have hg:=h.g.Al hx
 have hr:=h.r.Al hx
 have hs:=h.s.Al hx
 have hp:=h.p.Al hx
 exact ⟨hg,h.gl,fun b e ne=>lt hg (by decide) b e (by simpa using ne),hr,h.rl,fun b e ne=>lt hr (by decide) b e (by simpa using ne),hs,h.sl,fun b e ne=>lt hs (by decide) b e (by simpa using ne),hp,h.pl,fun b e ne=>lt hp (by decide) b e (by simpa using ne),h.o25,h.o26⟩
theorem Bl.Read.KO {w:World} {c:Bl} (h:c.Read w):c.d.plan.places.length≤1048576:=by
 have h1:=h.p.len
 have h2:=h.pl
 show c.places.length≤_
 omega
end
section
open Go.RowKit
namespace Fsm
structure EU (t:Nat) (s:Ab):Prop where
 num:Num (t*1099511627776) s
 evs:Evs s
 w:Wf s
 stt:StT s
 ix:s.index=t
 lj:s.jobs.length≤t
 ln:s.nodes.length≤t
 ld:s.deploys.length≤t
 lx:s.seen.length≤t
theorem Eo {t:Nat} {s:Ab} (h:EU t s) (ht:t≤1048576) {c:BV} (hp:c.plan.places.length≤1048576):EU (t+1) (apply s ((t:Int)+1) c).1:=by
 have hq:=Rk hp
 obtain ⟨f1,f2,f3,f4⟩:=Nu s ((t:Int)+1) c
 obtain ⟨e1,e2⟩:=NM h.evs ((t:Int)+1) c (by rw [h.ix];omega) (by omega)
 have h1:=h.lj
 have h2:=h.ln
 have h3:=h.ld
 have h4:=h.lx
 exact ⟨(ND h.num _ c (by omega)).more (by omega),e1,Pd h.w _ c,Ni h.stt _ c,by rw [e2];omega,by omega,by omega,by omega,by omega⟩
theorem IW:EU 0 new:=⟨Qb.more (Nat.zero_le _),PZ,QD,Oe.2,rfl,by simp [new],by simp [new],by simp [new],by simp [new]⟩
end Fsm
theorem Fs {t:Nat} {s:Aa} (h:Fsm.EU t s.data) (ht:t≤1048576):s.jobs.length≤t∧s.stable.length≤t∧s.nodes.length≤t∧s.allocs.length≤64∧s.evals.length≤t∧s.deploys.length≤t∧s.seen.length≤t:=by
 have h1:(s.jobs.map (·.1)).length≤t:=h.lj
 have h2:(s.stable.map (·.1)).length≤(s.jobs.map (·.1)).length:=Fsm.L8 h.w.t h.stt
 have h3:s.evals.length=(s.jobs.map (·.1)).length:=by have:=congrArg List.length h.evs.keys;simpa [Aa.data] using this
 have h4:(s.seen.map (·.1)).length≤t:=h.lx
 have h5:=h.ln
 have h6:=h.ld
 have h7:=h.num.len
 rw [List.length_map] at h1 h2 h3 h4
 rw [List.length_map] at h2
 exact ⟨h1,by omega,h5,h7,by omega,h6,h4⟩
end
end Go.Proofs.YtccekmeifanipaaGreat
