/- Parts of the proof: Low Spec2 Slot DiffF SchedR RefJob CopyL FsmF -/
import Derived.Test.YtccekmeifanipaaGreatR06
import Derived.Test.YtccekmeifanipaaGreatR02
namespace Go.Proofs.YtccekmeifanipaaGreat
set_option linter.unusedVariables false
set_option linter.unusedSimpArgs false
set_option linter.unusedSectionVars false
section
open Go.RowKit
def In64 (a:Int):Prop:=-9223372036854775808≤a∧a≤9223372036854775807
theorem laidOut:laidOutB Tryz.prog=true:=by kernel_rfl
theorem BB {w:World} {base base' e sz n:Nat} {v:Value} {xs:List Value} (h:w.ownsRow base e sz v n xs) (hb:base'≤base):w.ownsRow base' e sz v n xs:=by
 refine ⟨h.1,?_⟩
 rcases h.2 with hn|⟨g,cap,cur,rfl,hg,rest⟩
 ·exact .inl hn
 exact .inr ⟨g,cap,cur,rfl,by omega,rest⟩
theorem Sl.old {w:World} {sz n:Nat} {A:Option Addr} {xs:List (List Value)} (h:Sl w sz A n xs) (h0:0 < sz) {b:Nat} (hb:A.map (·.block)=some b) (hge:w.heap.size≤b):xs=[]:=by
 cases hx:xs with
 | nil=>rfl
 | cons y r =>
  obtain ⟨b',off,hA,hl,hc⟩:=h.2 0 y (by rw [hx];rfl)
  rw [hA] at hb
  cases hb
  have:=World.block_lt_of_cell? w _ (hc 0 _ (List.getElem?_eq_getElem (by omega)))
  have e2:b' < w.heap.size:=this
  have e3:w.heap.size≤b':=hge
  omega
end
section
open Go.RowKit
theorem add_lit (a b c d:Int) (w:World):Calls Tryz.prog 149 #[.agg #[.int .i64 a,.int .i64 b],.agg #[.int .i64 c,.int .i64 d]] w fun e w' =>
  e=.returned (.tuple #[.agg #[.int .i64 (J9 (Dr ⟨a,b⟩ ⟨c,d⟩)).cpu,.int .i64 (J9 (Dr ⟨a,b⟩ ⟨c,d⟩)).mem],.bool (Dr ⟨a,b⟩ ⟨c,d⟩).isSome])∧Ext Nothing w w':=QG ⟨a,b⟩ ⟨c,d⟩ w
def overB (a:Ac):Bool:=decide (3≤a.state)
theorem Bu (cs:Array Value) (st:Int) (w:World) (hs:cs.size=11) (hst:cs[10]? = some (.int .i64 st)) :
  Calls Tryz.prog 74 #[.agg cs] w fun e w'=>e=.returned (.bool (decide (3≤st)))∧Ext Nothing w w':=by
 have hB:Blk (w.alloc (.cells cs 55)) w.heap.size 55 cs:=Blk.new _ _ _
 have q:(w.alloc (.cells cs 55)).cell? ⟨w.heap.size,10,none⟩=some (.int .i64 st):=(hB.cell 10).trans hst
 have hx:Ext Nothing w (w.alloc (.cells cs 55)):=Ext.Al
 clear hst
 go_enter Tryz.func74,Tryz.ntmps74
 go_wp2
 go_ret
 exact ⟨rfl,hx⟩
theorem Qp (u a m:Ci) (w:World):Calls Tryz.prog 133 #[u.v,a.v,m.v] w fun e w'=>e=.returned (.bool (IB u a m))∧Ext Nothing w w':=by
 obtain ⟨u1,u2⟩:=u
 obtain ⟨a1,a2⟩:=a
 obtain ⟨m1,m2⟩:=m
 simp only [Ci.v]
 have hx0:Ext Nothing w (((w.alloc (.cells #[.int .i64 u1,.int .i64 u2] 41)).alloc (.cells #[.int .i64 a1,.int .i64 a2] 41)).alloc (.cells #[.int .i64 m1,.int .i64 m2] 41)):=Ext.Al
 have hC:Blk (((w.alloc (.cells #[.int .i64 u1,.int .i64 u2] 41)).alloc (.cells #[.int .i64 a1,.int .i64 a2] 41)).alloc (.cells #[.int .i64 m1,.int .i64 m2] 41)) (w.heap.size+1+1) 41 #[.int .i64 m1,.int .i64 m2]:=Blk.new' _ _ _ (by simp)
 obtain ⟨o,ho⟩ : ∃ o,Dr ⟨u1,u2⟩ ⟨a1,a2⟩=o:=⟨_,rfl⟩
 have hf:IB ⟨u1,u2⟩ ⟨a1,a2⟩ ⟨m1,m2⟩=NT o ⟨m1,m2⟩:=by rw [IB,ho]
 have HO:=Lib.hid ho
 have HF:=Lib.hid hf
 clear ho hf
 cases o with
 | none =>
  rw [show NT none ⟨m1,m2⟩=false from rfl] at HF
  go_enter Tryz.func133,Tryz.ntmps133
  go_wp2_with (go_at_call 149;refine (add_lit _ _ _ _ _).mono ?_;rintro e wn ⟨rfl,hn⟩;rw [HO.out];simp only [J9,Option.getD,Option.isSome])
  go_ret
  exact ⟨by rw [HF.out];rfl,by (with_reducible repeat' first|assumption|exact Ext.refl _ _|refine Ext.alloc ?_ _|refine Ext.drew ?_|refine Ext.drewN ?_ _|refine xS ?_ (by simp only [World.size_alloc,World.size_setCell,World.size_drew] <;> omega) _|refine Ext.tr ?_ (by assumption))⟩
 | some s =>
  obtain ⟨s1,s2⟩:=s
  rw [show NT (some ⟨s1,s2⟩) ⟨m1,m2⟩=(decide (s1≤m1) && decide (s2≤m2)) from rfl] at HF
  by_cases h1:s1≤m1
  ·by_cases h2:s2≤m2
   ·have e:(decide (s1≤m1) && decide (s2≤m2))=true:=by simp [h1,h2]
    rw [e] at HF
    clear e
    go_enter Tryz.func133,Tryz.ntmps133
    go_wp2_with (go_at_call 149;refine (add_lit _ _ _ _ _).mono ?_;rintro e wn ⟨rfl,hn⟩;rw [HO.out];simp only [J9,Option.getD,Option.isSome];have hC1:Blk (wn.alloc (.cells #[.int .i64 s1,.int .i64 s2] 41)) (w.heap.size+1+1) 41 #[.int .i64 m1,.int .i64 m2]:=hC.ext (S:=Nothing) (by (with_reducible repeat' first|assumption|exact Ext.refl _ _|refine Ext.alloc ?_ _|refine Ext.drew ?_|refine Ext.drewN ?_ _|refine xS ?_ (by simp only [World.size_alloc,World.size_setCell,World.size_drew] <;> omega) _|refine Ext.tr ?_ (by assumption))) (fun e=>e);have q0:(wn.alloc (.cells #[.int .i64 s1,.int .i64 s2] 41)).cell? ⟨w.heap.size+1+1,0,none⟩=some (.int .i64 m1):=hC1.cell 0;have q1:(wn.alloc (.cells #[.int .i64 s1,.int .i64 s2] 41)).cell? ⟨w.heap.size+1+1,1,none⟩=some (.int .i64 m2):=hC1.cell 1)
    go_ret
    exact ⟨by rw [HF.out];rfl,by (with_reducible repeat' first|assumption|exact Ext.refl _ _|refine Ext.alloc ?_ _|refine Ext.drew ?_|refine Ext.drewN ?_ _|refine xS ?_ (by simp only [World.size_alloc,World.size_setCell,World.size_drew] <;> omega) _|refine Ext.tr ?_ (by assumption))⟩
   have e:(decide (s1≤m1) && decide (s2≤m2))=false:=by simp [h2]
   rw [e] at HF
   clear e
   go_enter Tryz.func133,Tryz.ntmps133
   go_wp2_with (go_at_call 149;refine (add_lit _ _ _ _ _).mono ?_;rintro e wn ⟨rfl,hn⟩;rw [HO.out];simp only [J9,Option.getD,Option.isSome];have hC1:Blk (wn.alloc (.cells #[.int .i64 s1,.int .i64 s2] 41)) (w.heap.size+1+1) 41 #[.int .i64 m1,.int .i64 m2]:=hC.ext (S:=Nothing) (by (with_reducible repeat' first|assumption|exact Ext.refl _ _|refine Ext.alloc ?_ _|refine Ext.drew ?_|refine Ext.drewN ?_ _|refine xS ?_ (by simp only [World.size_alloc,World.size_setCell,World.size_drew] <;> omega) _|refine Ext.tr ?_ (by assumption))) (fun e=>e);have q0:(wn.alloc (.cells #[.int .i64 s1,.int .i64 s2] 41)).cell? ⟨w.heap.size+1+1,0,none⟩=some (.int .i64 m1):=hC1.cell 0;have q1:(wn.alloc (.cells #[.int .i64 s1,.int .i64 s2] 41)).cell? ⟨w.heap.size+1+1,1,none⟩=some (.int .i64 m2):=hC1.cell 1)
   go_ret
   exact ⟨by rw [HF.out];rfl,by (with_reducible repeat' first|assumption|exact Ext.refl _ _|refine Ext.alloc ?_ _|refine Ext.drew ?_|refine Ext.drewN ?_ _|refine xS ?_ (by simp only [World.size_alloc,World.size_setCell,World.size_drew] <;> omega) _|refine Ext.tr ?_ (by assumption))⟩
  have e:(decide (s1≤m1) && decide (s2≤m2))=false:=by simp [h1]
  rw [e] at HF
  clear e
  go_enter Tryz.func133,Tryz.ntmps133
  go_wp2_with (go_at_call 149;refine (add_lit _ _ _ _ _).mono ?_;rintro e wn ⟨rfl,hn⟩;rw [HO.out];simp only [J9,Option.getD,Option.isSome];have hC1:Blk (wn.alloc (.cells #[.int .i64 s1,.int .i64 s2] 41)) (w.heap.size+1+1) 41 #[.int .i64 m1,.int .i64 m2]:=hC.ext (S:=Nothing) (by (with_reducible repeat' first|assumption|exact Ext.refl _ _|refine Ext.alloc ?_ _|refine Ext.drew ?_|refine Ext.drewN ?_ _|refine xS ?_ (by simp only [World.size_alloc,World.size_setCell,World.size_drew] <;> omega) _|refine Ext.tr ?_ (by assumption))) (fun e=>e);have q0:(wn.alloc (.cells #[.int .i64 s1,.int .i64 s2] 41)).cell? ⟨w.heap.size+1+1,0,none⟩=some (.int .i64 m1):=hC1.cell 0;have q1:(wn.alloc (.cells #[.int .i64 s1,.int .i64 s2] 41)).cell? ⟨w.heap.size+1+1,1,none⟩=some (.int .i64 m2):=hC1.cell 1)
  go_ret
  exact ⟨by rw [HF.out];rfl,by (with_reducible repeat' first|assumption|exact Ext.refl _ _|refine Ext.alloc ?_ _|refine Ext.drew ?_|refine Ext.drewN ?_ _|refine xS ?_ (by simp only [World.size_alloc,World.size_setCell,World.size_drew] <;> omega) _|refine Ext.tr ?_ (by assumption))⟩
end
section
open Go.RowKit
def Co (j g i:Int) (a:Ac):Bool:=a.job == j && a.group == g && a.index == i && !overB a
theorem PG (x:Ac) (b1 b2 b3:Nat) (j g i:Int) (w:World) (h1:Blk w b1 3 #[.int .i64 j]) (h2:Blk w b2 3 #[.int .i64 g]) (h3:Blk w b3 3 #[.int .i64 i]) :
  Calls Tryz.prog 142 #[.agg (Ac.cells x).toArray,.pointer (some ⟨b1,0,none⟩),.pointer (some ⟨b2,0,none⟩),.pointer (some ⟨b3,0,none⟩)] w fun e w'=>e=.returned (.bool (Co j g i x))∧Ext Nothing w w':=by
 obtain ⟨x0,x1,x2,x3,x4,x5,x6,⟨x7,x8⟩,x9,x10⟩:=x
 have hx0:Ext Nothing w (w.alloc (.cells #[.int .i64 x0,.int .i64 x1,.int .i64 x2,.int .i64 x3,.int .i64 x4,.int .i64 x5,.int .i64 x6,.int .i64 x7,.int .i64 x8,.bool x9,.int .i64 x10] 55)):=Ext.Al
 have q1:(w.alloc (.cells #[.int .i64 x0,.int .i64 x1,.int .i64 x2,.int .i64 x3,.int .i64 x4,.int .i64 x5,.int .i64 x6,.int .i64 x7,.int .i64 x8,.bool x9,.int .i64 x10] 55)).cell? ⟨b1,0,none⟩=some (.int .i64 j):=hx0.cell (h1.cell 0) (fun e=>e)
 have q2:(w.alloc (.cells #[.int .i64 x0,.int .i64 x1,.int .i64 x2,.int .i64 x3,.int .i64 x4,.int .i64 x5,.int .i64 x6,.int .i64 x7,.int .i64 x8,.bool x9,.int .i64 x10] 55)).cell? ⟨b2,0,none⟩=some (.int .i64 g):=hx0.cell (h2.cell 0) (fun e=>e)
 have q3:(w.alloc (.cells #[.int .i64 x0,.int .i64 x1,.int .i64 x2,.int .i64 x3,.int .i64 x4,.int .i64 x5,.int .i64 x6,.int .i64 x7,.int .i64 x8,.bool x9,.int .i64 x10] 55)).cell? ⟨b3,0,none⟩=some (.int .i64 i):=hx0.cell (h3.cell 0) (fun e=>e)
 simp only [Ac.cells]
 clear h1 h2 h3
 by_cases e1:x1=j
 ·subst e1
  by_cases e2:x3=g
  ·subst e2
   by_cases e3:x4=i
   ·subst e3
    have e:Co x1 x3 x4 ⟨x0,x1,x2,x3,x4,x5,x6,⟨x7,x8⟩,x9,x10⟩=!(decide (3≤x10)):=by simp [Co,overB]
    have H:=Lib.hid e
    clear e
    go_enter Tryz.func142,Tryz.ntmps142
    go_wp2_with (go_at_call 74;refine (Bu _ x10 _ rfl rfl).mono ?_;rintro e wn ⟨rfl,hn⟩)
    go_ret
    exact ⟨by rw [H.out];rfl,by (with_reducible repeat' first|assumption|exact Ext.refl _ _|refine Ext.alloc ?_ _|refine Ext.drew ?_|refine Ext.drewN ?_ _|refine xS ?_ (by simp only [World.size_alloc,World.size_setCell,World.size_drew] <;> omega) _|refine Ext.tr ?_ (by assumption))⟩
   have e:Co x1 x3 i ⟨x0,x1,x2,x3,x4,x5,x6,⟨x7,x8⟩,x9,x10⟩=false:=by simp [Co,e3]
   have H:=Lib.hid e
   have h3:(x4 == i)=false:=by simpa using e3
   clear e
   go_enter Tryz.func142,Tryz.ntmps142
   go_wp2
   go_ret
   exact ⟨by rw [H.out];rfl,by (with_reducible repeat' first|assumption|exact Ext.refl _ _|refine Ext.alloc ?_ _|refine Ext.drew ?_|refine Ext.drewN ?_ _|refine xS ?_ (by simp only [World.size_alloc,World.size_setCell,World.size_drew] <;> omega) _|refine Ext.tr ?_ (by assumption))⟩
  have e:Co x1 g i ⟨x0,x1,x2,x3,x4,x5,x6,⟨x7,x8⟩,x9,x10⟩=false:=by simp [Co,e2]
  have H:=Lib.hid e
  have h3:(x3 == g)=false:=by simpa using e2
  clear e
  go_enter Tryz.func142,Tryz.ntmps142
  go_wp2
  go_ret
  exact ⟨by rw [H.out];rfl,by (with_reducible repeat' first|assumption|exact Ext.refl _ _|refine Ext.alloc ?_ _|refine Ext.drew ?_|refine Ext.drewN ?_ _|refine xS ?_ (by simp only [World.size_alloc,World.size_setCell,World.size_drew] <;> omega) _|refine Ext.tr ?_ (by assumption))⟩
 have e:Co j g i ⟨x0,x1,x2,x3,x4,x5,x6,⟨x7,x8⟩,x9,x10⟩=false:=by simp [Co,e1]
 have H:=Lib.hid e
 have h3:(x1 == j)=false:=by simpa using e1
 clear e
 go_enter Tryz.func142,Tryz.ntmps142
 go_wp2
 go_ret
 exact ⟨by rw [H.out];rfl,by (with_reducible repeat' first|assumption|exact Ext.refl _ _|refine Ext.alloc ?_ _|refine Ext.drew ?_|refine Ext.drewN ?_ _|refine xS ?_ (by simp only [World.size_alloc,World.size_setCell,World.size_drew] <;> omega) _|refine Ext.tr ?_ (by assumption))⟩
set_option maxHeartbeats 1000000 in
theorem Rw (A:Option Addr) (n cap:Nat) (l:List Ac) (b1 b2 b3:Nat) (j g i:Int) (w:World) (hl:Sl w 11 A n (l.map Ac.cells)) (h1:Blk w b1 3 #[.int .i64 j]) (h2:Blk w b2 3 #[.int .i64 g]) (h3:Blk w b3 3 #[.int .i64 i]) (hn:n≤67108864) :
  Calls Tryz.prog 103 #[.slice A n cap,.func (.func 142) #[] #[.pointer (some ⟨b1,0,none⟩),.pointer (some ⟨b2,0,none⟩),.pointer (some ⟨b3,0,none⟩)]] w fun e w'=>e=.returned (.int .i64 (Cu (Co j g i) l))∧Ext Nothing w w':=by
 have hlen:=Lib.hid hl.len
 go_enter Tryz.func103,Tryz.ntmps103
 go_wp2
 go_loopw [8] (fun c wr=>∃ k:Nat,k≤n∧c=.int .i64 k∧(∀ i' < k,∀ y,l[i']? = some y→Co j g i y=false)∧Ext Nothing w wr) (fun i _=>n - (intOf i).toNat)
 case atStart=>exact ⟨0,Nat.zero_le _,rfl,fun j hj=>absurd hj (by omega),Ext.refl _ _⟩
 case round =>
  obtain ⟨k,hk,rfl,hno,hx⟩:=hrel
  by_cases hlt:k < n
  ·obtain ⟨hjn,b,off,rfl,hce⟩:=hl.get hx hlt
   have hy:l[k]? = some l[k]:=List.getElem?_eq_getElem hjn
   generalize l[k]=x at hce hy
   cases hp:Co j g i x with
   | true =>
    have hr:=Lib.hid (Cw (p:=Co j g i) hno hy hp)
    have hp':=Lib.hid hp
    clear hno hy hp
    go_wp2_with (first|(refine Af rfl 55 _ rfl Ba b (off+k*11) rfl (Ac.cells x).toArray (by exact hce) rfl ?_)|(go_at_call 142;refine (PG x b1 b2 b3 j g i _ (h1.e0 hx) (h2.e0 hx) (h3.e0 hx)).mono ?_;rintro e w' ⟨rfl,hx1⟩;rw [hp'.out]))
    go_ret
    exact ⟨by rw [hr.out];rfl,hx.tr hx1⟩
   | false =>
    have hno' : ∀ i' < k+1,∀ y,l[i']? = some y→Co j g i y=false:=fun i hi y hy'=>by
     by_cases h:i=k
     ·subst h;rw [hy] at hy';cases hy';exact hp
     exact hno i (by omega) y hy'
    have HN:=Lib.hid hno'
    have hp':=Lib.hid hp
    clear hno hno' hy hp
    go_wp2_with (first|(refine Af rfl 55 _ rfl Ba b (off+k*11) rfl (Ac.cells x).toArray (by exact hce) rfl ?_)|(go_at_call 142;refine (PG x b1 b2 b3 j g i _ (h1.e0 hx) (h2.e0 hx) (h3.e0 hx)).mono ?_;rintro e w' ⟨rfl,hx1⟩;rw [hp'.out]))
    go_roundw
    case rel=>exact ⟨k+1,by omega,by go_num,HN.out,hx.tr hx1⟩
    case measure=>simp [intOf];omega
  have hr:=Lib.hid (Cc (p:=Co j g i) (l:=l) (fun i hi y hy=>hno i (by have:=hlen.out;omega) y hy))
  clear hno
  go_wp2
  go_ret
  exact ⟨by rw [hr.out];rfl,hx⟩
theorem GR (A:Option Addr) (n cap:Nat) (l:List Ac) (j g i:Int) (w:World) (hl:Sl w 11 A n (l.map Ac.cells)) (hn:n≤67108864) (s0 s1 s2 s3 s4 s6 s7 s8:Value) :
  Calls Tryz.prog 121 #[.agg #[s0,s1,s2,s3,s4,.slice A n cap,s6,s7,s8],.int .i64 j,.int .i64 g,.int .i64 i] w fun e w'=>e=.returned (.int .i64 (Cu (Co j g i) l))∧Ext Nothing w w':=by
 have hx0:Ext Nothing w ((((w.alloc (.cells #[s0,s1,s2,s3,s4,.slice A n cap,s6,s7,s8] 30)).alloc (.cells #[.int .i64 j] 3)).alloc (.cells #[.int .i64 g] 3)).alloc (.cells #[.int .i64 i] 3)):=Ext.Al
 have h1:Blk ((((w.alloc (.cells #[s0,s1,s2,s3,s4,.slice A n cap,s6,s7,s8] 30)).alloc (.cells #[.int .i64 j] 3)).alloc (.cells #[.int .i64 g] 3)).alloc (.cells #[.int .i64 i] 3)) (w.heap.size+1) 3 #[.int .i64 j]:=(Blk.new' (w.alloc (.cells #[s0,s1,s2,s3,s4,.slice A n cap,s6,s7,s8] 30)) _ _ (by simp)).e0 Ext.Al
 have h2:Blk ((((w.alloc (.cells #[s0,s1,s2,s3,s4,.slice A n cap,s6,s7,s8] 30)).alloc (.cells #[.int .i64 j] 3)).alloc (.cells #[.int .i64 g] 3)).alloc (.cells #[.int .i64 i] 3)) (w.heap.size+1+1) 3 #[.int .i64 g]:=(Blk.new' ((w.alloc (.cells #[s0,s1,s2,s3,s4,.slice A n cap,s6,s7,s8] 30)).alloc (.cells #[.int .i64 j] 3)) _ _ (by simp)).e0 Ext.Al
 have h3:Blk ((((w.alloc (.cells #[s0,s1,s2,s3,s4,.slice A n cap,s6,s7,s8] 30)).alloc (.cells #[.int .i64 j] 3)).alloc (.cells #[.int .i64 g] 3)).alloc (.cells #[.int .i64 i] 3)) (w.heap.size+1+1+1) 3 #[.int .i64 i]:=Blk.new' _ _ _ (by simp)
 go_enter Tryz.func121,Tryz.ntmps121
 go_wp2_with (go_at_call 103;refine (Rw A n cap l _ _ _ j g i _ (hl.Ap hx0) h1 h2 h3 hn).mono ?_;rintro e w' ⟨rfl,hx⟩)
 go_ret
 exact ⟨rfl,hx0.tr hx⟩
end
section
open Go.RowKit
structure SlotD where
 group:Int
 index:Int
deriving DecidableEq
def SlotD.cells (x:SlotD):List Value:=[.int .i64 x.group,.int .i64 x.index]
def GL (g:Aq):Nat:=(min g.count 4).toNat
def FP (l:List Ac) (j:Ak) (x:SlotD):Bool:=j.ty == 2 && l.any (fun a=>a.job == j.id && a.ver == j.ver && a.group == x.group && a.index == x.index && a.state == 3)
def big:Ci:=⟨1152921504606846976,1152921504606846976⟩
def CW (node:Int) (o:Option Ci) (a:Ac):Option Ci:=match o with|none=>none|some r=>if a.node == node && !overB a then Dr r a.ask else some r
def DY (l:List Ac) (node:Int):Ci:=(l.foldl (CW node) (some ⟨0,0⟩)).getD big
def Px (node:Int) (o:Option Ci) (a:Ac):Option Ci:=match o with|none=>none|some r=>if a.node == node then Dr r a.ask else some r
def Rp (l more:List Ac) (node:Int):Option Ci:=more.foldl (Px node) (some (DY l node))
def Sn (ns:List NodD) (l more:List Ac) (node:Int) (ask:Ci):Bool :=
 match ns.find? (fun n=>n.id == node) with
 | none=>false
 | some n=>n.up && !n.drain && (match Rp l more node with|some r=>IB r ask n.cap|none=>false)
def Sv (n:NodD) (r ask:Ci):Int:=wrap64 (wrap64 (wrap64 (n.cap.cpu - r.cpu) - ask.cpu)+wrap64 (wrap64 (n.cap.mem - r.mem) - ask.mem))
def PI (ns:List NodD) (l more:List Ac) (ask:Ci) (o:Option (Int × Int)) (x:NodD):Option (Int × Int) :=
 if Sn ns l more x.id ask then
  match ns.find? (fun n=>n.id == x.id) with
  | none=>o
  | some n =>
   let left:=Sv n (J9 (Rp l more n.id)) ask
   match o with
   | none=>some (n.id,left)
   | some b=>if left < b.2 || (left == b.2 && decide (n.id < b.1)) then some (n.id,left) else some b
 else o
def SK (ns:List NodD) (l more:List Ac) (ask:Ci):Option (Int × Int):=ns.foldl (PI ns l more ask) none
structure Su where
 job:Int
 ver:Int
 index:Int
 stops:List Int
 places:List Ac
 blocked:Bool
deriving DecidableEq
def PD (j:Ak) (x:SlotD):Ci:=match j.groups[x.group.toNat]? with|some g=>g.ask|none=>⟨0,0⟩
def QO (ns:List NodD) (l more:List Ac) (j:Ak) (x:SlotD):Option Int :=
 if j.ty=3 then (if Sn ns l more x.index (PD j x) then some x.index else none) else (SK ns l more (PD j x)).map (·.1)
def QS (ns:List NodD) (node:Int):Int:=match ns.find? (fun n=>n.id == node) with|some n=>n.epoch|none=>0
def placeOf (ns:List NodD) (j:Ak) (x:SlotD) (node:Int):Ac:=⟨0,j.id,j.ver,x.group,x.index,node,QS ns node,PD j x,false,0⟩
def AZ (ns:List NodD) (l:List Ac) (j:Ak) (st:List Ac × Bool) (x:SlotD):List Ac × Bool :=
 match QO ns l st.1 j x with
 | none=>(st.1,true)
 | some node=>(st.1 ++ [placeOf ns j x node],st.2)
end
section
set_option maxRecDepth 100000
open Go.RowKit Go.ChangeShapes Go.WideShapes Go.ChangeAt
theorem QH:ownKnob Tryz.prog.godebug=none:=by kernel_rfl
theorem Bf {a:Int} (h:(Lit.int .i64 a).wf=true):In64 a:=by
 simpa [Lit.wf,IntKind.min,IntKind.max,IntKind.signed,IntKind.bits,In64] using h
def Aq.ok (x:Aq):Prop:=In64 x.count∧In64 x.ask.cpu∧In64 x.ask.mem
def NodD.ok (x:NodD):Prop:=In64 x.id∧In64 x.cap.cpu∧In64 x.cap.mem∧In64 x.boot∧In64 x.epoch∧In64 x.seq
def Ac.ok (x:Ac):Prop:=In64 x.id∧In64 x.job∧In64 x.ver∧In64 x.group∧In64 x.index∧In64 x.node∧In64 x.epoch∧In64 x.ask.cpu∧In64 x.ask.mem∧In64 x.state
def EvalD.ok (x:EvalD):Prop:=In64 x.job∧In64 x.prio∧In64 x.state∧In64 x.index
def DepD.ok (x:DepD):Prop:=In64 x.job∧In64 x.ver∧In64 x.state∧In64 x.index
def JobV.ok (w:World) (x:JobV):Prop:=(In64 x.1.id∧In64 x.1.ty∧In64 x.1.prio∧In64 x.1.par∧In64 x.1.ver)∧∃ A n c,x.2=.slice A n c∧Sl w 3 A n (x.1.groups.map Aq.cells)∧(∀ g∈x.1.groups,g.ok)∧n≤1048576
def SeenV.ok (w:World) (x:SeenV):Prop:=(In64 x.1.client∧In64 x.1.req∧In64 x.1.answer.code∧In64 x.1.answer.value)∧∃ A n c,x.2=.slice A n c∧Sl w 11 A n (x.1.answer.allocs.map Ac.cells)∧(∀ a∈x.1.answer.allocs,a.ok)∧n≤1048576
theorem Q0:DD Tryz.prog 2 66=true:=by kernel_rfl
theorem Ra:Fw Tryz.prog 2 66=[3,3,3]:=by kernel_rfl
theorem Ru:Tryz.prog.cellsOf 66=3:=by kernel_rfl
section
variable {H:Type} {enc:TypeId × Value→H} {w:World} {base:Nat} {spare:Nat→Bool} {held:Bool}
theorem M8 {B:Nat} (n:Nat) (cs:List Value) (y:DataW H × List MemPlace) (h:DataW.trod enc Tryz.prog w base spare held n 66 cs=some y) (hB:Rows.uptoBulk y.1≤B):∃ x:Aq,cs=x.cells∧x.ok:=by
 have h1:=leaves (P:=Tryz.prog) (d:=2) Q0 h hB
 rw [Ra] at h1
 match cs,h1 with
 | [c0,c1,c2],⟨l0,l1,l2,_⟩ =>
  obtain ⟨a0,rfl,w0⟩:=l0.int Tryz.underlying3
  obtain ⟨a1,rfl,w1⟩:=l1.int Tryz.underlying3
  obtain ⟨a2,rfl,w2⟩:=l2.int Tryz.underlying3
  exact ⟨⟨a0,⟨a1,a2⟩⟩,rfl,Bf w0,Bf w1,Bf w2⟩
end
section
variable {H:Type} {enc:TypeId × Value→H} {w:World} {base:Nat} {spare:Nat→Bool} {held:Bool}
end
theorem QE:DD Tryz.prog 2 55=true:=by kernel_rfl
theorem Q6:Fw Tryz.prog 2 55=[3,3,3,3,3,3,3,3,3,4,3]:=by kernel_rfl
theorem RJ:Tryz.prog.cellsOf 55=11:=by kernel_rfl
section
variable {H:Type} {enc:TypeId × Value→H} {w:World} {base:Nat} {spare:Nat→Bool} {held:Bool}
theorem ND {B:Nat} (n:Nat) (cs:List Value) (y:DataW H × List MemPlace) (h:DataW.trod enc Tryz.prog w base spare held n 55 cs=some y) (hB:Rows.uptoBulk y.1≤B):∃ x:Ac,cs=x.cells∧x.ok:=by
 have h1:=leaves (P:=Tryz.prog) (d:=2) QE h hB
 rw [Q6] at h1
 match cs,h1 with
 | [c0,c1,c2,c3,c4,c5,c6,c7,c8,c9,c10],⟨l0,l1,l2,l3,l4,l5,l6,l7,l8,l9,l10,_⟩ =>
  obtain ⟨a0,rfl,w0⟩:=l0.int Tryz.underlying3
  obtain ⟨a1,rfl,w1⟩:=l1.int Tryz.underlying3
  obtain ⟨a2,rfl,w2⟩:=l2.int Tryz.underlying3
  obtain ⟨a3,rfl,w3⟩:=l3.int Tryz.underlying3
  obtain ⟨a4,rfl,w4⟩:=l4.int Tryz.underlying3
  obtain ⟨a5,rfl,w5⟩:=l5.int Tryz.underlying3
  obtain ⟨a6,rfl,w6⟩:=l6.int Tryz.underlying3
  obtain ⟨a7,rfl,w7⟩:=l7.int Tryz.underlying3
  obtain ⟨a8,rfl,w8⟩:=l8.int Tryz.underlying3
  obtain ⟨a9,rfl⟩:=l9.bool Tryz.underlying4
  obtain ⟨a10,rfl,w10⟩:=l10.int Tryz.underlying3
  exact ⟨⟨a0,a1,a2,a3,a4,a5,a6,⟨a7,a8⟩,a9,a10⟩,rfl,Bf w0,Bf w1,Bf w2,Bf w3,Bf w4,Bf w5,Bf w6,Bf w7,Bf w8,Bf w10⟩
end
section
variable {H:Type} {enc:TypeId × Value→H} {w:World} {base:Nat} {spare:Nat→Bool} {held:Bool}
end
section
variable {H:Type} {enc:TypeId × Value→H} {w:World} {base:Nat} {spare:Nat→Bool} {held:Bool}
end
section
variable {H:Type} {enc:TypeId × Value→H} {w:World} {base:Nat} {spare:Nat→Bool} {held:Bool}
end
section
variable {H:Type} {enc:TypeId × Value→H} {w:World} {base:Nat} {spare:Nat→Bool} {held:Bool}
end
structure Aa where
 index:Int
 next:Int
 AJ:Option Addr
 nJ:Nat
 cJ:Nat
 jobs:List JobV
 AS:Option Addr
 nS:Nat
 cS:Nat
 stable:List JobV
 AN:Option Addr
 nN:Nat
 cN:Nat
 nodes:List NodD
 AA:Option Addr
 nA:Nat
 cA:Nat
 allocs:List Ac
 AE:Option Addr
 nE:Nat
 cE:Nat
 evals:List EvalD
 AD:Option Addr
 nD:Nat
 cD:Nat
 deploys:List DepD
 AX:Option Addr
 nX:Nat
 cX:Nat
 seen:List SeenV
def Aa.cells (s:Aa):List Value:=[.int .i64 s.index,.int .i64 s.next,.slice s.AJ s.nJ s.cJ,.slice s.AS s.nS s.cS,.slice s.AN s.nN s.cN,.slice s.AA s.nA s.cA,.slice s.AE s.nE s.cE,.slice s.AD s.nD s.cD,.slice s.AX s.nX s.cX]
structure Aa.Ok (w:World) (s:Aa):Prop where
 sJ:Sl w 7 s.AJ s.nJ (s.jobs.map JobV.cells)
 kJ:∀ x∈s.jobs,JobV.ok w x
 mJ:s.nJ≤1048576
 sS:Sl w 7 s.AS s.nS (s.stable.map JobV.cells)
 kS:∀ x∈s.stable,JobV.ok w x
 mS:s.nS≤1048576
 sN:Sl w 8 s.AN s.nN (s.nodes.map NodD.cells)
 kN:∀ x∈s.nodes,x.ok
 mN:s.nN≤1048576
 sA:Sl w 11 s.AA s.nA (s.allocs.map Ac.cells)
 kA:∀ x∈s.allocs,x.ok
 mA:s.nA≤1048576
 sE:Sl w 4 s.AE s.nE (s.evals.map EvalD.cells)
 kE:∀ x∈s.evals,x.ok
 mE:s.nE≤1048576
 sD:Sl w 4 s.AD s.nD (s.deploys.map DepD.cells)
 kD:∀ x∈s.deploys,x.ok
 mD:s.nD≤1048576
 sX:Sl w 5 s.AX s.nX (s.seen.map SeenV.cells)
 kX:∀ x∈s.seen,SeenV.ok w x
 mX:s.nX≤1048576
theorem JobV.ok.Ap {w w' : World} {x:JobV} (h:JobV.ok w x) (hx:Ext Nothing w w'):JobV.ok w' x:=by
 obtain ⟨h0,A,n,c,h1,h2,h3,h4⟩:=h
 exact ⟨h0,A,n,c,h1,h2.Ap hx,h3,h4⟩
theorem SeenV.ok.Ap {w w' : World} {x:SeenV} (h:SeenV.ok w x) (hx:Ext Nothing w w'):SeenV.ok w' x:=by
 obtain ⟨h0,A,n,c,h1,h2,h3,h4⟩:=h
 exact ⟨h0,A,n,c,h1,h2.Ap hx,h3,h4⟩
theorem Aa.Ok.Ap {w w' : World} {s:Aa} (h:s.Ok w) (hx:Ext Nothing w w'):s.Ok w' :=
 ⟨h.sJ.Ap hx,fun x hm=>(h.kJ x hm).Ap hx,h.mJ,h.sS.Ap hx,fun x hm=>(h.kS x hm).Ap hx,h.mS,h.sN.Ap hx,h.kN,h.mN,h.sA.Ap hx,h.kA,h.mA,h.sE.Ap hx,h.kE,h.mE,h.sD.Ap hx,h.kD,h.mD,h.sX.Ap hx,fun x hm=>(h.kX x hm).Ap hx,h.mX⟩
end
section
open Go.RowKit
theorem Sm:Bz Tryz.prog 23 39 7:=.of (by kernel_rfl)
theorem SRAlloc:Bz Tryz.prog 25 55 11:=.of (by kernel_rfl)
theorem DU:Bb Tryz.prog 89 5:=.of (by kernel_rfl)
end
section
open Go.RowKit
theorem Dq {w:World} {base e sz n g:Nat} {v:Value} {xs:List Value} (h:w.ownsRow base e sz v n xs) (hv:v.ownBlock=some g):∃ cs,Blk w g e cs:=by
 rcases h.2 with ⟨rfl,_⟩|⟨g',cap,cur,rfl,_,hg,_⟩
 ·simp [Value.ownBlock] at hv
 simp [Value.ownBlock] at hv
 subst hv
 exact ⟨cur,hg⟩
def Apart (W:World) (S:Nat→Prop) (T:List TypeId):Prop:=∀ b,S b→∃ t cs,Blk W b t cs∧t ∉ T
theorem Apart.none {W:World} {T:List TypeId}:Apart W Nothing T:=fun _ h=>h.elim
theorem Apart.one {W:World} {T:List TypeId} {b t:Nat} {cs:Array Value} (h:Blk W b t cs) (ht:t ∉ T):Apart W (fun q=>q=b) T:=fun q e=>by subst e;exact ⟨t,cs,h,ht⟩
theorem Apart.row {W:World} {T:List TypeId} {base e sz n:Nat} {v:Value} {xs:List Value} (h:W.ownsRow base e sz v n xs) (ht:e ∉ T):Apart W (fun q=>v.ownBlock=some q) T:=fun q hq=>by
 obtain ⟨cs,hb⟩:=Dq h hq
 exact ⟨e,cs,hb,ht⟩
theorem Apart.less {W:World} {T T' : List TypeId} {S:Nat→Prop} (h:Apart W S T) (hT:∀ t∈T',t∈T):Apart W S T':=fun q e=>by
 obtain ⟨t,cs,hb,ht⟩:=h q e
 exact ⟨t,cs,hb,fun hm=>ht (hT t hm)⟩
theorem Ah {S:Nat→Prop} {w w' : World} {base e sz n:Nat} {v:Value} {xs:List Value} (h:w.ownsRow base e sz v n xs) (hx:Ext S w w') (hS:Apart w S [e]):w'.ownsRow base e sz v n xs :=
 Ao h hx fun g hg hs=>by
  obtain ⟨t,cs,hb,ht⟩:=hS g hs
  exact own_ne h hb (fun e'=>ht (by simp [e'])) hg
theorem Hz {S:Nat→Prop} {w w' : World} {g t:Nat} {cs:Array Value} (h:Blk w g t cs) (hx:Ext S w w') (hS:Apart w S [t]):Blk w' g t cs :=
 h.ext hx fun hs=>by
  obtain ⟨t',cs',hb,ht⟩:=hS g hs
  exact Blk.ne h hb (fun e=>ht (by simp [e])) rfl
def CO (base:Nat) (W:World) (y:JobV):Prop:=∃ A n c,y.2=.slice A n c∧W.ownsRow base 66 3 (.slice A n c) n (y.1.groups.flatMap Aq.cells)∧n=y.1.groups.length∧n≤1048576
theorem CO.keep {S:Nat→Prop} {base:Nat} {W W' : World} {y:JobV} (h:CO base W y) (hx:Ext S W W') (hS:Apart W S [66]):CO base W' y:=by
 obtain ⟨A,n,c,h1,h2,h3,h4⟩:=h
 exact ⟨A,n,c,h1,Ah h2 hx hS,h3,h4⟩
structure BU (base:Nat) (W:World) (v:Value) (ys:List JobV):Prop where
 own:W.ownsRow base 39 7 v ys.length (ys.flatMap JobV.cells)
 grp:∀ y∈ys,CO base W y
theorem BU.keep {S:Nat→Prop} {base:Nat} {W W' : World} {v:Value} {ys:List JobV} (h:BU base W v ys) (hx:Ext S W W') (hS:Apart W S [39,66]):BU base W' v ys :=
 ⟨Ah h.own hx (hS.less (by simp)),fun y hy=>(h.grp y hy).keep hx (hS.less (by simp))⟩
theorem BU.push {base:Nat} {W W' : World} {v v' : Value} {ys:List JobV} {y:JobV} (h:BU base W v ys) (hy:CO base W y) (ho:W'.ownsRow base 39 7 v' (ys.length+1) (ys.flatMap JobV.cells ++ JobV.cells y)) (hg:W.grownBy W' v.ownBlock):BU base W' v' (ys ++ [y]):=by
 have hx:Ext (fun q=>v.ownBlock=some q) W W':=Ext.Di hg (fun _ e=>e)
 refine ⟨by simpa using ho,fun z hz=>?_⟩
 have hz' : CO base W z:=by
  rcases List.mem_append.1 hz with hz|hz
  ·exact h.grp z hz
  rw [List.mem_singleton] at hz;subst hz;exact hy
 exact hz'.keep hx (Apart.row h.own (by decide))
theorem BU.base {b b' : Nat} {W:World} {v:Value} {ys:List JobV} (h:BU b W v ys) (hb:b'≤b):BU b' W v ys :=
 ⟨BB h.own hb,fun y hy=>by obtain ⟨A,n,c,h1,h2,h3,h4⟩:=h.grp y hy;exact ⟨A,n,c,h1,BB h2 hb,h3,h4⟩⟩
structure EJ (w:World) (s:Aa) (W:World) (cs:Array Value):Prop where
 ext:Ext Nothing w W
 src:Blk W w.heap.size 30 #[.int .i64 s.index,.int .i64 s.next,.slice s.AJ s.nJ s.cJ,.slice s.AS s.nS s.cS,.slice s.AN s.nN s.cN,.slice s.AA s.nA s.cA,.slice s.AE s.nE s.cE,.slice s.AD s.nD s.cD,.slice s.AX s.nX s.cX]
 res:Blk W (w.heap.size+1) 30 #[.int .i64 0,.int .i64 0,.slice none 0 0,.slice none 0 0,.slice none 0 0,.slice none 0 0,.slice none 0 0,.slice none 0 0,.slice none 0 0]
 out:Blk W (w.heap.size+1+1) 30 cs
theorem EJ.keep {S:Nat→Prop} {w:World} {s:Aa} {W W' : World} {cs:Array Value} (h:EJ w s W cs) (hx:Ext S W W') (hS:Apart W S [30]) (h0:∀ b,S b→w.heap.size≤b):EJ w s W' cs :=
 ⟨h.ext.trans hx (fun b hb e=>by have:=h0 b e;omega),Hz h.src hx hS,Hz h.res hx hS,Hz h.out hx hS⟩
theorem EJ.Aw {w:World} {s:Aa} {W W' : World} {cs:Array Value} (h:EJ w s W cs) (hx:Ext Nothing W W'):EJ w s W' cs:=h.keep hx Apart.none (fun _ e=>e.elim)
theorem EJ.grown {w:World} {s:Aa} {W W' : World} {cs:Array Value} {e sz n:Nat} {v:Value} {xs:List Value} (h:EJ w s W cs) (ho:W.ownsRow w.heap.size e sz v n xs) (he:e ≠ 30) (hg:W.grownBy W' v.ownBlock):EJ w s W' cs :=
 h.keep (Ext.Di (S:=fun q=>v.ownBlock=some q) hg (fun _ e=>e)) (Apart.row ho (by simpa using he)) (fun b hb=>Cj ho hb)
theorem EJ.put {w:World} {s:Aa} {W:World} {cs:Array Value} (h:EJ w s W cs) (i:Nat) (u:Value):EJ w s (W.setCell ⟨w.heap.size+1+1,i,none⟩ u) (cs.setIfInBounds i u):=by
 have hx:Ext (fun q=>q=w.heap.size+1+1) W (W.setCell ⟨w.heap.size+1+1,i,none⟩ u):=Ext.set1 _ _ _ _
 exact ⟨h.ext.trans hx (fun b hb e=>by omega),h.src.ext hx (by omega),h.res.ext hx (by omega),h.out.Bg i u⟩
def IJ (base:Nat) (W:World) (y:SeenV):Prop:=∃ A n c,y.2=.slice A n c∧W.ownsRow base 55 11 (.slice A n c) n (y.1.answer.allocs.flatMap Ac.cells)∧n=y.1.answer.allocs.length∧n≤1048576
theorem IJ.keep {S:Nat→Prop} {base:Nat} {W W' : World} {y:SeenV} (h:IJ base W y) (hx:Ext S W W') (hS:Apart W S [55]):IJ base W' y:=by
 obtain ⟨A,n,c,h1,h2,h3,h4⟩:=h
 exact ⟨A,n,c,h1,Ah h2 hx hS,h3,h4⟩
structure GY (base:Nat) (W:World) (v:Value) (ys:List SeenV):Prop where
 own:W.ownsRow base 89 5 v ys.length (ys.flatMap SeenV.cells)
 ans:∀ y∈ys,IJ base W y
theorem GY.keep {S:Nat→Prop} {base:Nat} {W W' : World} {v:Value} {ys:List SeenV} (h:GY base W v ys) (hx:Ext S W W') (hS:Apart W S [89,55]):GY base W' v ys :=
 ⟨Ah h.own hx (hS.less (by simp)),fun y hy=>(h.ans y hy).keep hx (hS.less (by simp))⟩
theorem GY.push {base:Nat} {W W' : World} {v v' : Value} {ys:List SeenV} {y:SeenV} (h:GY base W v ys) (hy:IJ base W y) (ho:W'.ownsRow base 89 5 v' (ys.length+1) (ys.flatMap SeenV.cells ++ SeenV.cells y)) (hg:W.grownBy W' v.ownBlock):GY base W' v' (ys ++ [y]):=by
 have hx:Ext (fun q=>v.ownBlock=some q) W W':=Ext.Di hg (fun _ e=>e)
 refine ⟨by simpa using ho,fun z hz=>?_⟩
 have hz' : IJ base W z:=by
  rcases List.mem_append.1 hz with hz|hz
  ·exact h.ans z hz
  rw [List.mem_singleton] at hz;subst hz;exact hy
 exact hz'.keep hx (Apart.row h.own (by decide))
structure Du (w:World) (s:Aa) (W:World) (vJ vS vN vA vE vD vX:Value) (ys zs:List JobV) (ns:List NodD) (as_:List Ac) (es:List EvalD) (ds:List DepD) (xs:List SeenV):Prop where
 i:EJ w s W #[.int .i64 s.index,.int .i64 s.next,vJ,vS,vN,vA,vE,vD,vX]
 j:BU w.heap.size W vJ ys
 t:BU w.heap.size W vS zs
 n:W.ownsRow w.heap.size 43 8 vN ns.length (ns.flatMap NodD.cells)
 a:W.ownsRow w.heap.size 55 11 vA as_.length (as_.flatMap Ac.cells)
 e:W.ownsRow w.heap.size 68 4 vE es.length (es.flatMap EvalD.cells)
 d:W.ownsRow w.heap.size 74 4 vD ds.length (ds.flatMap DepD.cells)
 x:GY w.heap.size W vX xs
section
variable {w:World} {s:Aa} {W W' : World} {vJ vS vN vA vE vD vX v' : Value} {ys zs:List JobV} {ns:List NodD} {as_:List Ac} {es:List EvalD} {ds:List DepD} {xs:List SeenV}
theorem Du.keep {S:Nat→Prop} (C:Du w s W vJ vS vN vA vE vD vX ys zs ns as_ es ds xs) (hx:Ext S W W') (hS:Apart W S [30,39,66,43,55,68,74,89]) (h0:∀ b,S b→w.heap.size≤b):Du w s W' vJ vS vN vA vE vD vX ys zs ns as_ es ds xs :=
 ⟨C.i.keep hx (hS.less (by decide)) h0,C.j.keep hx (hS.less (by decide)),C.t.keep hx (hS.less (by decide)),Ah C.n hx (hS.less (by decide)),Ah C.a hx (hS.less (by decide)),Ah C.e hx (hS.less (by decide)),Ah C.d hx (hS.less (by decide)),C.x.keep hx (hS.less (by decide))⟩
theorem Du.Aw (C:Du w s W vJ vS vN vA vE vD vX ys zs ns as_ es ds xs) (hx:Ext Nothing W W'):Du w s W' vJ vS vN vA vE vD vX ys zs ns as_ es ds xs:=C.keep hx Apart.none (fun _ e=>e.elim)
theorem Du.Ca (C:Du w s W vJ vS (.slice none 0 0) vA vE vD vX ys zs [] as_ es ds xs) {m:List NodD} (o:W'.ownsRow w.heap.size 43 8 v' m.length (m.flatMap NodD.cells)) (g:W.grownBy W' (Value.slice none 0 0).ownBlock):Du w s (W'.setCell ⟨w.heap.size+1+1,4,none⟩ v') vJ vS v' vA vE vD vX ys zs m as_ es ds xs:=by
 have hx:Ext Nothing W W':=Ext.Di g (fun b e=>by simp [Value.ownBlock] at e)
 have C1:=C.Aw hx
 have hp:Ext (fun q=>q=w.heap.size+1+1) W' (W'.setCell ⟨w.heap.size+1+1,4,none⟩ v'):=Ext.set1 _ _ _ _
 exact ⟨C1.i.put 4 v',C1.j.keep hp (Apart.one C1.i.out (by decide)),C1.t.keep hp (Apart.one C1.i.out (by decide)),Ah o hp (Apart.one C1.i.out (by decide)),Ah C1.a hp (Apart.one C1.i.out (by decide)),Ah C1.e hp (Apart.one C1.i.out (by decide)),Ah C1.d hp (Apart.one C1.i.out (by decide)),C1.x.keep hp (Apart.one C1.i.out (by decide))⟩
theorem Du.J2 (C:Du w s W vJ vS vN (.slice none 0 0) vE vD vX ys zs ns [] es ds xs) {m:List Ac} (o:W'.ownsRow w.heap.size 55 11 v' m.length (m.flatMap Ac.cells)) (g:W.grownBy W' (Value.slice none 0 0).ownBlock):Du w s (W'.setCell ⟨w.heap.size+1+1,5,none⟩ v') vJ vS vN v' vE vD vX ys zs ns m es ds xs:=by
 have hx:Ext Nothing W W':=Ext.Di g (fun b e=>by simp [Value.ownBlock] at e)
 have C1:=C.Aw hx
 have hp:Ext (fun q=>q=w.heap.size+1+1) W' (W'.setCell ⟨w.heap.size+1+1,5,none⟩ v'):=Ext.set1 _ _ _ _
 exact ⟨C1.i.put 5 v',C1.j.keep hp (Apart.one C1.i.out (by decide)),C1.t.keep hp (Apart.one C1.i.out (by decide)),Ah C1.n hp (Apart.one C1.i.out (by decide)),Ah o hp (Apart.one C1.i.out (by decide)),Ah C1.e hp (Apart.one C1.i.out (by decide)),Ah C1.d hp (Apart.one C1.i.out (by decide)),C1.x.keep hp (Apart.one C1.i.out (by decide))⟩
theorem Du.Bh (C:Du w s W vJ vS vN vA (.slice none 0 0) vD vX ys zs ns as_ [] ds xs) {m:List EvalD} (o:W'.ownsRow w.heap.size 68 4 v' m.length (m.flatMap EvalD.cells)) (g:W.grownBy W' (Value.slice none 0 0).ownBlock):Du w s (W'.setCell ⟨w.heap.size+1+1,6,none⟩ v') vJ vS vN vA v' vD vX ys zs ns as_ m ds xs:=by
 have hx:Ext Nothing W W':=Ext.Di g (fun b e=>by simp [Value.ownBlock] at e)
 have C1:=C.Aw hx
 have hp:Ext (fun q=>q=w.heap.size+1+1) W' (W'.setCell ⟨w.heap.size+1+1,6,none⟩ v'):=Ext.set1 _ _ _ _
 exact ⟨C1.i.put 6 v',C1.j.keep hp (Apart.one C1.i.out (by decide)),C1.t.keep hp (Apart.one C1.i.out (by decide)),Ah C1.n hp (Apart.one C1.i.out (by decide)),Ah C1.a hp (Apart.one C1.i.out (by decide)),Ah o hp (Apart.one C1.i.out (by decide)),Ah C1.d hp (Apart.one C1.i.out (by decide)),C1.x.keep hp (Apart.one C1.i.out (by decide))⟩
theorem Du.El (C:Du w s W vJ vS vN vA vE (.slice none 0 0) vX ys zs ns as_ es [] xs) {m:List DepD} (o:W'.ownsRow w.heap.size 74 4 v' m.length (m.flatMap DepD.cells)) (g:W.grownBy W' (Value.slice none 0 0).ownBlock):Du w s (W'.setCell ⟨w.heap.size+1+1,7,none⟩ v') vJ vS vN vA vE v' vX ys zs ns as_ es m xs:=by
 have hx:Ext Nothing W W':=Ext.Di g (fun b e=>by simp [Value.ownBlock] at e)
 have C1:=C.Aw hx
 have hp:Ext (fun q=>q=w.heap.size+1+1) W' (W'.setCell ⟨w.heap.size+1+1,7,none⟩ v'):=Ext.set1 _ _ _ _
 exact ⟨C1.i.put 7 v',C1.j.keep hp (Apart.one C1.i.out (by decide)),C1.t.keep hp (Apart.one C1.i.out (by decide)),Ah C1.n hp (Apart.one C1.i.out (by decide)),Ah C1.a hp (Apart.one C1.i.out (by decide)),Ah C1.e hp (Apart.one C1.i.out (by decide)),Ah o hp (Apart.one C1.i.out (by decide)),C1.x.keep hp (Apart.one C1.i.out (by decide))⟩
end
structure Gx (base:Nat) (W:World) (s s' : Aa):Prop where
 index:s'.index=s.index
 next:s'.next=s.next
 j:BU base W (.slice s'.AJ s'.nJ s'.cJ) s'.jobs
 jl:s'.nJ=s'.jobs.length
 jm:s'.jobs.map (·.1)=s.jobs.map (·.1)
 t:BU base W (.slice s'.AS s'.nS s'.cS) s'.stable
 tl:s'.nS=s'.stable.length
 tm:s'.stable.map (·.1)=s.stable.map (·.1)
 n:W.ownsRow base 43 8 (.slice s'.AN s'.nN s'.cN) s'.nodes.length (s'.nodes.flatMap NodD.cells)
 nl:s'.nN=s'.nodes.length
 nm:s'.nodes=s.nodes
 a:W.ownsRow base 55 11 (.slice s'.AA s'.nA s'.cA) s'.allocs.length (s'.allocs.flatMap Ac.cells)
 al:s'.nA=s'.allocs.length
 am:s'.allocs=s.allocs
 e:W.ownsRow base 68 4 (.slice s'.AE s'.nE s'.cE) s'.evals.length (s'.evals.flatMap EvalD.cells)
 el:s'.nE=s'.evals.length
 em:s'.evals=s.evals
 d:W.ownsRow base 74 4 (.slice s'.AD s'.nD s'.cD) s'.deploys.length (s'.deploys.flatMap DepD.cells)
 dl:s'.nD=s'.deploys.length
 dm:s'.deploys=s.deploys
 x:GY base W (.slice s'.AX s'.nX s'.cX) s'.seen
 xl:s'.nX=s'.seen.length
 xm:s'.seen.map (·.1)=s.seen.map (·.1)
 sep:∀ q,(Value.slice s'.AJ s'.nJ s'.cJ).ownBlock=some q→(Value.slice s'.AS s'.nS s'.cS).ownBlock ≠ some q
theorem FE {α β:Type} {l l' : List (α × β)} (h:l'.map (·.1)=l.map (·.1)) {y:α × β} (hy:y∈l'):∃ x∈l,x.1=y.1:=by
 have:y.1∈l'.map (·.1):=List.mem_map_of_mem hy
 rw [h] at this
 obtain ⟨x,hx,e⟩:=List.mem_map.1 this
 exact ⟨x,hx,e⟩
theorem Ob {base:Nat} {w W:World} {v:Value} {ys l:List JobV} (h:BU base W v ys) (hm:ys.map (·.1)=l.map (·.1)) (hl:∀ x∈l,JobV.ok w x):∀ y∈ys,JobV.ok W y:=fun y hy=>by
 obtain ⟨x,hx,e⟩:=FE hm hy
 obtain ⟨h0,_,_,_,_,_,hg,_⟩:=hl x hx
 obtain ⟨A,n,c,h1,h2,h3,h4⟩:=h.grp y hy
 exact ⟨e ▸ h0,A,n,c,h1,Sl.Be (fun _=>rfl) h2 h3,e ▸ hg,h4⟩
theorem Ri {base:Nat} {w W:World} {v:Value} {ys l:List SeenV} (h:GY base W v ys) (hm:ys.map (·.1)=l.map (·.1)) (hl:∀ x∈l,SeenV.ok w x):∀ y∈ys,SeenV.ok W y:=fun y hy=>by
 obtain ⟨x,hx,e⟩:=FE hm hy
 obtain ⟨h0,_,_,_,_,_,hg,_⟩:=hl x hx
 obtain ⟨A,n,c,h1,h2,h3,h4⟩:=h.ans y hy
 exact ⟨e ▸ h0,A,n,c,h1,Sl.Be (fun _=>rfl) h2 h3,e ▸ hg,h4⟩
theorem Gx.ok {base:Nat} {w W:World} {s s' : Aa} (C:Gx base W s s') (h:s.Ok w):s'.Ok W:=by
 have e1:s'.jobs.length=s.jobs.length:=by have:=congrArg List.length C.jm;simpa using this
 have e2:s'.stable.length=s.stable.length:=by have:=congrArg List.length C.tm;simpa using this
 have e3:s'.seen.length=s.seen.length:=by have:=congrArg List.length C.xm;simpa using this
 have l1:=h.sJ.len
 have l2:=h.sS.len
 have l3:=h.sX.len
 have l4:=h.sN.len
 have l5:=h.sA.len
 have l6:=h.sE.len
 have l7:=h.sD.len
 have m1:=h.mJ
 have m2:=h.mS
 have m3:=h.mX
 have m4:=h.mN
 have m5:=h.mA
 have m6:=h.mE
 have m7:=h.mD
 refine ⟨Sl.Be (fun _=>rfl) (by rw [C.jl];exact C.jl ▸ C.j.own) C.jl,Ob C.j C.jm h.kJ,by rw [C.jl];omega,Sl.Be (fun _=>rfl) (by rw [C.tl];exact C.tl ▸ C.t.own) C.tl,Ob C.t C.tm h.kS,by rw [C.tl];omega,
  Sl.Be (fun _=>rfl) (by rw [C.nl];exact C.nl ▸ C.n) C.nl,C.nm ▸ h.kN,by rw [C.nl,C.nm];omega,Sl.Be (fun _=>rfl) (by rw [C.al];exact C.al ▸ C.a) C.al,C.am ▸ h.kA,by rw [C.al,C.am];omega,
  Sl.Be (fun _=>rfl) (by rw [C.el];exact C.el ▸ C.e) C.el,C.em ▸ h.kE,by rw [C.el,C.em];omega,Sl.Be (fun _=>rfl) (by rw [C.dl];exact C.dl ▸ C.d) C.dl,C.dm ▸ h.kD,by rw [C.dl,C.dm];omega,
  Sl.Be (fun _=>rfl) (by rw [C.xl];exact C.xl ▸ C.x.own) C.xl,Ri C.x C.xm h.kX,by rw [C.xl];omega⟩
end
section
open Go.RowKit
structure Bi where
 op:Int
 client:Int
 req:Int
 job:Ak
 node:NodD
 reports:List (Int × Int)
 plan:Su
deriving DecidableEq
namespace Fsm
def AB (s:Ab) (id:Int):Option Ak:=s.jobs.find? (fun j=>j.id == id)
def nodeAt (s:Ab) (id:Int):Option NodD:=s.nodes.find? (fun n=>n.id == id)
def FK (s:Ab) (job:Int):Option DepD:=s.deploys.find? (fun d=>d.job == job)
def BV (s:Ab) (id:Int):Option Ak:=s.stable.find? (fun j=>j.id == id)
def JN (s:Ab) (job:Int):Option EvalD:=s.evals.find? (fun e=>e.job == job)
def Aj {α:Type} (key:α→Int) (x:α):List α→List α
 | []=>[x]
 | y :: r=>if key x≤key y then x :: (y :: r).filter (fun z=>!(key z == key x)) else y :: Aj key x r
def turn1 {α:Type} (p:α→Bool) (f:α→α):List α→List α
 | []=>[]
 | y :: r=>if p y then f y :: r else y :: turn1 p f r
def no (s:Ab) (e:Int):Ab × AR:=(s,⟨e,0,[]⟩)
def eval (s:Ab) (job:Int):Ab :=
 match AB s job with
 | none=>s
 | some j=>{ s with evals:=Aj EvalD.job ⟨job,j.prio,1,s.index⟩ s.evals }
def Br (ix:Int) (e:EvalD):EvalD:=if e.state == 2 || e.state == 1 then { e with state:=1,index:=ix } else e
def came (s:Ab):Ab:={ s with evals:=s.evals.map (Br s.index) }
def system (s:Ab):Ab:=s.jobs.foldl (fun t j=>if j.ty == 3 && !j.stopped then eval t j.id else t) s
def Ef (j:Ak):List (Int × Int):=j.groups.zipIdx.flatMap (fun p=>(List.range (GL p.1)).map (fun i:Nat=>((p.2:Int),(i:Int))))
def Lt (l:List Ac) (j:Ak) (x:Int × Int):Bool :=
 match l.find? (Co j.id x.1 x.2) with
 | none=>false
 | some a=>a.ver == j.ver && a.state == 2 && !a.stop
def FV (s:Ab) (j:Ak):Bool:=j.ty == 3 || (Ef j).all (Lt s.allocs j)
def AQ (s:Ab) (i:Nat):Ab :=
 match s.deploys[i]? with
 | none=>s
 | some d=>match AB s d.job with
  | none=>s
  | some j=>if d.state == 1 && j.ver == d.ver && FV s j then { s with deploys:=s.deploys.set i { d with state:=2 },stable:=Aj Ak.id j s.stable } else s
def looked (s:Ab):Ab:=(List.range s.deploys.length).foldl AQ s
def begins (s:Ab) (j:Ak):Ab :=
 let s1:Ab:={ s with jobs:=Aj Ak.id j s.jobs }
 let s2:Ab:=if j.ty == 1 then looked { s1 with deploys:=Aj DepD.job ⟨j.id,j.ver,1,s1.index⟩ s1.deploys } else s1
 eval s2 j.id
def AV (node:Int) (s:Ab) (i:Nat):Ab :=
 match s.allocs[i]? with
 | none=>s
 | some a=>if a.node == node && !overB a then eval { s with allocs:=s.allocs.set i { a with state:=6 } } a.job else s
def lost (s:Ab) (node:Int):Ab:=(List.range s.allocs.length).foldl (AV node) s
def BC:Int:=1099511627776
def BH (ty:Int) (g:Aq):Bool:=decide (0≤g.count) && decide (g.count≤4) && decide (0≤g.ask.cpu) && decide (g.ask.cpu≤BC) && decide (0≤g.ask.mem) && decide (g.ask.mem≤BC) && !(ty == 3 && !(g.count == 1))
def DX (j:Ak):Bool:=decide (1≤j.id) && decide (j.id≤BC) && decide (1≤j.ty) && decide (j.ty≤3) && decide (1≤j.prio) && decide (j.prio≤100) && decide (1≤j.par) && decide (j.par≤8) && decide (1≤j.groups.length) && decide (j.groups.length≤2) && j.groups.all (BH j.ty)
def Cb (n:NodD):Bool:=decide (1≤n.id) && decide (n.id≤4) && decide (0≤n.cap.cpu) && decide (n.cap.cpu≤BC) && decide (0≤n.cap.mem) && decide (n.cap.mem≤BC) && decide (1≤n.boot) && decide (n.boot≤BC)
def BK (s:Ab) (c:Bi):Ab × AR :=
 if !DX c.job then no s 30 else
 match AB s c.job.id with
 | some h=>if !(h.ty == c.job.ty) || decide (BC≤h.ver) then no s 30 else
   (begins s { c.job with stopped:=false,ver:=wrap64 (h.ver+1) },⟨0,wrap64 (h.ver+1),[]⟩)
 | none=>if 6≤s.jobs.length then no s 2 else (begins s { c.job with stopped:=false,ver:=1 },⟨0,1,[]⟩)
def cancel (s:Ab) (c:Bi):Ab × AR :=
 match AB s c.job.id with
 | none=>no s 36
 | some _=>(eval { s with jobs:=turn1 (fun j=>j.id == c.job.id) (fun j=>{ j with stopped:=true }) s.jobs,deploys:=turn1 (fun d=>d.job == c.job.id) (fun d=>if d.state == 1 then { d with state:=3 } else d) s.deploys } c.job.id,⟨0,0,[]⟩)
def joins (s:Ab) (n:NodD):Ab:=came (system (lost { s with nodes:=Aj NodD.id n s.nodes } n.id))
def register (s:Ab) (c:Bi):Ab × AR :=
 if !Cb c.node then no s 31 else
 match nodeAt s c.node.id with
 | none=>(joins s ⟨c.node.id,c.node.cap,true,false,c.node.boot,1,0⟩,⟨0,1,[]⟩)
 | some h=>if c.node.boot < h.boot then no s 33 else
   if h.boot == c.node.boot then (if h.up then (s,⟨0,h.epoch,[]⟩) else no s 33) else
   (joins s ⟨c.node.id,c.node.cap,true,h.drain,c.node.boot,wrap64 (h.epoch+1),0⟩,⟨0,wrap64 (h.epoch+1),[]⟩)
def takes (n:NodD) (a:Ac) (st:Int):Bool:=a.node == n.id && a.epoch == n.epoch && !overB a && decide (a.state < st) && decide (2≤st) && decide (st≤5) && !(st == 5 && !a.stop)
def report (n:NodD) (z:Ab × Bool) (r:Int × Int):Ab × Bool :=
 match z.1.allocs.find? (fun a=>a.id == r.1) with
 | none=>z
 | some a=>if !takes n a r.2 then z else
   let s:Ab:={ z.1 with allocs:=turn1 (fun a=>a.id == r.1) (fun a=>{ a with state:=r.2 }) z.1.allocs }
   if 3≤r.2 then (eval s a.job,true) else
   match AB s a.job with
   | none=>(s,z.2)
   | some j=>if !(j.ty == 1) then (s,z.2) else
     let t:=eval s a.job
     ({ t with deploys:=turn1 (fun d=>d.job == a.job) (fun d=>if d.state == 1 && d.ver == a.ver then { d with index:=t.index } else d) t.deploys },z.2)
def Dv (s:Ab) (c:Bi):Ab × AR :=
 if 64 < c.reports.length || decide (c.node.seq < 1) || decide (BC < c.node.seq) then no s 1 else
 match nodeAt s c.node.id with
 | none=>no s 31
 | some h=>if !h.up || !(h.epoch == c.node.epoch) then no s 32 else if c.node.seq≤h.seq then no s 33 else
   let s1:Ab:={ s with nodes:=turn1 (fun n=>n.id == c.node.id) (fun n=>{ n with seq:=c.node.seq }) s.nodes }
   let z:=c.reports.foldl (report c.node) (s1,false)
   let s2:=looked z.1
   let s3:=if z.2 then came s2 else s2
   (s3,⟨0,c.node.epoch,s3.allocs.filter (fun a=>a.node == c.node.id && !overB a)⟩)
def down (s:Ab) (c:Bi):Ab × AR :=
 match nodeAt s c.node.id with
 | none=>no s 31
 | some h=>if !h.up || !(h.epoch == c.node.epoch) then no s 32 else if !(h.seq == c.node.seq) then no s 33 else
   (system (lost { s with nodes:=turn1 (fun n=>n.id == c.node.id) (fun n=>{ n with up:=false,epoch:=wrap64 (n.epoch+1) }) s.nodes } c.node.id),⟨0,0,[]⟩)
def drain (s:Ab) (c:Bi):Ab × AR :=
 match nodeAt s c.node.id with
 | none=>no s 31
 | some h =>
   let s1:Ab:={ s with nodes:=turn1 (fun n=>n.id == c.node.id) (fun n=>{ n with drain:=c.node.drain }) s.nodes }
   let s2:=s1.allocs.foldl (fun t a=>if a.node == c.node.id && !overB a then eval t a.job else t) s1
   let s3:=system s2
   (if c.node.drain then s3 else came s3,⟨0,0,[]⟩)
def ED (s:Ab) (j:Ak) (n:NodD) (x:Ac):Bool :=
 x.job == j.id && x.ver == j.ver && x.epoch == n.epoch && decide (0≤x.group) &&
 (match j.groups[x.group.toNat]? with
  | none=>false
  | some g=>decide (x.ask=g.ask) && (if j.ty == 3 then x.index == n.id else decide (0≤x.index) && decide (x.index < g.count))) &&
 !s.allocs.any (fun a=>a.job == j.id && a.group == x.group && a.index == x.index && (!overB a || (j.ty == 2 && a.ver == j.ver && a.state == 3))) &&
 IB (DY s.allocs n.id) x.ask n.cap
def placed (s:Ab) (j:Ak) (n:NodD) (x:Ac):Ab :=
 { s with allocs:=s.allocs ++ [⟨s.next,j.id,j.ver,x.group,x.index,n.id,n.epoch,x.ask,false,1⟩],next:=wrap64 (s.next+1) }
def AZ (j:Ak) (n:NodD) (o:Option Ab) (x:Ac):Option Ab:=match o with|none=>none|some t=>if ED t j n x then some (placed t j n x) else none
def placeAll (j:Ak) (n:NodD) (l:List Ac) (s:Ab):Option Ab:=l.foldl (AZ j n) (some s)
def Cg (jobs:List Ak) (a:Ac):Bool:=!overB a || (a.state == 3 && (match jobs.find? (fun j=>j.id == a.job) with|none=>false|some j=>j.ty == 2 && j.ver == a.ver))
def CX (jobs:List Ak):Nat→List Ac→Option (List Ac)
 | 0,l=>if l.length≤64 then some l else none
 | n+1,l=>if l.length≤64 then some l else
   match l.findIdx? (fun a=>!Cg jobs a) with
   | none=>none
   | some k=>CX jobs n (l.eraseIdx k)
def places (s:Ab) (j:Ak) (node:Int) (l:List Ac):Ab × Bool :=
 match nodeAt s node with
 | none=>(s,false)
 | some n=>if !n.up || n.drain || j.stopped then (s,false) else
   match placeAll j n (l.filter (fun x=>x.node == node)) s with
   | none=>(s,false)
   | some t=>match CX t.jobs t.allocs.length t.allocs with
    | none=>(s,false)
    | some m=>({ t with allocs:=m },true)
def IX (x:Int):List Int→List Int
 | []=>[x]
 | y :: r=>if x < y then x :: y :: r else if x=y then y :: r else y :: IX x r
def Bw (l:List Ac):List Int:=l.foldr (fun x r=>IX x.node r) []
def stops (job:Int) (l:List Ac) (ids:List Int):List Ac :=
 ids.foldl (fun m id=>turn1 (fun a=>a.id == id) (fun a=>if a.job == job && !overB a then { a with stop:=true } else a) m) l
def plan (s:Ab) (c:Bi):Ab × AR :=
 let p:=c.plan
 match AB s p.job,JN s p.job with
 | some j,some e=>if !(j.ver == p.ver) || !(e.state == 1) || !(e.index == p.index) then no s 34 else
   let z:=(Bw p.places).foldl (fun z n=>let y:=places z.1 j n p.places;(y.1,z.2 && y.2)) (({ s with allocs:=stops p.job s.allocs p.stops }:Ab),true)
   if !z.2 then ({ z.1 with evals:=turn1 (fun e=>e.job == p.job) (fun e=>{ e with index:=s.index }) z.1.evals },⟨35,s.index,[]⟩)
   else ({ z.1 with evals:=turn1 (fun e=>e.job == p.job) (fun e=>{ e with state:=if p.blocked then 2 else 3 }) z.1.evals },⟨0,s.index,[]⟩)
 | _,_=>no s 34
def Em (a b:Ak):Bool:=a.id == b.id && a.ty == b.ty && a.prio == b.prio && a.par == b.par && decide (a.groups=b.groups)
def revert (s:Ab) (c:Bi):Ab × AR :=
 match AB s c.job.id with
 | none=>no s 36
 | some j=>match FK s j.id with
  | none=>no s 33
  | some d=>if !(j.ver == c.job.ver) || !(d.state == 1) || !(d.ver == j.ver) then no s 33 else
    let f:Ab:={ s with deploys:=turn1 (fun d=>d.job == j.id) (fun d=>{ d with state:=3 }) s.deploys }
    match BV s j.id with
    | none=>(eval f j.id,⟨0,j.ver,[]⟩)
    | some x=>if Em x j then (eval f j.id,⟨0,j.ver,[]⟩) else if BC≤j.ver then no s 33 else
      (begins f { x with ver:=wrap64 (j.ver+1),stopped:=false },⟨0,wrap64 (j.ver+1),[]⟩)
def command (s:Ab) (c:Bi):Ab × AR :=
 if c.op=1 ∨ c.op=2 then (s,⟨0,0,[]⟩) else
 if c.op=3 then BK s c else if c.op=4 then cancel s c else if c.op=5 then register s c else
 if c.op=6 then Dv s c else if c.op=7 then down s c else if c.op=8 then drain s c else
 if c.op=9 then plan s c else if c.op=10 then revert s c else no s 50
def apply (s0:Ab) (index:Int) (c:Bi):Ab × AR :=
 let s:Ab:={ s0 with index:=index }
 if !(c.op == 3 || c.op == 4 || c.op == 8) || c.client == 0 then command s c else
 if c.client < 1 ∨ 4 < c.client ∨ c.req < 1 ∨ BC < c.req then no s 1 else
 match s.seen.find? (fun x=>x.client == c.client && decide (c.req≤x.req)) with
 | some x=>if c.req < x.req then no s 33 else (s,x.answer)
 | none =>
   let z:=command s c
   ({ z.1 with seen:=Aj Cr.client ⟨c.client,c.req,z.2⟩ z.1.seen },z.2)
def new:Ab:=⟨0,1,[],[],[],[],[],[],[]⟩
def grown (l:List Bi):Ab:=(l.zipIdx).foldl (fun s p=>(apply s ((p.2:Int)+1) p.1).1) new
end Fsm
end
end Go.Proofs.YtccekmeifanipaaGreat
