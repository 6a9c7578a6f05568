/- Parts of the proof: Low Spec2 Slot DiffF SchedR RefJob CopyL -/
import Derived.Test.YtccekmeifanipaaGreatT06
import Derived.Test.YtccekmeifanipaaGreatT02
import Derived.Test.YtccekmeifanipaaGreatT03
namespace Go.Proofs.YtccekmeifanipaaGreat
set_option linter.unusedVariables false
set_option linter.unusedSimpArgs false
set_option linter.unusedSectionVars false
section
open Go.RowKit
def In64 (a:Int):Prop:=-9223372036854775808≤a∧a≤9223372036854775807
theorem laidOut:laidOutB Tryz.prog=true:=by kernel_rfl
theorem Bj {w:World} {base base' e sz n:Nat} {v:Value} {xs:List Value} (h:w.ownsRow base e sz v n xs) (hb:base'≤base):w.ownsRow base' e sz v n xs:=by
 refine ⟨h.1,?_⟩
 rcases h.2 with hn|⟨g,cap,cur,rfl,hg,rest⟩
 ·exact .inl hn
 exact .inr ⟨g,cap,cur,rfl,by omega,rest⟩
theorem Sl.old {w:World} {sz n:Nat} {A:Option Addr} {xs:List (List Value)} (h:Sl w sz A n xs) (h0:0 < sz) {b:Nat} (hb:A.map (·.block)=some b) (hge:w.heap.size≤b):xs=[]:=by
 cases hx:xs with
 | nil=>rfl
 | cons y r =>
  obtain ⟨b',off,hA,hl,hc⟩:=h.2 0 y (by rw [hx];rfl)
  rw [hA] at hb
  cases hb
  have:=World.block_lt_of_cell? w _ (hc 0 _ (List.getElem?_eq_getElem (by omega)))
  have e2:b' < w.heap.size:=this
  have e3:w.heap.size≤b':=hge
  omega
end
section
open Go.RowKit
theorem add_lit (a b c d:Int) (w:World):Calls Tryz.prog 149 #[.agg #[.int .i64 a,.int .i64 b],.agg #[.int .i64 c,.int .i64 d]] w fun e w' =>
  e=.returned (.tuple #[.agg #[.int .i64 (Jd (Dc ⟨a,b⟩ ⟨c,d⟩)).cpu,.int .i64 (Jd (Dc ⟨a,b⟩ ⟨c,d⟩)).mem],.bool (Dc ⟨a,b⟩ ⟨c,d⟩).isSome])∧Ext Nothing w w':=Px ⟨a,b⟩ ⟨c,d⟩ w
def Bv (a:Ac):Bool:=decide (3≤a.state)
theorem Bt (cs:Array Value) (st:Int) (w:World) (hs:cs.size=11) (hst:cs[10]? = some (.int .i64 st)) :
  Calls Tryz.prog 74 #[.agg cs] w fun e w'=>e=.returned (.bool (decide (3≤st)))∧Ext Nothing w w':=by
 have hB:Blk (w.alloc (.cells cs 55)) w.heap.size 55 cs:=Blk.new _ _ _
 have q:(w.alloc (.cells cs 55)).cell? ⟨w.heap.size,10,none⟩=some (.int .i64 st):=(hB.cell 10).trans hst
 have hx:Ext Nothing w (w.alloc (.cells cs 55)):=Ext.Ay
 clear hst
 go_enter Tryz.func74,Tryz.ntmps74
 go_wp2
 go_ret
 exact ⟨rfl,hx⟩
theorem N7 (u a m:Cg) (w:World):Calls Tryz.prog 133 #[u.v,a.v,m.v] w fun e w'=>e=.returned (.bool (GY u a m))∧Ext Nothing w w':=by
 obtain ⟨u1,u2⟩:=u
 obtain ⟨a1,a2⟩:=a
 obtain ⟨m1,m2⟩:=m
 simp only [Cg.v]
 have hx0:Ext Nothing w (((w.alloc (.cells #[.int .i64 u1,.int .i64 u2] 41)).alloc (.cells #[.int .i64 a1,.int .i64 a2] 41)).alloc (.cells #[.int .i64 m1,.int .i64 m2] 41)):=Ext.Ay
 have hC:Blk (((w.alloc (.cells #[.int .i64 u1,.int .i64 u2] 41)).alloc (.cells #[.int .i64 a1,.int .i64 a2] 41)).alloc (.cells #[.int .i64 m1,.int .i64 m2] 41)) (w.heap.size+1+1) 41 #[.int .i64 m1,.int .i64 m2]:=Blk.new' _ _ _ (by simp)
 obtain ⟨o,ho⟩ : ∃ o,Dc ⟨u1,u2⟩ ⟨a1,a2⟩=o:=⟨_,rfl⟩
 have hf:GY ⟨u1,u2⟩ ⟨a1,a2⟩ ⟨m1,m2⟩=MN o ⟨m1,m2⟩:=by rw [GY,ho]
 have HO:=Lib.hid ho
 have HF:=Lib.hid hf
 clear ho hf
 cases o with
 | none =>
  rw [show MN none ⟨m1,m2⟩=false from rfl] at HF
  go_enter Tryz.func133,Tryz.ntmps133
  go_wp2_with (go_at_call 149;refine (add_lit _ _ _ _ _).mono ?_;rintro e wn ⟨rfl,hn⟩;rw [HO.out];simp only [Jd,Option.getD,Option.isSome])
  go_ret
  exact ⟨by rw [HF.out];rfl,by (with_reducible repeat' first|assumption|exact Ext.refl _ _|refine Ext.alloc ?_ _|refine Ext.drew ?_|refine Ext.drewN ?_ _|refine xS ?_ (by simp only [World.size_alloc,World.size_setCell,World.size_drew] <;> omega) _|refine Ext.tr ?_ (by assumption))⟩
 | some s =>
  obtain ⟨s1,s2⟩:=s
  rw [show MN (some ⟨s1,s2⟩) ⟨m1,m2⟩=(decide (s1≤m1) && decide (s2≤m2)) from rfl] at HF
  by_cases h1:s1≤m1
  ·by_cases h2:s2≤m2
   ·have e:(decide (s1≤m1) && decide (s2≤m2))=true:=by simp [h1,h2]
    rw [e] at HF
    clear e
    go_enter Tryz.func133,Tryz.ntmps133
    go_wp2_with (go_at_call 149;refine (add_lit _ _ _ _ _).mono ?_;rintro e wn ⟨rfl,hn⟩;rw [HO.out];simp only [Jd,Option.getD,Option.isSome];have hC1:Blk (wn.alloc (.cells #[.int .i64 s1,.int .i64 s2] 41)) (w.heap.size+1+1) 41 #[.int .i64 m1,.int .i64 m2]:=hC.ext (S:=Nothing) (by (with_reducible repeat' first|assumption|exact Ext.refl _ _|refine Ext.alloc ?_ _|refine Ext.drew ?_|refine Ext.drewN ?_ _|refine xS ?_ (by simp only [World.size_alloc,World.size_setCell,World.size_drew] <;> omega) _|refine Ext.tr ?_ (by assumption))) (fun e=>e);have q0:(wn.alloc (.cells #[.int .i64 s1,.int .i64 s2] 41)).cell? ⟨w.heap.size+1+1,0,none⟩=some (.int .i64 m1):=hC1.cell 0;have q1:(wn.alloc (.cells #[.int .i64 s1,.int .i64 s2] 41)).cell? ⟨w.heap.size+1+1,1,none⟩=some (.int .i64 m2):=hC1.cell 1)
    go_ret
    exact ⟨by rw [HF.out];rfl,by (with_reducible repeat' first|assumption|exact Ext.refl _ _|refine Ext.alloc ?_ _|refine Ext.drew ?_|refine Ext.drewN ?_ _|refine xS ?_ (by simp only [World.size_alloc,World.size_setCell,World.size_drew] <;> omega) _|refine Ext.tr ?_ (by assumption))⟩
   have e:(decide (s1≤m1) && decide (s2≤m2))=false:=by simp [h2]
   rw [e] at HF
   clear e
   go_enter Tryz.func133,Tryz.ntmps133
   go_wp2_with (go_at_call 149;refine (add_lit _ _ _ _ _).mono ?_;rintro e wn ⟨rfl,hn⟩;rw [HO.out];simp only [Jd,Option.getD,Option.isSome];have hC1:Blk (wn.alloc (.cells #[.int .i64 s1,.int .i64 s2] 41)) (w.heap.size+1+1) 41 #[.int .i64 m1,.int .i64 m2]:=hC.ext (S:=Nothing) (by (with_reducible repeat' first|assumption|exact Ext.refl _ _|refine Ext.alloc ?_ _|refine Ext.drew ?_|refine Ext.drewN ?_ _|refine xS ?_ (by simp only [World.size_alloc,World.size_setCell,World.size_drew] <;> omega) _|refine Ext.tr ?_ (by assumption))) (fun e=>e);have q0:(wn.alloc (.cells #[.int .i64 s1,.int .i64 s2] 41)).cell? ⟨w.heap.size+1+1,0,none⟩=some (.int .i64 m1):=hC1.cell 0;have q1:(wn.alloc (.cells #[.int .i64 s1,.int .i64 s2] 41)).cell? ⟨w.heap.size+1+1,1,none⟩=some (.int .i64 m2):=hC1.cell 1)
   go_ret
   exact ⟨by rw [HF.out];rfl,by (with_reducible repeat' first|assumption|exact Ext.refl _ _|refine Ext.alloc ?_ _|refine Ext.drew ?_|refine Ext.drewN ?_ _|refine xS ?_ (by simp only [World.size_alloc,World.size_setCell,World.size_drew] <;> omega) _|refine Ext.tr ?_ (by assumption))⟩
  have e:(decide (s1≤m1) && decide (s2≤m2))=false:=by simp [h1]
  rw [e] at HF
  clear e
  go_enter Tryz.func133,Tryz.ntmps133
  go_wp2_with (go_at_call 149;refine (add_lit _ _ _ _ _).mono ?_;rintro e wn ⟨rfl,hn⟩;rw [HO.out];simp only [Jd,Option.getD,Option.isSome];have hC1:Blk (wn.alloc (.cells #[.int .i64 s1,.int .i64 s2] 41)) (w.heap.size+1+1) 41 #[.int .i64 m1,.int .i64 m2]:=hC.ext (S:=Nothing) (by (with_reducible repeat' first|assumption|exact Ext.refl _ _|refine Ext.alloc ?_ _|refine Ext.drew ?_|refine Ext.drewN ?_ _|refine xS ?_ (by simp only [World.size_alloc,World.size_setCell,World.size_drew] <;> omega) _|refine Ext.tr ?_ (by assumption))) (fun e=>e);have q0:(wn.alloc (.cells #[.int .i64 s1,.int .i64 s2] 41)).cell? ⟨w.heap.size+1+1,0,none⟩=some (.int .i64 m1):=hC1.cell 0;have q1:(wn.alloc (.cells #[.int .i64 s1,.int .i64 s2] 41)).cell? ⟨w.heap.size+1+1,1,none⟩=some (.int .i64 m2):=hC1.cell 1)
  go_ret
  exact ⟨by rw [HF.out];rfl,by (with_reducible repeat' first|assumption|exact Ext.refl _ _|refine Ext.alloc ?_ _|refine Ext.drew ?_|refine Ext.drewN ?_ _|refine xS ?_ (by simp only [World.size_alloc,World.size_setCell,World.size_drew] <;> omega) _|refine Ext.tr ?_ (by assumption))⟩
end
section
open Go.RowKit
def Ce (j g i:Int) (a:Ac):Bool:=a.job == j && a.group == g && a.index == i && !Bv a
theorem Ol (x:Ac) (b1 b2 b3:Nat) (j g i:Int) (w:World) (h1:Blk w b1 3 #[.int .i64 j]) (h2:Blk w b2 3 #[.int .i64 g]) (h3:Blk w b3 3 #[.int .i64 i]) :
  Calls Tryz.prog 142 #[.agg (Ac.cells x).toArray,.pointer (some ⟨b1,0,none⟩),.pointer (some ⟨b2,0,none⟩),.pointer (some ⟨b3,0,none⟩)] w fun e w'=>e=.returned (.bool (Ce j g i x))∧Ext Nothing w w':=by
 obtain ⟨x0,x1,x2,x3,x4,x5,x6,⟨x7,x8⟩,x9,x10⟩:=x
 have hx0:Ext Nothing w (w.alloc (.cells #[.int .i64 x0,.int .i64 x1,.int .i64 x2,.int .i64 x3,.int .i64 x4,.int .i64 x5,.int .i64 x6,.int .i64 x7,.int .i64 x8,.bool x9,.int .i64 x10] 55)):=Ext.Ay
 have q1:(w.alloc (.cells #[.int .i64 x0,.int .i64 x1,.int .i64 x2,.int .i64 x3,.int .i64 x4,.int .i64 x5,.int .i64 x6,.int .i64 x7,.int .i64 x8,.bool x9,.int .i64 x10] 55)).cell? ⟨b1,0,none⟩=some (.int .i64 j):=hx0.cell (h1.cell 0) (fun e=>e)
 have q2:(w.alloc (.cells #[.int .i64 x0,.int .i64 x1,.int .i64 x2,.int .i64 x3,.int .i64 x4,.int .i64 x5,.int .i64 x6,.int .i64 x7,.int .i64 x8,.bool x9,.int .i64 x10] 55)).cell? ⟨b2,0,none⟩=some (.int .i64 g):=hx0.cell (h2.cell 0) (fun e=>e)
 have q3:(w.alloc (.cells #[.int .i64 x0,.int .i64 x1,.int .i64 x2,.int .i64 x3,.int .i64 x4,.int .i64 x5,.int .i64 x6,.int .i64 x7,.int .i64 x8,.bool x9,.int .i64 x10] 55)).cell? ⟨b3,0,none⟩=some (.int .i64 i):=hx0.cell (h3.cell 0) (fun e=>e)
 simp only [Ac.cells]
 clear h1 h2 h3
 by_cases e1:x1=j
 ·subst e1
  by_cases e2:x3=g
  ·subst e2
   by_cases e3:x4=i
   ·subst e3
    have e:Ce x1 x3 x4 ⟨x0,x1,x2,x3,x4,x5,x6,⟨x7,x8⟩,x9,x10⟩=!(decide (3≤x10)):=by simp [Ce,Bv]
    have H:=Lib.hid e
    clear e
    go_enter Tryz.func142,Tryz.ntmps142
    go_wp2_with (go_at_call 74;refine (Bt _ x10 _ rfl rfl).mono ?_;rintro e wn ⟨rfl,hn⟩)
    go_ret
    exact ⟨by rw [H.out];rfl,by (with_reducible repeat' first|assumption|exact Ext.refl _ _|refine Ext.alloc ?_ _|refine Ext.drew ?_|refine Ext.drewN ?_ _|refine xS ?_ (by simp only [World.size_alloc,World.size_setCell,World.size_drew] <;> omega) _|refine Ext.tr ?_ (by assumption))⟩
   have e:Ce x1 x3 i ⟨x0,x1,x2,x3,x4,x5,x6,⟨x7,x8⟩,x9,x10⟩=false:=by simp [Ce,e3]
   have H:=Lib.hid e
   have h3:(x4 == i)=false:=by simpa using e3
   clear e
   go_enter Tryz.func142,Tryz.ntmps142
   go_wp2
   go_ret
   exact ⟨by rw [H.out];rfl,by (with_reducible repeat' first|assumption|exact Ext.refl _ _|refine Ext.alloc ?_ _|refine Ext.drew ?_|refine Ext.drewN ?_ _|refine xS ?_ (by simp only [World.size_alloc,World.size_setCell,World.size_drew] <;> omega) _|refine Ext.tr ?_ (by assumption))⟩
  have e:Ce x1 g i ⟨x0,x1,x2,x3,x4,x5,x6,⟨x7,x8⟩,x9,x10⟩=false:=by simp [Ce,e2]
  have H:=Lib.hid e
  have h3:(x3 == g)=false:=by simpa using e2
  clear e
  go_enter Tryz.func142,Tryz.ntmps142
  go_wp2
  go_ret
  exact ⟨by rw [H.out];rfl,by (with_reducible repeat' first|assumption|exact Ext.refl _ _|refine Ext.alloc ?_ _|refine Ext.drew ?_|refine Ext.drewN ?_ _|refine xS ?_ (by simp only [World.size_alloc,World.size_setCell,World.size_drew] <;> omega) _|refine Ext.tr ?_ (by assumption))⟩
 have e:Ce j g i ⟨x0,x1,x2,x3,x4,x5,x6,⟨x7,x8⟩,x9,x10⟩=false:=by simp [Ce,e1]
 have H:=Lib.hid e
 have h3:(x1 == j)=false:=by simpa using e1
 clear e
 go_enter Tryz.func142,Tryz.ntmps142
 go_wp2
 go_ret
 exact ⟨by rw [H.out];rfl,by (with_reducible repeat' first|assumption|exact Ext.refl _ _|refine Ext.alloc ?_ _|refine Ext.drew ?_|refine Ext.drewN ?_ _|refine xS ?_ (by simp only [World.size_alloc,World.size_setCell,World.size_drew] <;> omega) _|refine Ext.tr ?_ (by assumption))⟩
set_option maxHeartbeats 1000000 in
theorem Qk (A:Option Addr) (n cap:Nat) (l:List Ac) (b1 b2 b3:Nat) (j g i:Int) (w:World) (hl:Sl w 11 A n (l.map Ac.cells)) (h1:Blk w b1 3 #[.int .i64 j]) (h2:Blk w b2 3 #[.int .i64 g]) (h3:Blk w b3 3 #[.int .i64 i]) (hn:n≤67108864) :
  Calls Tryz.prog 103 #[.slice A n cap,.func (.func 142) #[] #[.pointer (some ⟨b1,0,none⟩),.pointer (some ⟨b2,0,none⟩),.pointer (some ⟨b3,0,none⟩)]] w fun e w'=>e=.returned (.int .i64 (CO (Ce j g i) l))∧Ext Nothing w w':=by
 have hlen:=Lib.hid hl.len
 go_enter Tryz.func103,Tryz.ntmps103
 go_wp2
 go_loopw [8] (fun c wr=>∃ k:Nat,k≤n∧c=.int .i64 k∧(∀ i' < k,∀ y,l[i']? = some y→Ce j g i y=false)∧Ext Nothing w wr) (fun i _=>n - (intOf i).toNat)
 case atStart=>exact ⟨0,Nat.zero_le _,rfl,fun j hj=>absurd hj (by omega),Ext.refl _ _⟩
 case round =>
  obtain ⟨k,hk,rfl,hno,hx⟩:=hrel
  by_cases hlt:k < n
  ·obtain ⟨hjn,b,off,rfl,hce⟩:=hl.get hx hlt
   have hy:l[k]? = some l[k]:=List.getElem?_eq_getElem hjn
   generalize l[k]=x at hce hy
   cases hp:Ce j g i x with
   | true =>
    have hr:=Lib.hid (Dz (p:=Ce j g i) hno hy hp)
    have hp':=Lib.hid hp
    clear hno hy hp
    go_wp2_with (first|(refine Ad rfl 55 _ rfl Ba b (off+k*11) rfl (Ac.cells x).toArray (by exact hce) rfl ?_)|(go_at_call 142;refine (Ol x b1 b2 b3 j g i _ (h1.e0 hx) (h2.e0 hx) (h3.e0 hx)).mono ?_;rintro e w' ⟨rfl,hx1⟩;rw [hp'.out]))
    go_ret
    exact ⟨by rw [hr.out];rfl,hx.tr hx1⟩
   | false =>
    have hno' : ∀ i' < k+1,∀ y,l[i']? = some y→Ce j g i y=false:=fun i hi y hy'=>by
     by_cases h:i=k
     ·subst h;rw [hy] at hy';cases hy';exact hp
     exact hno i (by omega) y hy'
    have HN:=Lib.hid hno'
    have hp':=Lib.hid hp
    clear hno hno' hy hp
    go_wp2_with (first|(refine Ad rfl 55 _ rfl Ba b (off+k*11) rfl (Ac.cells x).toArray (by exact hce) rfl ?_)|(go_at_call 142;refine (Ol x b1 b2 b3 j g i _ (h1.e0 hx) (h2.e0 hx) (h3.e0 hx)).mono ?_;rintro e w' ⟨rfl,hx1⟩;rw [hp'.out]))
    go_roundw
    case rel=>exact ⟨k+1,by omega,by go_num,HN.out,hx.tr hx1⟩
    case measure=>simp [intOf];omega
  have hr:=Lib.hid (CZ (p:=Ce j g i) (l:=l) (fun i hi y hy=>hno i (by have:=hlen.out;omega) y hy))
  clear hno
  go_wp2
  go_ret
  exact ⟨by rw [hr.out];rfl,hx⟩
theorem FX (A:Option Addr) (n cap:Nat) (l:List Ac) (j g i:Int) (w:World) (hl:Sl w 11 A n (l.map Ac.cells)) (hn:n≤67108864) (s0 s1 s2 s3 s4 s6 s7 s8:Value) :
  Calls Tryz.prog 121 #[.agg #[s0,s1,s2,s3,s4,.slice A n cap,s6,s7,s8],.int .i64 j,.int .i64 g,.int .i64 i] w fun e w'=>e=.returned (.int .i64 (CO (Ce j g i) l))∧Ext Nothing w w':=by
 have hx0:Ext Nothing w ((((w.alloc (.cells #[s0,s1,s2,s3,s4,.slice A n cap,s6,s7,s8] 30)).alloc (.cells #[.int .i64 j] 3)).alloc (.cells #[.int .i64 g] 3)).alloc (.cells #[.int .i64 i] 3)):=Ext.Ay
 have h1:Blk ((((w.alloc (.cells #[s0,s1,s2,s3,s4,.slice A n cap,s6,s7,s8] 30)).alloc (.cells #[.int .i64 j] 3)).alloc (.cells #[.int .i64 g] 3)).alloc (.cells #[.int .i64 i] 3)) (w.heap.size+1) 3 #[.int .i64 j]:=(Blk.new' (w.alloc (.cells #[s0,s1,s2,s3,s4,.slice A n cap,s6,s7,s8] 30)) _ _ (by simp)).e0 Ext.Ay
 have h2:Blk ((((w.alloc (.cells #[s0,s1,s2,s3,s4,.slice A n cap,s6,s7,s8] 30)).alloc (.cells #[.int .i64 j] 3)).alloc (.cells #[.int .i64 g] 3)).alloc (.cells #[.int .i64 i] 3)) (w.heap.size+1+1) 3 #[.int .i64 g]:=(Blk.new' ((w.alloc (.cells #[s0,s1,s2,s3,s4,.slice A n cap,s6,s7,s8] 30)).alloc (.cells #[.int .i64 j] 3)) _ _ (by simp)).e0 Ext.Ay
 have h3:Blk ((((w.alloc (.cells #[s0,s1,s2,s3,s4,.slice A n cap,s6,s7,s8] 30)).alloc (.cells #[.int .i64 j] 3)).alloc (.cells #[.int .i64 g] 3)).alloc (.cells #[.int .i64 i] 3)) (w.heap.size+1+1+1) 3 #[.int .i64 i]:=Blk.new' _ _ _ (by simp)
 go_enter Tryz.func121,Tryz.ntmps121
 go_wp2_with (go_at_call 103;refine (Qk A n cap l _ _ _ j g i _ (hl.Al hx0) h1 h2 h3 hn).mono ?_;rintro e w' ⟨rfl,hx⟩)
 go_ret
 exact ⟨rfl,hx0.tr hx⟩
end
section
open Go.RowKit
structure SlotD where
 group:Int
 index:Int
deriving DecidableEq
def SlotD.cells (x:SlotD):List Value:=[.int .i64 x.group,.int .i64 x.index]
def FO (g:Ao):Nat:=(min g.count 4).toNat
def EW (l:List Ac) (j:Aq) (x:SlotD):Bool:=j.ty == 2 && l.any (fun a=>a.job == j.id && a.ver == j.ver && a.group == x.group && a.index == x.index && a.state == 3)
def big:Cg:=⟨1152921504606846976,1152921504606846976⟩
def CK (node:Int) (o:Option Cg) (a:Ac):Option Cg:=match o with|none=>none|some r=>if a.node == node && !Bv a then Dc r a.ask else some r
def Dv (l:List Ac) (node:Int):Cg:=(l.foldl (CK node) (some ⟨0,0⟩)).getD big
def OO (node:Int) (o:Option Cg) (a:Ac):Option Cg:=match o with|none=>none|some r=>if a.node == node then Dc r a.ask else some r
def Qi (l more:List Ac) (node:Int):Option Cg:=more.foldl (OO node) (some (Dv l node))
def Rm (ns:List NodD) (l more:List Ac) (node:Int) (ask:Cg):Bool :=
 match ns.find? (fun n=>n.id == node) with
 | none=>false
 | some n=>n.up && !n.drain && (match Qi l more node with|some r=>GY r ask n.cap|none=>false)
def Rj (n:NodD) (r ask:Cg):Int:=wrap64 (wrap64 (wrap64 (n.cap.cpu - r.cpu) - ask.cpu)+wrap64 (wrap64 (n.cap.mem - r.mem) - ask.mem))
def N9 (ns:List NodD) (l more:List Ac) (ask:Cg) (o:Option (Int × Int)) (x:NodD):Option (Int × Int) :=
 if Rm ns l more x.id ask then
  match ns.find? (fun n=>n.id == x.id) with
  | none=>o
  | some n =>
   let left:=Rj n (Jd (Qi l more n.id)) ask
   match o with
   | none=>some (n.id,left)
   | some b=>if left < b.2 || (left == b.2 && decide (n.id < b.1)) then some (n.id,left) else some b
 else o
def Ri (ns:List NodD) (l more:List Ac) (ask:Cg):Option (Int × Int):=ns.foldl (N9 ns l more ask) none
structure Rp where
 job:Int
 ver:Int
 index:Int
 stops:List Int
 places:List Ac
 blocked:Bool
deriving DecidableEq
def OM (j:Aq) (x:SlotD):Cg:=match j.groups[x.group.toNat]? with|some g=>g.ask|none=>⟨0,0⟩
def PW (ns:List NodD) (l more:List Ac) (j:Aq) (x:SlotD):Option Int :=
 if j.ty=3 then (if Rm ns l more x.index (OM j x) then some x.index else none) else (Ri ns l more (OM j x)).map (·.1)
def PL (ns:List NodD) (node:Int):Int:=match ns.find? (fun n=>n.id == node) with|some n=>n.epoch|none=>0
def placeOf (ns:List NodD) (j:Aq) (x:SlotD) (node:Int):Ac:=⟨0,j.id,j.ver,x.group,x.index,node,PL ns node,OM j x,false,0⟩
def Bc (ns:List NodD) (l:List Ac) (j:Aq) (st:List Ac × Bool) (x:SlotD):List Ac × Bool :=
 match PW ns l st.1 j x with
 | none=>(st.1,true)
 | some node=>(st.1 ++ [placeOf ns j x node],st.2)
end
section
set_option maxRecDepth 100000
open Go.RowKit Go.ChangeShapes Go.WideShapes Go.ChangeAt
theorem Rw:ownKnob Tryz.prog.godebug=none:=by kernel_rfl
theorem Be {a:Int} (h:(Lit.int .i64 a).wf=true):In64 a:=by
 simpa [Lit.wf,IntKind.min,IntKind.max,IntKind.signed,IntKind.bits,In64] using h
def Ao.ok (x:Ao):Prop:=In64 x.count∧In64 x.ask.cpu∧In64 x.ask.mem
def NodD.ok (x:NodD):Prop:=In64 x.id∧In64 x.cap.cpu∧In64 x.cap.mem∧In64 x.boot∧In64 x.epoch∧In64 x.seq
def Ac.ok (x:Ac):Prop:=In64 x.id∧In64 x.job∧In64 x.ver∧In64 x.group∧In64 x.index∧In64 x.node∧In64 x.epoch∧In64 x.ask.cpu∧In64 x.ask.mem∧In64 x.state
def EvalD.ok (x:EvalD):Prop:=In64 x.job∧In64 x.prio∧In64 x.state∧In64 x.index
def DepD.ok (x:DepD):Prop:=In64 x.job∧In64 x.ver∧In64 x.state∧In64 x.index
def JobV.ok (w:World) (x:JobV):Prop:=(In64 x.1.id∧In64 x.1.ty∧In64 x.1.prio∧In64 x.1.par∧In64 x.1.ver)∧∃ A n c,x.2=.slice A n c∧Sl w 3 A n (x.1.groups.map Ao.cells)∧(∀ g∈x.1.groups,g.ok)∧n≤1048576
def SeenV.ok (w:World) (x:SeenV):Prop:=(In64 x.1.client∧In64 x.1.req∧In64 x.1.answer.code∧In64 x.1.answer.value)∧∃ A n c,x.2=.slice A n c∧Sl w 11 A n (x.1.answer.allocs.map Ac.cells)∧(∀ a∈x.1.answer.allocs,a.ok)∧n≤1048576
theorem PT:Dl Tryz.prog 2 66=true:=by kernel_rfl
theorem PN:EG Tryz.prog 2 66=[3,3,3]:=by kernel_rfl
theorem QO:Tryz.prog.cellsOf 66=3:=by kernel_rfl
section
variable {H:Type} {enc:TypeId × Value→H} {w:World} {base:Nat} {spare:Nat→Bool} {held:Bool}
theorem Mk {B:Nat} (n:Nat) (cs:List Value) (y:DataW H × List MemPlace) (h:DataW.trod enc Tryz.prog w base spare held n 66 cs=some y) (hB:Rows.uptoBulk y.1≤B):∃ x:Ao,cs=x.cells∧x.ok:=by
 have h1:=leaves (P:=Tryz.prog) (d:=2) PT h hB
 rw [PN] at h1
 match cs,h1 with
 | [c0,c1,c2],⟨l0,l1,l2,_⟩ =>
  obtain ⟨a0,rfl,w0⟩:=l0.int Tryz.underlying3
  obtain ⟨a1,rfl,w1⟩:=l1.int Tryz.underlying3
  obtain ⟨a2,rfl,w2⟩:=l2.int Tryz.underlying3
  exact ⟨⟨a0,⟨a1,a2⟩⟩,rfl,Be w0,Be w1,Be w2⟩
end
section
variable {H:Type} {enc:TypeId × Value→H} {w:World} {base:Nat} {spare:Nat→Bool} {held:Bool}
end
theorem Qc:Dl Tryz.prog 2 55=true:=by kernel_rfl
theorem Pv:EG Tryz.prog 2 55=[3,3,3,3,3,3,3,3,3,4,3]:=by kernel_rfl
theorem QR:Tryz.prog.cellsOf 55=11:=by kernel_rfl
section
variable {H:Type} {enc:TypeId × Value→H} {w:World} {base:Nat} {spare:Nat→Bool} {held:Bool}
theorem LY {B:Nat} (n:Nat) (cs:List Value) (y:DataW H × List MemPlace) (h:DataW.trod enc Tryz.prog w base spare held n 55 cs=some y) (hB:Rows.uptoBulk y.1≤B):∃ x:Ac,cs=x.cells∧x.ok:=by
 have h1:=leaves (P:=Tryz.prog) (d:=2) Qc h hB
 rw [Pv] at h1
 match cs,h1 with
 | [c0,c1,c2,c3,c4,c5,c6,c7,c8,c9,c10],⟨l0,l1,l2,l3,l4,l5,l6,l7,l8,l9,l10,_⟩ =>
  obtain ⟨a0,rfl,w0⟩:=l0.int Tryz.underlying3
  obtain ⟨a1,rfl,w1⟩:=l1.int Tryz.underlying3
  obtain ⟨a2,rfl,w2⟩:=l2.int Tryz.underlying3
  obtain ⟨a3,rfl,w3⟩:=l3.int Tryz.underlying3
  obtain ⟨a4,rfl,w4⟩:=l4.int Tryz.underlying3
  obtain ⟨a5,rfl,w5⟩:=l5.int Tryz.underlying3
  obtain ⟨a6,rfl,w6⟩:=l6.int Tryz.underlying3
  obtain ⟨a7,rfl,w7⟩:=l7.int Tryz.underlying3
  obtain ⟨a8,rfl,w8⟩:=l8.int Tryz.underlying3
  obtain ⟨a9,rfl⟩:=l9.bool Tryz.underlying4
  obtain ⟨a10,rfl,w10⟩:=l10.int Tryz.underlying3
  exact ⟨⟨a0,a1,a2,a3,a4,a5,a6,⟨a7,a8⟩,a9,a10⟩,rfl,Be w0,Be w1,Be w2,Be w3,Be w4,Be w5,Be w6,Be w7,Be w8,Be w10⟩
end
section
variable {H:Type} {enc:TypeId × Value→H} {w:World} {base:Nat} {spare:Nat→Bool} {held:Bool}
end
section
variable {H:Type} {enc:TypeId × Value→H} {w:World} {base:Nat} {spare:Nat→Bool} {held:Bool}
end
section
variable {H:Type} {enc:TypeId × Value→H} {w:World} {base:Nat} {spare:Nat→Bool} {held:Bool}
end
section
variable {H:Type} {enc:TypeId × Value→H} {w:World} {base:Nat} {spare:Nat→Bool} {held:Bool}
end
structure Aa where
 index:Int
 next:Int
 AJ:Option Addr
 nJ:Nat
 cJ:Nat
 jobs:List JobV
 AS:Option Addr
 nS:Nat
 cS:Nat
 stable:List JobV
 AN:Option Addr
 nN:Nat
 cN:Nat
 nodes:List NodD
 AA:Option Addr
 nA:Nat
 cA:Nat
 allocs:List Ac
 AE:Option Addr
 nE:Nat
 cE:Nat
 evals:List EvalD
 AD:Option Addr
 nD:Nat
 cD:Nat
 deploys:List DepD
 AX:Option Addr
 nX:Nat
 cX:Nat
 seen:List SeenV
def Aa.cells (s:Aa):List Value:=[.int .i64 s.index,.int .i64 s.next,.slice s.AJ s.nJ s.cJ,.slice s.AS s.nS s.cS,.slice s.AN s.nN s.cN,.slice s.AA s.nA s.cA,.slice s.AE s.nE s.cE,.slice s.AD s.nD s.cD,.slice s.AX s.nX s.cX]
structure Aa.Ok (w:World) (s:Aa):Prop where
 sJ:Sl w 7 s.AJ s.nJ (s.jobs.map JobV.cells)
 kJ:∀ x∈s.jobs,JobV.ok w x
 mJ:s.nJ≤1048576
 sS:Sl w 7 s.AS s.nS (s.stable.map JobV.cells)
 kS:∀ x∈s.stable,JobV.ok w x
 mS:s.nS≤1048576
 sN:Sl w 8 s.AN s.nN (s.nodes.map NodD.cells)
 kN:∀ x∈s.nodes,x.ok
 mN:s.nN≤1048576
 sA:Sl w 11 s.AA s.nA (s.allocs.map Ac.cells)
 kA:∀ x∈s.allocs,x.ok
 mA:s.nA≤1048576
 sE:Sl w 4 s.AE s.nE (s.evals.map EvalD.cells)
 kE:∀ x∈s.evals,x.ok
 mE:s.nE≤1048576
 sD:Sl w 4 s.AD s.nD (s.deploys.map DepD.cells)
 kD:∀ x∈s.deploys,x.ok
 mD:s.nD≤1048576
 sX:Sl w 5 s.AX s.nX (s.seen.map SeenV.cells)
 kX:∀ x∈s.seen,SeenV.ok w x
 mX:s.nX≤1048576
theorem JobV.ok.Al {w w' : World} {x:JobV} (h:JobV.ok w x) (hx:Ext Nothing w w'):JobV.ok w' x:=by
 obtain ⟨h0,A,n,c,h1,h2,h3,h4⟩:=h
 exact ⟨h0,A,n,c,h1,h2.Al hx,h3,h4⟩
theorem SeenV.ok.Al {w w' : World} {x:SeenV} (h:SeenV.ok w x) (hx:Ext Nothing w w'):SeenV.ok w' x:=by
 obtain ⟨h0,A,n,c,h1,h2,h3,h4⟩:=h
 exact ⟨h0,A,n,c,h1,h2.Al hx,h3,h4⟩
theorem Aa.Ok.Al {w w' : World} {s:Aa} (h:s.Ok w) (hx:Ext Nothing w w'):s.Ok w' :=
 ⟨h.sJ.Al hx,fun x hm=>(h.kJ x hm).Al hx,h.mJ,h.sS.Al hx,fun x hm=>(h.kS x hm).Al hx,h.mS,h.sN.Al hx,h.kN,h.mN,h.sA.Al hx,h.kA,h.mA,h.sE.Al hx,h.kE,h.mE,h.sD.Al hx,h.kD,h.mD,h.sX.Al hx,fun x hm=>(h.kX x hm).Al hx,h.mX⟩
end
section
open Go.RowKit
theorem P6:Bg Tryz.prog 37 66 3:=.of (by kernel_rfl)
theorem Gf:Bg Tryz.prog 23 39 7:=.of (by kernel_rfl)
theorem QB:Bg Tryz.prog 24 43 8:=.of (by kernel_rfl)
theorem SRAlloc:Bg Tryz.prog 25 55 11:=.of (by kernel_rfl)
theorem Qo:Bg Tryz.prog 26 68 4:=.of (by kernel_rfl)
theorem Oj:Bg Tryz.prog 27 74 4:=.of (by kernel_rfl)
theorem Df:Bb Tryz.prog 89 5:=.of (by kernel_rfl)
theorem OB:Bg Tryz.prog 28 89 5:=.of (by kernel_rfl)
theorem Ei {α:Type} {f:α→List Value} (hf:∀ x,(f x).all Value.oneCell' = true) (l:List α):∀ y∈l.map f,y.all Value.oneCell' = true:=fun y hy=>by
 obtain ⟨x,_,rfl⟩:=List.mem_map.1 hy
 exact hf x
set_option maxHeartbeats 2000000 in
theorem J9 (x:Aq) (AG:Option Addr) (nG cG:Nat) (w:World) (hG:Sl w 3 AG nG (x.groups.map Ao.cells)) (hn:nG≤1048576) :
  Calls Tryz.prog 42 #[.agg #[.int .i64 x.id,.int .i64 x.ty,.int .i64 x.prio,.int .i64 x.par,.slice AG nG cG,.int .i64 x.ver,.bool x.stopped]] w fun e w'=>∃ A c,e=.returned (.agg #[.int .i64 x.id,.int .i64 x.ty,.int .i64 x.prio,.int .i64 x.par,.slice A nG c,.int .i64 x.ver,.bool x.stopped])∧w'.ownsRow w.heap.size 66 3 (.slice A nG c) nG (x.groups.flatMap Ao.cells)∧Ext Nothing w w':=by
 have hx0:Ext Nothing w ((w.alloc (.cells #[.int .i64 x.id,.int .i64 x.ty,.int .i64 x.prio,.int .i64 x.par,.slice AG nG cG,.int .i64 x.ver,.bool x.stopped] 39)).alloc (.cells #[.int .i64 0,.int .i64 0,.int .i64 0,.int .i64 0,.slice none 0 0,.int .i64 0,.bool false] 39)):=Ext.Ay
 have hb0:Blk ((w.alloc (.cells #[.int .i64 x.id,.int .i64 x.ty,.int .i64 x.prio,.int .i64 x.par,.slice AG nG cG,.int .i64 x.ver,.bool x.stopped] 39)).alloc (.cells #[.int .i64 0,.int .i64 0,.int .i64 0,.int .i64 0,.slice none 0 0,.int .i64 0,.bool false] 39)) w.heap.size 39 #[.int .i64 x.id,.int .i64 x.ty,.int .i64 x.prio,.int .i64 x.par,.slice AG nG cG,.int .i64 x.ver,.bool x.stopped]:=(Blk.new w _ _).e0 Ext.Ay
 have hr0:Blk ((w.alloc (.cells #[.int .i64 x.id,.int .i64 x.ty,.int .i64 x.prio,.int .i64 x.par,.slice AG nG cG,.int .i64 x.ver,.bool x.stopped] 39)).alloc (.cells #[.int .i64 0,.int .i64 0,.int .i64 0,.int .i64 0,.slice none 0 0,.int .i64 0,.bool false] 39)) (w.heap.size+1) 39 #[.int .i64 0,.int .i64 0,.int .i64 0,.int .i64 0,.slice none 0 0,.int .i64 0,.bool false]:=Blk.new' _ _ _ (by simp)
 have hG2:=hG.Al hx0
 have hz:((w.alloc (.cells #[.int .i64 x.id,.int .i64 x.ty,.int .i64 x.prio,.int .i64 x.par,.slice AG nG cG,.int .i64 x.ver,.bool x.stopped] 39)).alloc (.cells #[.int .i64 0,.int .i64 0,.int .i64 0,.int .i64 0,.slice none 0 0,.int .i64 0,.bool false] 39)).heap.size=w.heap.size+2:=by simp
 have HZ:=Lib.hid hz
 clear hz
 go_enter Tryz.func42,Tryz.ntmps42
 go_wp2_with (first|(at_builtin;refine CR rfl _ _ 37 rfl w.heap.size P6 (.slice none 0 0) 0 [] rfl (World.ownsRow_nil ..) AG nG cG (x.groups.map Ao.cells) rfl hG2 (Ei (fun _=>rfl) _) (by omega) (by have:=HZ.out;omega) ?_;intro A c w1 hown hgr;simp only [Nat.zero_add];have hg1:=Ext.BI (S:=Nothing) hgr (fun g e=>by simp [Value.ownBlock] at e);have hb1:=hb0.e0 hg1;have hr1:=hr0.e0 hg1;have q4:w1.cell? ⟨w.heap.size,4,none⟩=some (.slice AG nG cG):=hb1.cell 4;have f4:w1.frozen? ⟨w.heap.size,4,none⟩=false:=hb1.frozen 4;have hb2:Blk (w1.setCell ⟨w.heap.size,4,none⟩ (.slice A nG c)) w.heap.size 39 #[.int .i64 x.id,.int .i64 x.ty,.int .i64 x.prio,.int .i64 x.par,.slice A nG c,.int .i64 x.ver,.bool x.stopped]:=hb1.Bi 4 _;have hx3:Ext (fun q=>q=w.heap.size) w1 (w1.setCell ⟨w.heap.size,4,none⟩ (.slice A nG c)):=Ext.set1 _ _ _ _;have hr2:=hr1.ext hx3 (by omega))|(refine Ae rfl 39 _ rfl STJob w.heap.size rfl #[.int .i64 x.id,.int .i64 x.ty,.int .i64 x.prio,.int .i64 x.par,.slice A nG c,.int .i64 x.ver,.bool x.stopped] hb2 rfl ?_)|(refine Af rfl 39 _ _ rfl STJob (w.heap.size+1) rfl #[.int .i64 x.id,.int .i64 x.ty,.int .i64 x.prio,.int .i64 x.par,.slice A nG c,.int .i64 x.ver,.bool x.stopped] rfl hr2 rfl rfl rfl ?_;intro w4 hr4 hx4))
 have hown2:w1.ownsRow w.heap.size 66 3 (.slice A nG c) nG (x.groups.flatMap Ao.cells):=by
  have h1:[] ++ (x.groups.map Ao.cells).flatten=x.groups.flatMap Ao.cells:=rfl
  rw [h1,Nat.zero_add] at hown
  exact hown
 have hne:=own_ne hown2 hb1 (by decide)
 have hne2:=own_ne hown2 hr1 (by decide)
 exact bodyPost_ret (results_cell rfl STJob (g:=w.heap.size+1) rfl hr4 rfl) rfl ⟨A,c,rfl,Am (Am hown2 hx3 (fun g hg e=>hne (e ▸ hg))) hx4 (fun g hg e=>hne2 (e ▸ hg)),((hx0.tr hg1).trans hx3 (fun q hq e=>by omega)).trans hx4 (fun q hq e=>by omega)⟩
end
section
open Go.RowKit
theorem CY {w:World} {base e sz n g:Nat} {v:Value} {xs:List Value} (h:w.ownsRow base e sz v n xs) (hv:v.ownBlock=some g):∃ cs,Blk w g e cs:=by
 rcases h.2 with ⟨rfl,_⟩|⟨g',cap,cur,rfl,_,hg,_⟩
 ·simp [Value.ownBlock] at hv
 simp [Value.ownBlock] at hv
 subst hv
 exact ⟨cur,hg⟩
def Apart (W:World) (S:Nat→Prop) (T:List TypeId):Prop:=∀ b,S b→∃ t cs,Blk W b t cs∧t ∉ T
theorem Apart.none {W:World} {T:List TypeId}:Apart W Nothing T:=fun _ h=>h.elim
theorem Apart.one {W:World} {T:List TypeId} {b t:Nat} {cs:Array Value} (h:Blk W b t cs) (ht:t ∉ T):Apart W (fun q=>q=b) T:=fun q e=>by subst e;exact ⟨t,cs,h,ht⟩
theorem Apart.row {W:World} {T:List TypeId} {base e sz n:Nat} {v:Value} {xs:List Value} (h:W.ownsRow base e sz v n xs) (ht:e ∉ T):Apart W (fun q=>v.ownBlock=some q) T:=fun q hq=>by
 obtain ⟨cs,hb⟩:=CY h hq
 exact ⟨e,cs,hb,ht⟩
theorem Apart.less {W:World} {T T' : List TypeId} {S:Nat→Prop} (h:Apart W S T) (hT:∀ t∈T',t∈T):Apart W S T':=fun q e=>by
 obtain ⟨t,cs,hb,ht⟩:=h q e
 exact ⟨t,cs,hb,fun hm=>ht (hT t hm)⟩
theorem Ag {S:Nat→Prop} {w w' : World} {base e sz n:Nat} {v:Value} {xs:List Value} (h:w.ownsRow base e sz v n xs) (hx:Ext S w w') (hS:Apart w S [e]):w'.ownsRow base e sz v n xs :=
 Am h hx fun g hg hs=>by
  obtain ⟨t,cs,hb,ht⟩:=hS g hs
  exact own_ne h hb (fun e'=>ht (by simp [e'])) hg
theorem GQ {S:Nat→Prop} {w w' : World} {g t:Nat} {cs:Array Value} (h:Blk w g t cs) (hx:Ext S w w') (hS:Apart w S [t]):Blk w' g t cs :=
 h.ext hx fun hs=>by
  obtain ⟨t',cs',hb,ht⟩:=hS g hs
  exact Blk.ne h hb (fun e=>ht (by simp [e])) rfl
def Cq (base:Nat) (W:World) (y:JobV):Prop:=∃ A n c,y.2=.slice A n c∧W.ownsRow base 66 3 (.slice A n c) n (y.1.groups.flatMap Ao.cells)∧n=y.1.groups.length∧n≤1048576
theorem Cq.keep {S:Nat→Prop} {base:Nat} {W W' : World} {y:JobV} (h:Cq base W y) (hx:Ext S W W') (hS:Apart W S [66]):Cq base W' y:=by
 obtain ⟨A,n,c,h1,h2,h3,h4⟩:=h
 exact ⟨A,n,c,h1,Ag h2 hx hS,h3,h4⟩
structure BC (base:Nat) (W:World) (v:Value) (ys:List JobV):Prop where
 own:W.ownsRow base 39 7 v ys.length (ys.flatMap JobV.cells)
 grp:∀ y∈ys,Cq base W y
theorem BC.keep {S:Nat→Prop} {base:Nat} {W W' : World} {v:Value} {ys:List JobV} (h:BC base W v ys) (hx:Ext S W W') (hS:Apart W S [39,66]):BC base W' v ys :=
 ⟨Ag h.own hx (hS.less (by simp)),fun y hy=>(h.grp y hy).keep hx (hS.less (by simp))⟩
theorem BC.push {base:Nat} {W W' : World} {v v' : Value} {ys:List JobV} {y:JobV} (h:BC base W v ys) (hy:Cq base W y) (ho:W'.ownsRow base 39 7 v' (ys.length+1) (ys.flatMap JobV.cells ++ JobV.cells y)) (hg:W.grownBy W' v.ownBlock):BC base W' v' (ys ++ [y]):=by
 have hx:Ext (fun q=>v.ownBlock=some q) W W':=Ext.BI hg (fun _ e=>e)
 refine ⟨by simpa using ho,fun z hz=>?_⟩
 have hz' : Cq base W z:=by
  rcases List.mem_append.1 hz with hz|hz
  ·exact h.grp z hz
  rw [List.mem_singleton] at hz;subst hz;exact hy
 exact hz'.keep hx (Apart.row h.own (by decide))
theorem BC.base {b b' : Nat} {W:World} {v:Value} {ys:List JobV} (h:BC b W v ys) (hb:b'≤b):BC b' W v ys :=
 ⟨Bj h.own hb,fun y hy=>by obtain ⟨A,n,c,h1,h2,h3,h4⟩:=h.grp y hy;exact ⟨A,n,c,h1,Bj h2 hb,h3,h4⟩⟩
theorem BC.keepR {S:Nat→Prop} {base B:Nat} {W W' : World} {v:Value} {ys:List JobV} (h:BC base W v ys) (hlt:∀ q,v.ownBlock=some q→q < B) (hx:Ext S W W') (hB:∀ q,S q→B≤q) (hS:Apart W S [66]):BC base W' v ys :=
 ⟨Am h.own hx fun g hg hs=>by have:=hlt g hg;have:=hB g hs;omega,fun y hy=>(h.grp y hy).keep hx hS⟩
structure CS (w:World) (s:Aa) (W:World) (cs:Array Value):Prop where
 ext:Ext Nothing w W
 src:Blk W w.heap.size 30 #[.int .i64 s.index,.int .i64 s.next,.slice s.AJ s.nJ s.cJ,.slice s.AS s.nS s.cS,.slice s.AN s.nN s.cN,.slice s.AA s.nA s.cA,.slice s.AE s.nE s.cE,.slice s.AD s.nD s.cD,.slice s.AX s.nX s.cX]
 res:Blk W (w.heap.size+1) 30 #[.int .i64 0,.int .i64 0,.slice none 0 0,.slice none 0 0,.slice none 0 0,.slice none 0 0,.slice none 0 0,.slice none 0 0,.slice none 0 0]
 out:Blk W (w.heap.size+1+1) 30 cs
theorem CS.keep {S:Nat→Prop} {w:World} {s:Aa} {W W' : World} {cs:Array Value} (h:CS w s W cs) (hx:Ext S W W') (hS:Apart W S [30]) (h0:∀ b,S b→w.heap.size≤b):CS w s W' cs :=
 ⟨h.ext.trans hx (fun b hb e=>by have:=h0 b e;omega),GQ h.src hx hS,GQ h.res hx hS,GQ h.out hx hS⟩
theorem CS.AP {w:World} {s:Aa} {W W' : World} {cs:Array Value} (h:CS w s W cs) (hx:Ext Nothing W W'):CS w s W' cs:=h.keep hx Apart.none (fun _ e=>e.elim)
theorem CS.grown {w:World} {s:Aa} {W W' : World} {cs:Array Value} {e sz n:Nat} {v:Value} {xs:List Value} (h:CS w s W cs) (ho:W.ownsRow w.heap.size e sz v n xs) (he:e ≠ 30) (hg:W.grownBy W' v.ownBlock):CS w s W' cs :=
 h.keep (Ext.BI (S:=fun q=>v.ownBlock=some q) hg (fun _ e=>e)) (Apart.row ho (by simpa using he)) (fun b hb=>BM ho hb)
theorem CS.put {w:World} {s:Aa} {W:World} {cs:Array Value} (h:CS w s W cs) (i:Nat) (u:Value):CS w s (W.setCell ⟨w.heap.size+1+1,i,none⟩ u) (cs.setIfInBounds i u):=by
 have hx:Ext (fun q=>q=w.heap.size+1+1) W (W.setCell ⟨w.heap.size+1+1,i,none⟩ u):=Ext.set1 _ _ _ _
 exact ⟨h.ext.trans hx (fun b hb e=>by omega),h.src.ext hx (by omega),h.res.ext hx (by omega),h.out.Bi i u⟩
def Fz (base:Nat) (W:World) (y:SeenV):Prop:=∃ A n c,y.2=.slice A n c∧W.ownsRow base 55 11 (.slice A n c) n (y.1.answer.allocs.flatMap Ac.cells)∧n=y.1.answer.allocs.length∧n≤1048576
theorem Fz.keep {S:Nat→Prop} {base:Nat} {W W' : World} {y:SeenV} (h:Fz base W y) (hx:Ext S W W') (hS:Apart W S [55]):Fz base W' y:=by
 obtain ⟨A,n,c,h1,h2,h3,h4⟩:=h
 exact ⟨A,n,c,h1,Ag h2 hx hS,h3,h4⟩
structure Gh (base:Nat) (W:World) (v:Value) (ys:List SeenV):Prop where
 own:W.ownsRow base 89 5 v ys.length (ys.flatMap SeenV.cells)
 ans:∀ y∈ys,Fz base W y
theorem Gh.keep {S:Nat→Prop} {base:Nat} {W W' : World} {v:Value} {ys:List SeenV} (h:Gh base W v ys) (hx:Ext S W W') (hS:Apart W S [89,55]):Gh base W' v ys :=
 ⟨Ag h.own hx (hS.less (by simp)),fun y hy=>(h.ans y hy).keep hx (hS.less (by simp))⟩
theorem Gh.push {base:Nat} {W W' : World} {v v' : Value} {ys:List SeenV} {y:SeenV} (h:Gh base W v ys) (hy:Fz base W y) (ho:W'.ownsRow base 89 5 v' (ys.length+1) (ys.flatMap SeenV.cells ++ SeenV.cells y)) (hg:W.grownBy W' v.ownBlock):Gh base W' v' (ys ++ [y]):=by
 have hx:Ext (fun q=>v.ownBlock=some q) W W':=Ext.BI hg (fun _ e=>e)
 refine ⟨by simpa using ho,fun z hz=>?_⟩
 have hz' : Fz base W z:=by
  rcases List.mem_append.1 hz with hz|hz
  ·exact h.ans z hz
  rw [List.mem_singleton] at hz;subst hz;exact hy
 exact hz'.keep hx (Apart.row h.own (by decide))
structure Cu (w:World) (s:Aa) (W:World) (vJ vS vN vA vE vD vX:Value) (ys zs:List JobV) (ns:List NodD) (as_:List Ac) (es:List EvalD) (ds:List DepD) (xs:List SeenV):Prop where
 i:CS w s W #[.int .i64 s.index,.int .i64 s.next,vJ,vS,vN,vA,vE,vD,vX]
 j:BC w.heap.size W vJ ys
 t:BC w.heap.size W vS zs
 n:W.ownsRow w.heap.size 43 8 vN ns.length (ns.flatMap NodD.cells)
 a:W.ownsRow w.heap.size 55 11 vA as_.length (as_.flatMap Ac.cells)
 e:W.ownsRow w.heap.size 68 4 vE es.length (es.flatMap EvalD.cells)
 d:W.ownsRow w.heap.size 74 4 vD ds.length (ds.flatMap DepD.cells)
 x:Gh w.heap.size W vX xs
section
variable {w:World} {s:Aa} {W W' : World} {vJ vS vN vA vE vD vX v' : Value} {ys zs:List JobV} {ns:List NodD} {as_:List Ac} {es:List EvalD} {ds:List DepD} {xs:List SeenV}
theorem Cu.keep {S:Nat→Prop} (C:Cu w s W vJ vS vN vA vE vD vX ys zs ns as_ es ds xs) (hx:Ext S W W') (hS:Apart W S [30,39,66,43,55,68,74,89]) (h0:∀ b,S b→w.heap.size≤b):Cu w s W' vJ vS vN vA vE vD vX ys zs ns as_ es ds xs :=
 ⟨C.i.keep hx (hS.less (by decide)) h0,C.j.keep hx (hS.less (by decide)),C.t.keep hx (hS.less (by decide)),Ag C.n hx (hS.less (by decide)),Ag C.a hx (hS.less (by decide)),Ag C.e hx (hS.less (by decide)),Ag C.d hx (hS.less (by decide)),C.x.keep hx (hS.less (by decide))⟩
theorem Cu.AP (C:Cu w s W vJ vS vN vA vE vD vX ys zs ns as_ es ds xs) (hx:Ext Nothing W W'):Cu w s W' vJ vS vN vA vE vD vX ys zs ns as_ es ds xs:=C.keep hx Apart.none (fun _ e=>e.elim)
theorem Cu.BP (C:Cu w s W vJ vS (.slice none 0 0) vA vE vD vX ys zs [] as_ es ds xs) {m:List NodD} (o:W'.ownsRow w.heap.size 43 8 v' m.length (m.flatMap NodD.cells)) (g:W.grownBy W' (Value.slice none 0 0).ownBlock):Cu w s (W'.setCell ⟨w.heap.size+1+1,4,none⟩ v') vJ vS v' vA vE vD vX ys zs m as_ es ds xs:=by
 have hx:Ext Nothing W W':=Ext.BI g (fun b e=>by simp [Value.ownBlock] at e)
 have C1:=C.AP hx
 have hp:Ext (fun q=>q=w.heap.size+1+1) W' (W'.setCell ⟨w.heap.size+1+1,4,none⟩ v'):=Ext.set1 _ _ _ _
 exact ⟨C1.i.put 4 v',C1.j.keep hp (Apart.one C1.i.out (by decide)),C1.t.keep hp (Apart.one C1.i.out (by decide)),Ag o hp (Apart.one C1.i.out (by decide)),Ag C1.a hp (Apart.one C1.i.out (by decide)),Ag C1.e hp (Apart.one C1.i.out (by decide)),Ag C1.d hp (Apart.one C1.i.out (by decide)),C1.x.keep hp (Apart.one C1.i.out (by decide))⟩
theorem Cu.I9 (C:Cu w s W vJ vS vN (.slice none 0 0) vE vD vX ys zs ns [] es ds xs) {m:List Ac} (o:W'.ownsRow w.heap.size 55 11 v' m.length (m.flatMap Ac.cells)) (g:W.grownBy W' (Value.slice none 0 0).ownBlock):Cu w s (W'.setCell ⟨w.heap.size+1+1,5,none⟩ v') vJ vS vN v' vE vD vX ys zs ns m es ds xs:=by
 have hx:Ext Nothing W W':=Ext.BI g (fun b e=>by simp [Value.ownBlock] at e)
 have C1:=C.AP hx
 have hp:Ext (fun q=>q=w.heap.size+1+1) W' (W'.setCell ⟨w.heap.size+1+1,5,none⟩ v'):=Ext.set1 _ _ _ _
 exact ⟨C1.i.put 5 v',C1.j.keep hp (Apart.one C1.i.out (by decide)),C1.t.keep hp (Apart.one C1.i.out (by decide)),Ag C1.n hp (Apart.one C1.i.out (by decide)),Ag o hp (Apart.one C1.i.out (by decide)),Ag C1.e hp (Apart.one C1.i.out (by decide)),Ag C1.d hp (Apart.one C1.i.out (by decide)),C1.x.keep hp (Apart.one C1.i.out (by decide))⟩
theorem Cu.Bf (C:Cu w s W vJ vS vN vA (.slice none 0 0) vD vX ys zs ns as_ [] ds xs) {m:List EvalD} (o:W'.ownsRow w.heap.size 68 4 v' m.length (m.flatMap EvalD.cells)) (g:W.grownBy W' (Value.slice none 0 0).ownBlock):Cu w s (W'.setCell ⟨w.heap.size+1+1,6,none⟩ v') vJ vS vN vA v' vD vX ys zs ns as_ m ds xs:=by
 have hx:Ext Nothing W W':=Ext.BI g (fun b e=>by simp [Value.ownBlock] at e)
 have C1:=C.AP hx
 have hp:Ext (fun q=>q=w.heap.size+1+1) W' (W'.setCell ⟨w.heap.size+1+1,6,none⟩ v'):=Ext.set1 _ _ _ _
 exact ⟨C1.i.put 6 v',C1.j.keep hp (Apart.one C1.i.out (by decide)),C1.t.keep hp (Apart.one C1.i.out (by decide)),Ag C1.n hp (Apart.one C1.i.out (by decide)),Ag C1.a hp (Apart.one C1.i.out (by decide)),Ag o hp (Apart.one C1.i.out (by decide)),Ag C1.d hp (Apart.one C1.i.out (by decide)),C1.x.keep hp (Apart.one C1.i.out (by decide))⟩
theorem Cu.DT (C:Cu w s W vJ vS vN vA vE (.slice none 0 0) vX ys zs ns as_ es [] xs) {m:List DepD} (o:W'.ownsRow w.heap.size 74 4 v' m.length (m.flatMap DepD.cells)) (g:W.grownBy W' (Value.slice none 0 0).ownBlock):Cu w s (W'.setCell ⟨w.heap.size+1+1,7,none⟩ v') vJ vS vN vA vE v' vX ys zs ns as_ es m xs:=by
 have hx:Ext Nothing W W':=Ext.BI g (fun b e=>by simp [Value.ownBlock] at e)
 have C1:=C.AP hx
 have hp:Ext (fun q=>q=w.heap.size+1+1) W' (W'.setCell ⟨w.heap.size+1+1,7,none⟩ v'):=Ext.set1 _ _ _ _
 exact ⟨C1.i.put 7 v',C1.j.keep hp (Apart.one C1.i.out (by decide)),C1.t.keep hp (Apart.one C1.i.out (by decide)),Ag C1.n hp (Apart.one C1.i.out (by decide)),Ag C1.a hp (Apart.one C1.i.out (by decide)),Ag C1.e hp (Apart.one C1.i.out (by decide)),Ag o hp (Apart.one C1.i.out (by decide)),C1.x.keep hp (Apart.one C1.i.out (by decide))⟩
theorem Cu.Rn {y:SeenV} (C:Cu w s W vJ vS vN vA vE vD vX ys zs ns as_ es ds xs) (hy:Fz w.heap.size W y) (o:W'.ownsRow w.heap.size 89 5 v' (xs.length+1) (xs.flatMap SeenV.cells ++ SeenV.cells y)) (g:W.grownBy W' vX.ownBlock):Cu w s (W'.setCell ⟨w.heap.size+1+1,8,none⟩ v') vJ vS vN vA vE vD v' ys zs ns as_ es ds (xs ++ [y]):=by
 have hx:Ext (fun q=>vX.ownBlock=some q) W W':=Ext.BI g (fun _ e=>e)
 have ap:∀ {T:List TypeId},89 ∉ T→Apart W (fun q=>vX.ownBlock=some q) T:=fun h=>Apart.row C.x.own h
 have hp:Ext (fun q=>q=w.heap.size+1+1) W' (W'.setCell ⟨w.heap.size+1+1,8,none⟩ v'):=Ext.set1 _ _ _ _
 have i1:=C.i.keep hx (ap (by decide)) (fun b e=>BM C.x.own e)
 have ap1:∀ {T:List TypeId},30 ∉ T→Apart W' (fun q=>q=w.heap.size+1+1) T:=fun h=>Apart.one i1.out h
 exact ⟨i1.put 8 v',(C.j.keep hx (ap (by decide))).keep hp (ap1 (by decide)),(C.t.keep hx (ap (by decide))).keep hp (ap1 (by decide)),Ag (Ag C.n hx (ap (by decide))) hp (ap1 (by decide)),Ag (Ag C.a hx (ap (by decide))) hp (ap1 (by decide)),Ag (Ag C.e hx (ap (by decide))) hp (ap1 (by decide)),Ag (Ag C.d hx (ap (by decide))) hp (ap1 (by decide)),(C.x.push hy o g).keep hp (ap1 (by decide))⟩
end
structure EO (base:Nat) (W:World) (s s' : Aa):Prop where
 index:s'.index=s.index
 next:s'.next=s.next
 j:BC base W (.slice s'.AJ s'.nJ s'.cJ) s'.jobs
 jl:s'.nJ=s'.jobs.length
 jm:s'.jobs.map (·.1)=s.jobs.map (·.1)
 t:BC base W (.slice s'.AS s'.nS s'.cS) s'.stable
 tl:s'.nS=s'.stable.length
 tm:s'.stable.map (·.1)=s.stable.map (·.1)
 n:W.ownsRow base 43 8 (.slice s'.AN s'.nN s'.cN) s'.nodes.length (s'.nodes.flatMap NodD.cells)
 nl:s'.nN=s'.nodes.length
 nm:s'.nodes=s.nodes
 a:W.ownsRow base 55 11 (.slice s'.AA s'.nA s'.cA) s'.allocs.length (s'.allocs.flatMap Ac.cells)
 al:s'.nA=s'.allocs.length
 am:s'.allocs=s.allocs
 e:W.ownsRow base 68 4 (.slice s'.AE s'.nE s'.cE) s'.evals.length (s'.evals.flatMap EvalD.cells)
 el:s'.nE=s'.evals.length
 em:s'.evals=s.evals
 d:W.ownsRow base 74 4 (.slice s'.AD s'.nD s'.cD) s'.deploys.length (s'.deploys.flatMap DepD.cells)
 dl:s'.nD=s'.deploys.length
 dm:s'.deploys=s.deploys
 x:Gh base W (.slice s'.AX s'.nX s'.cX) s'.seen
 xl:s'.nX=s'.seen.length
 xm:s'.seen.map (·.1)=s.seen.map (·.1)
 sep:∀ q,(Value.slice s'.AJ s'.nJ s'.cJ).ownBlock=some q→(Value.slice s'.AS s'.nS s'.cS).ownBlock ≠ some q
theorem EY {α β:Type} {l l' : List (α × β)} (h:l'.map (·.1)=l.map (·.1)) {y:α × β} (hy:y∈l'):∃ x∈l,x.1=y.1:=by
 have:y.1∈l'.map (·.1):=List.mem_map_of_mem hy
 rw [h] at this
 obtain ⟨x,hx,e⟩:=List.mem_map.1 this
 exact ⟨x,hx,e⟩
theorem MQ {base:Nat} {w W:World} {v:Value} {ys l:List JobV} (h:BC base W v ys) (hm:ys.map (·.1)=l.map (·.1)) (hl:∀ x∈l,JobV.ok w x):∀ y∈ys,JobV.ok W y:=fun y hy=>by
 obtain ⟨x,hx,e⟩:=EY hm hy
 obtain ⟨h0,_,_,_,_,_,hg,_⟩:=hl x hx
 obtain ⟨A,n,c,h1,h2,h3,h4⟩:=h.grp y hy
 exact ⟨e ▸ h0,A,n,c,h1,Sl.Bd (fun _=>rfl) h2 h3,e ▸ hg,h4⟩
theorem Pn {base:Nat} {w W:World} {v:Value} {ys l:List SeenV} (h:Gh base W v ys) (hm:ys.map (·.1)=l.map (·.1)) (hl:∀ x∈l,SeenV.ok w x):∀ y∈ys,SeenV.ok W y:=fun y hy=>by
 obtain ⟨x,hx,e⟩:=EY hm hy
 obtain ⟨h0,_,_,_,_,_,hg,_⟩:=hl x hx
 obtain ⟨A,n,c,h1,h2,h3,h4⟩:=h.ans y hy
 exact ⟨e ▸ h0,A,n,c,h1,Sl.Bd (fun _=>rfl) h2 h3,e ▸ hg,h4⟩
theorem EO.ok {base:Nat} {w W:World} {s s' : Aa} (C:EO base W s s') (h:s.Ok w):s'.Ok W:=by
 have e1:s'.jobs.length=s.jobs.length:=by have:=congrArg List.length C.jm;simpa using this
 have e2:s'.stable.length=s.stable.length:=by have:=congrArg List.length C.tm;simpa using this
 have e3:s'.seen.length=s.seen.length:=by have:=congrArg List.length C.xm;simpa using this
 have l1:=h.sJ.len
 have l2:=h.sS.len
 have l3:=h.sX.len
 have l4:=h.sN.len
 have l5:=h.sA.len
 have l6:=h.sE.len
 have l7:=h.sD.len
 have m1:=h.mJ
 have m2:=h.mS
 have m3:=h.mX
 have m4:=h.mN
 have m5:=h.mA
 have m6:=h.mE
 have m7:=h.mD
 refine ⟨Sl.Bd (fun _=>rfl) (by rw [C.jl];exact C.jl ▸ C.j.own) C.jl,MQ C.j C.jm h.kJ,by rw [C.jl];omega,Sl.Bd (fun _=>rfl) (by rw [C.tl];exact C.tl ▸ C.t.own) C.tl,MQ C.t C.tm h.kS,by rw [C.tl];omega,
  Sl.Bd (fun _=>rfl) (by rw [C.nl];exact C.nl ▸ C.n) C.nl,C.nm ▸ h.kN,by rw [C.nl,C.nm];omega,Sl.Bd (fun _=>rfl) (by rw [C.al];exact C.al ▸ C.a) C.al,C.am ▸ h.kA,by rw [C.al,C.am];omega,
  Sl.Bd (fun _=>rfl) (by rw [C.el];exact C.el ▸ C.e) C.el,C.em ▸ h.kE,by rw [C.el,C.em];omega,Sl.Bd (fun _=>rfl) (by rw [C.dl];exact C.dl ▸ C.d) C.dl,C.dm ▸ h.kD,by rw [C.dl,C.dm];omega,
  Sl.Bd (fun _=>rfl) (by rw [C.xl];exact C.xl ▸ C.x.own) C.xl,Pn C.x C.xm h.kX,by rw [C.xl];omega⟩
end
end Go.Proofs.YtccekmeifanipaaGreat
