/- Parts of the proof: Same -/
import Derived.BigQuiet
import Derived.Test.YtccekmeifanipaaGreatT07
import Derived.Test.YtccekmeifanipaaGreatT06
import Derived.Test.YtccekmeifanipaaGreatT02
namespace Go.Proofs.YtccekmeifanipaaGreat
set_option linter.unusedVariables false
set_option linter.unusedSimpArgs false
set_option linter.unusedSectionVars false
open Go.RowKit
set_option maxRecDepth 100000 in
set_option maxHeartbeats 4000000 in
theorem LP (x:Aq) (A1:Option Addr) (n c1:Nat) (A2:Option Addr) (c2:Nat) (w:World) (h1:Sl w 3 A1 n (x.groups.map Ao.cells)) (h2:Sl w 3 A2 n (x.groups.map Ao.cells)) (hn:n≤1048576) :
  Calls Tryz.prog 28 #[.agg #[.int .i64 x.id,.int .i64 x.ty,.int .i64 x.prio,.int .i64 x.par,.slice A1 n c1,.int .i64 x.ver,.bool x.stopped],.agg #[.int .i64 x.id,.int .i64 x.ty,.int .i64 x.prio,.int .i64 x.par,.slice A2 n c2,.int .i64 x.ver,.bool x.stopped]] w fun e w'=>e=.returned (.bool true)∧Ext Nothing w w':=by
 have hx0:Ext Nothing w ((w.alloc (.cells #[.int .i64 x.id,.int .i64 x.ty,.int .i64 x.prio,.int .i64 x.par,.slice A1 n c1,.int .i64 x.ver,.bool x.stopped] 39)).alloc (.cells #[.int .i64 x.id,.int .i64 x.ty,.int .i64 x.prio,.int .i64 x.par,.slice A2 n c2,.int .i64 x.ver,.bool x.stopped] 39)):=Ext.Ay
 have b1:Blk ((w.alloc (.cells #[.int .i64 x.id,.int .i64 x.ty,.int .i64 x.prio,.int .i64 x.par,.slice A1 n c1,.int .i64 x.ver,.bool x.stopped] 39)).alloc (.cells #[.int .i64 x.id,.int .i64 x.ty,.int .i64 x.prio,.int .i64 x.par,.slice A2 n c2,.int .i64 x.ver,.bool x.stopped] 39)) w.heap.size 39 #[.int .i64 x.id,.int .i64 x.ty,.int .i64 x.prio,.int .i64 x.par,.slice A1 n c1,.int .i64 x.ver,.bool x.stopped]:=(Blk.new w _ _).e0 Ext.Ay
 have b2:Blk ((w.alloc (.cells #[.int .i64 x.id,.int .i64 x.ty,.int .i64 x.prio,.int .i64 x.par,.slice A1 n c1,.int .i64 x.ver,.bool x.stopped] 39)).alloc (.cells #[.int .i64 x.id,.int .i64 x.ty,.int .i64 x.prio,.int .i64 x.par,.slice A2 n c2,.int .i64 x.ver,.bool x.stopped] 39)) (w.heap.size+1) 39 #[.int .i64 x.id,.int .i64 x.ty,.int .i64 x.prio,.int .i64 x.par,.slice A2 n c2,.int .i64 x.ver,.bool x.stopped]:=Blk.new' _ _ _ (by simp)
 go_enter Tryz.func28,Tryz.ntmps28
 go_wp2
 generalize ((w.alloc (.cells #[.int .i64 x.id,.int .i64 x.ty,.int .i64 x.prio,.int .i64 x.par,.slice A1 n c1,.int .i64 x.ver,.bool x.stopped] 39)).alloc (.cells #[.int .i64 x.id,.int .i64 x.ty,.int .i64 x.prio,.int .i64 x.par,.slice A2 n c2,.int .i64 x.ver,.bool x.stopped] 39))=W at hx0 b1 b2 ⊢
 go_loopw [5] (fun i wr=>∃ t:Nat,t≤n∧i=.int .i64 t∧Ext Nothing W wr) (fun i _=>n - (intOf i).toNat)
 case atStart=>exact ⟨0,Nat.zero_le _,rfl,Ext.refl _ _⟩
 case round =>
  obtain ⟨t,ht,rfl,hx⟩:=hrel
  have q1:wr.cell? ⟨w.heap.size,4,none⟩=some (.slice A1 n c1):=(b1.e0 hx).cell 4
  have q2:wr.cell? ⟨w.heap.size+1,4,none⟩=some (.slice A2 n c2):=(b2.e0 hx).cell 4
  by_cases hlt:t < n
  ·have hxw:=hx0.tr hx
   obtain ⟨hjn,d1,f1,hA1,hc1⟩:=h1.get hxw hlt
   obtain ⟨_,d2,f2,hA2,hc2⟩:=h2.get hxw hlt
   rw [hA1] at q1
   rw [hA2] at q2
   have HA1:=Lib.hid hA1
   have HA2:=Lib.hid hA2
   clear hA1 hA2
   generalize x.groups[t]=g at hc1 hc2
   have r0:wr.cell? ⟨d1,f1+t*3,none⟩=some (.int .i64 g.count):=hc1 0 _ rfl
   have r1:wr.cell? ⟨d1,f1+t*3+1,none⟩=some (.int .i64 g.ask.cpu):=hc1 1 _ rfl
   have r2:wr.cell? ⟨d1,f1+t*3+2,none⟩=some (.int .i64 g.ask.mem):=hc1 2 _ rfl
   have s0:wr.cell? ⟨d2,f2+t*3,none⟩=some (.int .i64 g.count):=hc2 0 _ rfl
   have s1:wr.cell? ⟨d2,f2+t*3+1,none⟩=some (.int .i64 g.ask.cpu):=hc2 1 _ rfl
   have s2:wr.cell? ⟨d2,f2+t*3+2,none⟩=some (.int .i64 g.ask.mem):=hc2 2 _ rfl
   have hk0:(0:Int)≤(t:Int):=by omega
   have hk1:(t:Int) < n:=by omega
   go_wp2
   go_quiet (fail)
   go_wp2
   go_roundw
   case rel=>exact ⟨t+1,by omega,by go_num,hx.trans (by (with_reducible repeat' first|assumption|exact Ext.refl _ _|refine Ext.alloc ?_ _|refine Ext.drew ?_|refine Ext.drewN ?_ _|refine xS ?_ (by simp only [World.size_alloc,World.size_setCell,World.size_drew] <;> omega) _|refine Ext.tr ?_ (by assumption))) (fun _ _ e=>e)⟩
   case measure=>simp [intOf];omega
  go_wp2
  go_ret
  exact ⟨rfl,hx0.tr hx⟩
set_option maxRecDepth 100000 in
set_option maxHeartbeats 4000000 in
theorem JO (l:List Ac) (A1:Option Addr) (n c1:Nat) (A2:Option Addr) (c2:Nat) (w:World) (h1:Sl w 11 A1 n (l.map Ac.cells)) (h2:Sl w 11 A2 n (l.map Ac.cells)) (hn:n≤1048576) :
  Calls Tryz.prog 40 #[.slice A1 n c1,.slice A2 n c2] w fun e w'=>e=.returned (.bool true)∧Ext Nothing w w':=by
 go_enter Tryz.func40,Tryz.ntmps40
 go_wp2
 go_loopw [5] (fun i wr=>∃ t:Nat,t≤n∧i=.int .i64 t∧Ext Nothing w wr) (fun i _=>n - (intOf i).toNat)
 case atStart=>exact ⟨0,Nat.zero_le _,rfl,Ext.refl _ _⟩
 case round =>
  obtain ⟨t,ht,rfl,hx⟩:=hrel
  by_cases hlt:t < n
  ·obtain ⟨hjn,d1,f1,rfl,hc1⟩:=h1.get hx hlt
   obtain ⟨_,d2,f2,rfl,hc2⟩:=h2.get hx hlt
   generalize l[t]=x at hc1 hc2
   have r0:wr.cell? ⟨d1,f1+t*11,none⟩=some (.int .i64 x.id):=hc1 0 _ rfl
   have r1:wr.cell? ⟨d1,f1+t*11+1,none⟩=some (.int .i64 x.job):=hc1 1 _ rfl
   have r2:wr.cell? ⟨d1,f1+t*11+2,none⟩=some (.int .i64 x.ver):=hc1 2 _ rfl
   have r3:wr.cell? ⟨d1,f1+t*11+3,none⟩=some (.int .i64 x.group):=hc1 3 _ rfl
   have r4:wr.cell? ⟨d1,f1+t*11+4,none⟩=some (.int .i64 x.index):=hc1 4 _ rfl
   have r5:wr.cell? ⟨d1,f1+t*11+5,none⟩=some (.int .i64 x.node):=hc1 5 _ rfl
   have r6:wr.cell? ⟨d1,f1+t*11+6,none⟩=some (.int .i64 x.epoch):=hc1 6 _ rfl
   have r7:wr.cell? ⟨d1,f1+t*11+7,none⟩=some (.int .i64 x.ask.cpu):=hc1 7 _ rfl
   have r8:wr.cell? ⟨d1,f1+t*11+8,none⟩=some (.int .i64 x.ask.mem):=hc1 8 _ rfl
   have r9:wr.cell? ⟨d1,f1+t*11+9,none⟩=some (.bool x.stop):=hc1 9 _ rfl
   have r10:wr.cell? ⟨d1,f1+t*11+10,none⟩=some (.int .i64 x.state):=hc1 10 _ rfl
   have s0:wr.cell? ⟨d2,f2+t*11,none⟩=some (.int .i64 x.id):=hc2 0 _ rfl
   have s1:wr.cell? ⟨d2,f2+t*11+1,none⟩=some (.int .i64 x.job):=hc2 1 _ rfl
   have s2:wr.cell? ⟨d2,f2+t*11+2,none⟩=some (.int .i64 x.ver):=hc2 2 _ rfl
   have s3:wr.cell? ⟨d2,f2+t*11+3,none⟩=some (.int .i64 x.group):=hc2 3 _ rfl
   have s4:wr.cell? ⟨d2,f2+t*11+4,none⟩=some (.int .i64 x.index):=hc2 4 _ rfl
   have s5:wr.cell? ⟨d2,f2+t*11+5,none⟩=some (.int .i64 x.node):=hc2 5 _ rfl
   have s6:wr.cell? ⟨d2,f2+t*11+6,none⟩=some (.int .i64 x.epoch):=hc2 6 _ rfl
   have s7:wr.cell? ⟨d2,f2+t*11+7,none⟩=some (.int .i64 x.ask.cpu):=hc2 7 _ rfl
   have s8:wr.cell? ⟨d2,f2+t*11+8,none⟩=some (.int .i64 x.ask.mem):=hc2 8 _ rfl
   have s9:wr.cell? ⟨d2,f2+t*11+9,none⟩=some (.bool x.stop):=hc2 9 _ rfl
   have s10:wr.cell? ⟨d2,f2+t*11+10,none⟩=some (.int .i64 x.state):=hc2 10 _ rfl
   have hk0:(0:Int)≤(t:Int):=by omega
   have hk1:(t:Int) < n:=by omega
   go_wp2
   go_quiet (fail)
   go_wp2
   go_roundw
   case rel=>exact ⟨t+1,by omega,by go_num,hx.trans (by (with_reducible repeat' first|assumption|exact Ext.refl _ _|refine Ext.alloc ?_ _|refine Ext.drew ?_|refine Ext.drewN ?_ _|refine xS ?_ (by simp only [World.size_alloc,World.size_setCell,World.size_drew] <;> omega) _|refine Ext.tr ?_ (by assumption))) (fun _ _ e=>e)⟩
   case measure=>simp [intOf];omega
  go_wp2
  go_ret
  exact ⟨rfl,hx⟩
set_option maxHeartbeats 2000000 in
theorem Mh (r:AQ) (A1:Option Addr) (n c1:Nat) (A2:Option Addr) (c2:Nat) (w:World) (h1:Sl w 11 A1 n (r.allocs.map Ac.cells)) (h2:Sl w 11 A2 n (r.allocs.map Ac.cells)) (hn:n≤1048576) :
  Calls Tryz.prog 19 #[.agg #[.int .i64 r.code,.int .i64 r.value,.slice A1 n c1],.agg #[.int .i64 r.code,.int .i64 r.value,.slice A2 n c2]] w fun e w'=>e=.returned (.bool true)∧Ext Nothing w w':=by
 have hx0:Ext Nothing w ((w.alloc (.cells #[.int .i64 r.code,.int .i64 r.value,.slice A1 n c1] 34)).alloc (.cells #[.int .i64 r.code,.int .i64 r.value,.slice A2 n c2] 34)):=Ext.Ay
 have b1:Blk ((w.alloc (.cells #[.int .i64 r.code,.int .i64 r.value,.slice A1 n c1] 34)).alloc (.cells #[.int .i64 r.code,.int .i64 r.value,.slice A2 n c2] 34)) w.heap.size 34 #[.int .i64 r.code,.int .i64 r.value,.slice A1 n c1]:=(Blk.new w _ _).e0 Ext.Ay
 have b2:Blk ((w.alloc (.cells #[.int .i64 r.code,.int .i64 r.value,.slice A1 n c1] 34)).alloc (.cells #[.int .i64 r.code,.int .i64 r.value,.slice A2 n c2] 34)) (w.heap.size+1) 34 #[.int .i64 r.code,.int .i64 r.value,.slice A2 n c2]:=Blk.new' _ _ _ (by simp)
 have e1:=h1.Al hx0
 have e2:=h2.Al hx0
 go_enter Tryz.func19,Tryz.ntmps19
 go_wp2_with (go_at_call 40;refine (JO r.allocs A1 n c1 A2 c2 _ e1 e2 hn).mono ?_;rintro e w1 ⟨rfl,hx1⟩;have q0:w1.cell? ⟨w.heap.size,0,none⟩=some (.int .i64 r.code):=(b1.e0 hx1).cell 0;have q1:w1.cell? ⟨w.heap.size,1,none⟩=some (.int .i64 r.value):=(b1.e0 hx1).cell 1;have s0:w1.cell? ⟨w.heap.size+1,0,none⟩=some (.int .i64 r.code):=(b2.e0 hx1).cell 0;have s1:w1.cell? ⟨w.heap.size+1,1,none⟩=some (.int .i64 r.value):=(b2.e0 hx1).cell 1)
 go_ret
 exact ⟨rfl,hx0.tr hx1⟩
theorem Ob {α β:Type} {l l' : List (α × β)} (h:l'.map (·.1)=l.map (·.1)) {i:Nat} (hi:i < l.length) (hi' : i < l'.length):l'[i].1=l[i].1:=by
 have h1:(l'.map (·.1))[i]? = (l.map (·.1))[i]?:=by rw [h]
 simpa [List.getElem?_eq_getElem hi,List.getElem?_eq_getElem hi'] using h1
end Go.Proofs.YtccekmeifanipaaGreat
