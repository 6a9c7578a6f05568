/- Parts of the proof: SameL -/
import Derived.Test.YtccekmeifanipaaGreatT15
import Derived.Test.YtccekmeifanipaaGreatT25
namespace Go.Proofs.YtccekmeifanipaaGreat
set_option linter.unusedVariables false
set_option linter.unusedSimpArgs false
set_option linter.unusedSectionVars false
open Go.RowKit
theorem De.Al {w w' : World} {l:List JobV} (h:De w l) (hx:Ext Nothing w w'):De w' l:=fun x hm=>by
 obtain ⟨A,n,c,a,b,d⟩:=h x hm
 exact ⟨A,n,c,a,b.Al hx,d⟩
set_option maxRecDepth 100000 in
set_option maxHeartbeats 4000000 in
theorem Gc (l l' : List JobV) (hll:l'.map (·.1)=l.map (·.1)) (A1:Option Addr) (n c1:Nat) (A2:Option Addr) (c2:Nat) (w:World) (h1:Sl w 7 A1 n (l.map JobV.cells)) (h2:Sl w 7 A2 n (l'.map JobV.cells)) (k1:De w l) (k2:De w l') (hn:n≤1048576) :
  Calls Tryz.prog 41 #[.slice A1 n c1,.slice A2 n c2] w fun e w'=>e=.returned (.bool true)∧Ext Nothing w w':=by
 go_enter Tryz.func41,Tryz.ntmps41
 go_wp2
 go_loopw [5] (fun i wr=>∃ t:Nat,t≤n∧i=.int .i64 t∧Ext Nothing w wr) (fun i _=>n - (intOf i).toNat)
 case atStart=>exact ⟨0,Nat.zero_le _,rfl,Ext.refl _ _⟩
 case round =>
  obtain ⟨t,ht,rfl,hx⟩:=hrel
  by_cases hlt:t < n
  ·obtain ⟨hj1,d1,f1,rfl,hc1⟩:=h1.get hx hlt
   obtain ⟨hj2,d2,f2,rfl,hc2⟩:=h2.get hx hlt
   have ho1:=k1 _ (List.getElem_mem hj1)
   have ho2:=k2 _ (List.getElem_mem hj2)
   have hee:=Ob hll hj1 hj2
   generalize l[t]=y at hc1 ho1 hee
   generalize l'[t]=y' at hc2 ho2 hee
   obtain ⟨x,g1⟩:=y
   obtain ⟨x',g2⟩:=y'
   simp only at hee
   subst hee
   obtain ⟨B1,m1,b1,rfl,hs1,hm1⟩:=ho1
   obtain ⟨B2,m2,b2,rfl,hs2,hm2⟩:=ho2
   simp only at hs1 hs2
   obtain rfl:m2=m1:=by have:=hs1.len;have:=hs2.len;omega
   have hk0:(0:Int)≤(t:Int):=by omega
   have hk1:(t:Int) < n:=by omega
   have hcf1:∀ (wz:World),Ext Nothing wr wz→∀ q v,(#[.int .i64 x'.id,.int .i64 x'.ty,.int .i64 x'.prio,.int .i64 x'.par,.slice B1 m2 b1,.int .i64 x'.ver,.bool x'.stopped]:Array Value).toList[q]? = some v→wz.cell? ⟨d1,f1+t*7+q,none⟩=some v:=fun wz hz q v hv=>hz.cell (hc1 q v hv) (fun e=>e)
   have hcf2:∀ (wz:World),Ext Nothing wr wz→∀ q v,(#[.int .i64 x'.id,.int .i64 x'.ty,.int .i64 x'.prio,.int .i64 x'.par,.slice B2 m2 b2,.int .i64 x'.ver,.bool x'.stopped]:Array Value).toList[q]? = some v→wz.cell? ⟨d2,f2+t*7+q,none⟩=some v:=fun wz hz q v hv=>hz.cell (hc2 q v hv) (fun e=>e)
   go_wp2
   refine wp_region_held (S:=fun W=>Ext Nothing wr W) (by kernel_rfl) ?_
   have hd:Ext Nothing wr wr.drew:=Ext.drew (Ext.refl _ _)
   change wpAnyH _ _ _ _ _ _ _ _ wr.drew
   generalize wr.drew=Wd at hd ⊢
   refine zV 0 (.slice (some ⟨d1,f1,none⟩) n c1) rfl (by kernel_rfl) hd (fun _ _ _ h=>h) ?_ ?_
   ·intro W' hS'
    go_simp
   refine zV 1 (.int .i64 (t:Int)) rfl (by kernel_rfl) hd (fun _ _ _ h=>h) ?_ ?_
   ·intro W' hS'
    go_simp
   refine zV 2 (.pointer (some ⟨d1,f1+t*7,none⟩)) rfl (by kernel_rfl) hd (fun _ _ _ h=>h) ?_ ?_
   ·intro W' hS'
    go_simp
   refine zV 3 (.agg #[.int .i64 x'.id,.int .i64 x'.ty,.int .i64 x'.prio,.int .i64 x'.par,.slice B1 m2 b1,.int .i64 x'.ver,.bool x'.stopped]) rfl (by kernel_rfl) hd (fun _ _ _ h=>h) ?_ ?_
   ·intro W' hS'
    exact run_load_struct (sz:=7) (b:=d1) (off:=f1+t*7) rfl STJob (by go_simp) (hcf1 W' hS') rfl
   refine zV 4 (.slice (some ⟨d2,f2,none⟩) n c2) rfl (by kernel_rfl) hd (fun _ _ _ h=>h) ?_ ?_
   ·intro W' hS'
    go_simp
   refine zV 5 (.int .i64 (t:Int)) rfl (by kernel_rfl) hd (fun _ _ _ h=>h) ?_ ?_
   ·intro W' hS'
    go_simp
   refine zV 6 (.pointer (some ⟨d2,f2+t*7,none⟩)) rfl (by kernel_rfl) hd (fun _ _ _ h=>h) ?_ ?_
   ·intro W' hS'
    go_simp
   refine zV 7 (.agg #[.int .i64 x'.id,.int .i64 x'.ty,.int .i64 x'.prio,.int .i64 x'.par,.slice B2 m2 b2,.int .i64 x'.ver,.bool x'.stopped]) rfl (by kernel_rfl) hd (fun _ _ _ h=>h) ?_ ?_
   ·intro W' hS'
    exact run_load_struct (sz:=7) (b:=d2) (off:=f2+t*7) rfl STJob (by go_simp) (hcf2 W' hS') rfl
   simp only [Act.put,zA,zB,zC,zD,zE,zF]
   refine zO 8 (by kernel_rfl) ?_
   refine Ai (f:=28) (args:=#[.agg #[.int .i64 x'.id,.int .i64 x'.ty,.int .i64 x'.prio,.int .i64 x'.par,.slice B1 m2 b1,.int .i64 x'.ver,.bool x'.stopped],.agg #[.int .i64 x'.id,.int .i64 x'.ty,.int .i64 x'.prio,.int .i64 x'.par,.slice B2 m2 b2,.int .i64 x'.ver,.bool x'.stopped]]) rfl (by rfl) (by go_simp) ((LP x' B1 m2 b1 B2 b2 Wd (hs1.Al (hx.tr hd)) (hs2.Al (hx.tr hd)) (by omega)).mono ?_)
   rintro e W5 ⟨rfl,hx5⟩
   have hd5:=hd.tr hx5
   refine ⟨_,rfl,hd5,?_⟩
   simp only [Act.put,zA,zB,zC,zD,zE,zF]
   refine zO 9 (by kernel_rfl) ?_
   refine wpOp_val (v:=.bool true) (w':=W5) rfl (by rfl) (by go_simp) ⟨hd5,wpAnyH_done (by kernel_rfl) ?_ _⟩
   simp only [Act.put,zA,zB,zC,zD,zE,zF]
   go_wp2
   go_roundw
   case rel=>exact ⟨t+1,by omega,by go_num,hx.tr hd5⟩
   case measure=>simp [intOf];omega
  go_wp2
  go_ret
  exact ⟨rfl,hx⟩
theorem J5:Bb Tryz.prog 34 3:=.of (by kernel_rfl)
structure ME (a b:Aa):Prop where
 index:b.index=a.index
 next:b.next=a.next
 jobs:b.jobs.map (·.1)=a.jobs.map (·.1)
 stable:b.stable.map (·.1)=a.stable.map (·.1)
 nodes:b.nodes=a.nodes
 allocs:b.allocs=a.allocs
 evals:b.evals=a.evals
 deploys:b.deploys=a.deploys
 seen:b.seen.map (·.1)=a.seen.map (·.1)
set_option maxRecDepth 100000 in
set_option maxHeartbeats 8000000 in
theorem Ko (s:Aa) (w:World) (h:s.Lay w) (BJ:Option Addr) (dJ:Nat) (jobs:List JobV) (BS:Option Addr) (dS:Nat) (stable:List JobV) (BN:Option Addr) (dN:Nat) (BA:Option Addr) (dA:Nat) (BE:Option Addr) (dE:Nat) (BD:Option Addr) (dD:Nat) (BX:Option Addr) (dX:Nat) (seen:List SeenV)
  (eJ:jobs.map (·.1)=s.jobs.map (·.1)) (eS:stable.map (·.1)=s.stable.map (·.1)) (eX:seen.map (·.1)=s.seen.map (·.1))
  (sJ:Sl w 7 BJ s.nJ (jobs.map JobV.cells)) (kJ:De w jobs) (sS:Sl w 7 BS s.nS (stable.map JobV.cells)) (kS:De w stable)
  (sN:Sl w 8 BN s.nN (s.nodes.map NodD.cells)) (sA:Sl w 11 BA s.nA (s.allocs.map Ac.cells)) (sE:Sl w 4 BE s.nE (s.evals.map EvalD.cells)) (sD:Sl w 4 BD s.nD (s.deploys.map DepD.cells))
  (sX:Sl w 5 BX s.nX (seen.map SeenV.cells)) (kX:∀ x∈seen,∃ A n c,x.2=.slice A n c∧Sl w 11 A n (x.1.answer.allocs.map Ac.cells)∧n≤1048576) :
  Calls Tryz.prog 20 #[.agg #[.int .i64 s.index,.int .i64 s.next,.slice s.AJ s.nJ s.cJ,.slice s.AS s.nS s.cS,.slice s.AN s.nN s.cN,.slice s.AA s.nA s.cA,.slice s.AE s.nE s.cE,.slice s.AD s.nD s.cD,.slice s.AX s.nX s.cX],.agg #[.int .i64 s.index,.int .i64 s.next,.slice BJ s.nJ dJ,.slice BS s.nS dS,.slice BN s.nN dN,.slice BA s.nA dA,.slice BE s.nE dE,.slice BD s.nD dD,.slice BX s.nX dX]] w fun e w'=>e=.returned (.bool true)∧Ext Nothing w w':=by
 have hx0:Ext Nothing w ((w.alloc (.cells #[.int .i64 s.index,.int .i64 s.next,.slice s.AJ s.nJ s.cJ,.slice s.AS s.nS s.cS,.slice s.AN s.nN s.cN,.slice s.AA s.nA s.cA,.slice s.AE s.nE s.cE,.slice s.AD s.nD s.cD,.slice s.AX s.nX s.cX] 30)).alloc (.cells #[.int .i64 s.index,.int .i64 s.next,.slice BJ s.nJ dJ,.slice BS s.nS dS,.slice BN s.nN dN,.slice BA s.nA dA,.slice BE s.nE dE,.slice BD s.nD dD,.slice BX s.nX dX] 30)):=Ext.Ay
 have b1:Blk ((w.alloc (.cells #[.int .i64 s.index,.int .i64 s.next,.slice s.AJ s.nJ s.cJ,.slice s.AS s.nS s.cS,.slice s.AN s.nN s.cN,.slice s.AA s.nA s.cA,.slice s.AE s.nE s.cE,.slice s.AD s.nD s.cD,.slice s.AX s.nX s.cX] 30)).alloc (.cells #[.int .i64 s.index,.int .i64 s.next,.slice BJ s.nJ dJ,.slice BS s.nS dS,.slice BN s.nN dN,.slice BA s.nA dA,.slice BE s.nE dE,.slice BD s.nD dD,.slice BX s.nX dX] 30)) w.heap.size 30 #[.int .i64 s.index,.int .i64 s.next,.slice s.AJ s.nJ s.cJ,.slice s.AS s.nS s.cS,.slice s.AN s.nN s.cN,.slice s.AA s.nA s.cA,.slice s.AE s.nE s.cE,.slice s.AD s.nD s.cD,.slice s.AX s.nX s.cX]:=(Blk.new w _ _).e0 Ext.Ay
 have b2:Blk ((w.alloc (.cells #[.int .i64 s.index,.int .i64 s.next,.slice s.AJ s.nJ s.cJ,.slice s.AS s.nS s.cS,.slice s.AN s.nN s.cN,.slice s.AA s.nA s.cA,.slice s.AE s.nE s.cE,.slice s.AD s.nD s.cD,.slice s.AX s.nX s.cX] 30)).alloc (.cells #[.int .i64 s.index,.int .i64 s.next,.slice BJ s.nJ dJ,.slice BS s.nS dS,.slice BN s.nN dN,.slice BA s.nA dA,.slice BE s.nE dE,.slice BD s.nD dD,.slice BX s.nX dX] 30)) (w.heap.size+1) 30 #[.int .i64 s.index,.int .i64 s.next,.slice BJ s.nJ dJ,.slice BS s.nS dS,.slice BN s.nN dN,.slice BA s.nA dA,.slice BE s.nE dE,.slice BD s.nD dD,.slice BX s.nX dX]:=Blk.new' _ _ _ (by simp)
 have h2:=h.Al hx0
 have mJ:=h.mJ
 have mS:=h.mS
 have mN:=h.mN
 have mA:=h.mA
 have mE:=h.mE
 have mD:=h.mD
 have mX:=h.mX
 have kJ2:De ((w.alloc (.cells #[.int .i64 s.index,.int .i64 s.next,.slice s.AJ s.nJ s.cJ,.slice s.AS s.nS s.cS,.slice s.AN s.nN s.cN,.slice s.AA s.nA s.cA,.slice s.AE s.nE s.cE,.slice s.AD s.nD s.cD,.slice s.AX s.nX s.cX] 30)).alloc (.cells #[.int .i64 s.index,.int .i64 s.next,.slice BJ s.nJ dJ,.slice BS s.nS dS,.slice BN s.nN dN,.slice BA s.nA dA,.slice BE s.nE dE,.slice BD s.nD dD,.slice BX s.nX dX] 30)) jobs:=kJ.Al hx0
 go_enter Tryz.func20,Tryz.ntmps20
 go_wp2_with (first|(go_at_call 41;(with_reducible refine (Gc s.jobs jobs eJ s.AJ s.nJ s.cJ BJ dJ _ h2.sJ (sJ.Al hx0) h2.kJ kJ2 mJ).mono ?_);rintro e w1 ⟨rfl,hx1⟩;have y1:=hx0.tr hx1;have a3:w1.cell? ⟨w.heap.size,3,none⟩=some (.slice s.AS s.nS s.cS):=(b1.e0 hx1).cell 3;have c3:w1.cell? ⟨w.heap.size+1,3,none⟩=some (.slice BS s.nS dS):=(b2.e0 hx1).cell 3)|(go_at_call 41;(with_reducible refine (Gc s.stable stable eS s.AS s.nS s.cS BS dS _ (h.Al y1).sS (sS.Al y1) (h.Al y1).kS (kS.Al y1) mS).mono ?_);rintro e w2 ⟨rfl,hx2⟩;have y2:=y1.tr hx2;have z2:=hx1.tr hx2;have a5:w2.cell? ⟨w.heap.size,5,none⟩=some (.slice s.AA s.nA s.cA):=(b1.e0 z2).cell 5;have c5:w2.cell? ⟨w.heap.size+1,5,none⟩=some (.slice BA s.nA dA):=(b2.e0 z2).cell 5)|(go_at_call 40;(with_reducible refine (JO s.allocs s.AA s.nA s.cA BA dA _ (h.Al y2).sA (sA.Al y2) mA).mono ?_);rintro e w3 ⟨rfl,hx3⟩;have y3:=y2.tr hx3;have z3:=z2.tr hx3;have B1:=b1.e0 z3;have B2:=b2.e0 z3;have p0:w3.cell? ⟨w.heap.size,0,none⟩=some (.int .i64 s.index):=B1.cell 0;have r0:w3.cell? ⟨w.heap.size+1,0,none⟩=some (.int .i64 s.index):=B2.cell 0;have p1:w3.cell? ⟨w.heap.size,1,none⟩=some (.int .i64 s.next):=B1.cell 1;have r1:w3.cell? ⟨w.heap.size+1,1,none⟩=some (.int .i64 s.next):=B2.cell 1;have p4:w3.cell? ⟨w.heap.size,4,none⟩=some (.slice s.AN s.nN s.cN):=B1.cell 4;have r4:w3.cell? ⟨w.heap.size+1,4,none⟩=some (.slice BN s.nN dN):=B2.cell 4;have p6:w3.cell? ⟨w.heap.size,6,none⟩=some (.slice s.AE s.nE s.cE):=B1.cell 6;have r6:w3.cell? ⟨w.heap.size+1,6,none⟩=some (.slice BE s.nE dE):=B2.cell 6;have p7:w3.cell? ⟨w.heap.size,7,none⟩=some (.slice s.AD s.nD s.cD):=B1.cell 7;have r7:w3.cell? ⟨w.heap.size+1,7,none⟩=some (.slice BD s.nD dD):=B2.cell 7;have p8:w3.cell? ⟨w.heap.size,8,none⟩=some (.slice s.AX s.nX s.cX):=B1.cell 8;have r8:w3.cell? ⟨w.heap.size+1,8,none⟩=some (.slice BX s.nX dX):=B2.cell 8))
 clear p0 r0 p1 r1 p4 r4 p6 r6 p7 r7 p8 r8 kJ2 a3 c3 a5 c5 b1 b2 h2 hx1 hx2 hx3 y1 y2 z2 z3
 have hlX:=Lib.hid h.sX.len
 go_loopw [8] (fun i wr=>∃ t:Nat,t≤s.nN∧i=.int .i64 t∧Ext Nothing w3 wr) (fun i _=>s.nN - (intOf i).toNat)
 case atStart=>exact ⟨0,Nat.zero_le _,rfl,Ext.refl _ _⟩
 case round =>
  obtain ⟨t,ht,rfl,hx⟩:=hrel
  have q1:wr.cell? ⟨w.heap.size,4,none⟩=some (.slice s.AN s.nN s.cN):=(B1.e0 hx).cell 4
  have q2:wr.cell? ⟨w.heap.size+1,4,none⟩=some (.slice BN s.nN dN):=(B2.e0 hx).cell 4
  by_cases hlt:t < s.nN
  ·have hxw:=y3.tr hx
   obtain ⟨hj1,d1,f1,hA1,hc1⟩:=h.sN.get hxw hlt
   obtain ⟨hj2,d2,f2,hA2,hc2⟩:=sN.get hxw hlt
   rw [hA1] at q1
   rw [hA2] at q2
   have HA1:=Lib.hid hA1
   have HA2:=Lib.hid hA2
   clear hA1 hA2
   have hk0:(0:Int)≤(t:Int):=by omega
   have hk1:(t:Int) < s.nN:=by omega
   generalize s.nodes[t]=x at hc1 hc2
   have r0:wr.cell? ⟨d1,f1+t*8,none⟩=some (.int .i64 x.id):=hc1 0 _ rfl
   have r1:wr.cell? ⟨d1,f1+t*8+1,none⟩=some (.int .i64 x.cap.cpu):=hc1 1 _ rfl
   have r2:wr.cell? ⟨d1,f1+t*8+2,none⟩=some (.int .i64 x.cap.mem):=hc1 2 _ rfl
   have r3:wr.cell? ⟨d1,f1+t*8+3,none⟩=some (.bool x.up):=hc1 3 _ rfl
   have r4:wr.cell? ⟨d1,f1+t*8+4,none⟩=some (.bool x.drain):=hc1 4 _ rfl
   have r5:wr.cell? ⟨d1,f1+t*8+5,none⟩=some (.int .i64 x.boot):=hc1 5 _ rfl
   have r6:wr.cell? ⟨d1,f1+t*8+6,none⟩=some (.int .i64 x.epoch):=hc1 6 _ rfl
   have r7:wr.cell? ⟨d1,f1+t*8+7,none⟩=some (.int .i64 x.seq):=hc1 7 _ rfl
   have s0:wr.cell? ⟨d2,f2+t*8,none⟩=some (.int .i64 x.id):=hc2 0 _ rfl
   have s1:wr.cell? ⟨d2,f2+t*8+1,none⟩=some (.int .i64 x.cap.cpu):=hc2 1 _ rfl
   have s2:wr.cell? ⟨d2,f2+t*8+2,none⟩=some (.int .i64 x.cap.mem):=hc2 2 _ rfl
   have s3:wr.cell? ⟨d2,f2+t*8+3,none⟩=some (.bool x.up):=hc2 3 _ rfl
   have s4:wr.cell? ⟨d2,f2+t*8+4,none⟩=some (.bool x.drain):=hc2 4 _ rfl
   have s5:wr.cell? ⟨d2,f2+t*8+5,none⟩=some (.int .i64 x.boot):=hc2 5 _ rfl
   have s6:wr.cell? ⟨d2,f2+t*8+6,none⟩=some (.int .i64 x.epoch):=hc2 6 _ rfl
   have s7:wr.cell? ⟨d2,f2+t*8+7,none⟩=some (.int .i64 x.seq):=hc2 7 _ rfl
   go_wp2
   go_quiet (fail)
   go_wp2
   go_roundw
   case rel=>exact ⟨t+1,by omega,by go_num,hx.trans (by (with_reducible repeat' first|assumption|exact Ext.refl _ _|refine Ext.alloc ?_ _|refine Ext.drew ?_|refine Ext.drewN ?_ _|refine xS ?_ (by simp only [World.size_alloc,World.size_setCell,World.size_drew] <;> omega) _|refine Ext.tr ?_ (by assumption))) (fun _ _ e=>e)⟩
   case measure=>simp [intOf];omega
  go_wp2
  obtain ⟨wo4,rfl⟩ : ∃ wo:World,wo=wr:=⟨_,rfl⟩
  clear q1 q2 hlt ht
  go_loopw [9] (fun i wr=>∃ t:Nat,t≤s.nE∧i=.int .i64 t∧Ext Nothing w3 wr) (fun i _=>s.nE - (intOf i).toNat)
  case atStart=>exact ⟨0,Nat.zero_le _,rfl,hx⟩
  case round =>
   clear hx
   obtain ⟨t,ht,rfl,hx⟩:=hrel
   have q1:wr.cell? ⟨w.heap.size,6,none⟩=some (.slice s.AE s.nE s.cE):=(B1.e0 hx).cell 6
   have q2:wr.cell? ⟨w.heap.size+1,6,none⟩=some (.slice BE s.nE dE):=(B2.e0 hx).cell 6
   by_cases hlt:t < s.nE
   ·have hxw:=y3.tr hx
    obtain ⟨hj1,d1,f1,hA1,hc1⟩:=h.sE.get hxw hlt
    obtain ⟨hj2,d2,f2,hA2,hc2⟩:=sE.get hxw hlt
    rw [hA1] at q1
    rw [hA2] at q2
    have HA1:=Lib.hid hA1
    have HA2:=Lib.hid hA2
    clear hA1 hA2
    have hk0:(0:Int)≤(t:Int):=by omega
    have hk1:(t:Int) < s.nE:=by omega
    generalize s.evals[t]=x at hc1 hc2
    have r0:wr.cell? ⟨d1,f1+t*4,none⟩=some (.int .i64 x.job):=hc1 0 _ rfl
    have r1:wr.cell? ⟨d1,f1+t*4+1,none⟩=some (.int .i64 x.prio):=hc1 1 _ rfl
    have r2:wr.cell? ⟨d1,f1+t*4+2,none⟩=some (.int .i64 x.state):=hc1 2 _ rfl
    have r3:wr.cell? ⟨d1,f1+t*4+3,none⟩=some (.int .i64 x.index):=hc1 3 _ rfl
    have s0:wr.cell? ⟨d2,f2+t*4,none⟩=some (.int .i64 x.job):=hc2 0 _ rfl
    have s1:wr.cell? ⟨d2,f2+t*4+1,none⟩=some (.int .i64 x.prio):=hc2 1 _ rfl
    have s2:wr.cell? ⟨d2,f2+t*4+2,none⟩=some (.int .i64 x.state):=hc2 2 _ rfl
    have s3:wr.cell? ⟨d2,f2+t*4+3,none⟩=some (.int .i64 x.index):=hc2 3 _ rfl
    go_wp2
    go_quiet (fail)
    go_wp2
    go_roundw
    case rel=>exact ⟨t+1,by omega,by go_num,hx.trans (by (with_reducible repeat' first|assumption|exact Ext.refl _ _|refine Ext.alloc ?_ _|refine Ext.drew ?_|refine Ext.drewN ?_ _|refine xS ?_ (by simp only [World.size_alloc,World.size_setCell,World.size_drew] <;> omega) _|refine Ext.tr ?_ (by assumption))) (fun _ _ e=>e)⟩
    case measure=>simp [intOf];omega
   go_wp2
   obtain ⟨wo6,rfl⟩ : ∃ wo:World,wo=wr:=⟨_,rfl⟩
   clear q1 q2 hlt ht
   go_loopw [10] (fun i wr=>∃ t:Nat,t≤s.nD∧i=.int .i64 t∧Ext Nothing w3 wr) (fun i _=>s.nD - (intOf i).toNat)
   case atStart=>exact ⟨0,Nat.zero_le _,rfl,hx⟩
   case round =>
    clear hx
    obtain ⟨t,ht,rfl,hx⟩:=hrel
    have q1:wr.cell? ⟨w.heap.size,7,none⟩=some (.slice s.AD s.nD s.cD):=(B1.e0 hx).cell 7
    have q2:wr.cell? ⟨w.heap.size+1,7,none⟩=some (.slice BD s.nD dD):=(B2.e0 hx).cell 7
    by_cases hlt:t < s.nD
    ·have hxw:=y3.tr hx
     obtain ⟨hj1,d1,f1,hA1,hc1⟩:=h.sD.get hxw hlt
     obtain ⟨hj2,d2,f2,hA2,hc2⟩:=sD.get hxw hlt
     rw [hA1] at q1
     rw [hA2] at q2
     have HA1:=Lib.hid hA1
     have HA2:=Lib.hid hA2
     clear hA1 hA2
     have hk0:(0:Int)≤(t:Int):=by omega
     have hk1:(t:Int) < s.nD:=by omega
     generalize s.deploys[t]=x at hc1 hc2
     have r0:wr.cell? ⟨d1,f1+t*4,none⟩=some (.int .i64 x.job):=hc1 0 _ rfl
     have r1:wr.cell? ⟨d1,f1+t*4+1,none⟩=some (.int .i64 x.ver):=hc1 1 _ rfl
     have r2:wr.cell? ⟨d1,f1+t*4+2,none⟩=some (.int .i64 x.state):=hc1 2 _ rfl
     have r3:wr.cell? ⟨d1,f1+t*4+3,none⟩=some (.int .i64 x.index):=hc1 3 _ rfl
     have s0:wr.cell? ⟨d2,f2+t*4,none⟩=some (.int .i64 x.job):=hc2 0 _ rfl
     have s1:wr.cell? ⟨d2,f2+t*4+1,none⟩=some (.int .i64 x.ver):=hc2 1 _ rfl
     have s2:wr.cell? ⟨d2,f2+t*4+2,none⟩=some (.int .i64 x.state):=hc2 2 _ rfl
     have s3:wr.cell? ⟨d2,f2+t*4+3,none⟩=some (.int .i64 x.index):=hc2 3 _ rfl
     go_wp2
     go_quiet (fail)
     go_wp2
     go_roundw
     case rel=>exact ⟨t+1,by omega,by go_num,hx.trans (by (with_reducible repeat' first|assumption|exact Ext.refl _ _|refine Ext.alloc ?_ _|refine Ext.drew ?_|refine Ext.drewN ?_ _|refine xS ?_ (by simp only [World.size_alloc,World.size_setCell,World.size_drew] <;> omega) _|refine Ext.tr ?_ (by assumption))) (fun _ _ e=>e)⟩
     case measure=>simp [intOf];omega
    go_wp2
    obtain ⟨wo7,rfl⟩ : ∃ wo:World,wo=wr:=⟨_,rfl⟩
    clear q1 q2 hlt ht
    go_loopw [11] (fun i wr=>∃ t:Nat,t≤s.nX∧i=.int .i64 t∧Ext Nothing w3 wr) (fun i _=>s.nX - (intOf i).toNat)
    case atStart=>exact ⟨0,Nat.zero_le _,rfl,hx⟩
    case round =>
     clear hx
     obtain ⟨t,ht,rfl,hx⟩:=hrel
     have q1:wr.cell? ⟨w.heap.size,8,none⟩=some (.slice s.AX s.nX s.cX):=(B1.e0 hx).cell 8
     have q2:wr.cell? ⟨w.heap.size+1,8,none⟩=some (.slice BX s.nX dX):=(B2.e0 hx).cell 8
     by_cases hlt:t < s.nX
     ·have hxw:=y3.tr hx
      obtain ⟨hj1,d1,f1,hA1,hc1⟩:=h.sX.get hxw hlt
      obtain ⟨hj2,d2,f2,hA2,hc2⟩:=sX.get hxw hlt
      have ho1:=h.kX _ (List.getElem_mem hj1)
      have ho2:=kX _ (List.getElem_mem hj2)
      have hee:=Ob eX hj1 hj2
      rw [hA1] at q1
      rw [hA2] at q2
      have HA1:=Lib.hid hA1
      have HA2:=Lib.hid hA2
      clear hA1 hA2
      have hk0:(0:Int)≤(t:Int):=by omega
      have hk1:(t:Int) < s.nX:=by omega
      generalize s.seen[t]=y at hc1 ho1 hee
      generalize seen[t]=y' at hc2 ho2 hee
      obtain ⟨x,g1⟩:=y
      obtain ⟨x',g2⟩:=y'
      simp only at hee
      subst hee
      obtain ⟨B1a,m1,b1,rfl,hs1,hm1⟩:=ho1
      obtain ⟨B2a,m2,b2,rfl,hs2,hm2⟩:=ho2
      simp only at hs1 hs2
      obtain rfl:m2=m1:=by have:=hs1.len;have:=hs2.len;omega
      have hcf1:∀ (wz:World),Ext Nothing wr wz→∀ q v,(#[.int .i64 x'.answer.code,.int .i64 x'.answer.value,.slice B1a m2 b1]:Array Value).toList[q]? = some v→wz.cell? ⟨d1,f1+t*5+2+q,none⟩=some v:=fun wz hz q v hv=>hz.cell (by have:=hc1 (2+q) v (by rw [show SeenV.cells _=[Value.int .i64 x'.client,.int .i64 x'.req] ++ (#[.int .i64 x'.answer.code,.int .i64 x'.answer.value,.slice B1a m2 b1]:Array Value).toList from rfl,List.getElem?_append_right (by simp)];simpa using hv);rw [← Nat.add_assoc] at this;exact this) (fun e=>e)
      have hcf2:∀ (wz:World),Ext Nothing wr wz→∀ q v,(#[.int .i64 x'.answer.code,.int .i64 x'.answer.value,.slice B2a m2 b2]:Array Value).toList[q]? = some v→wz.cell? ⟨d2,f2+t*5+2+q,none⟩=some v:=fun wz hz q v hv=>hz.cell (by have:=hc2 (2+q) v (by rw [show SeenV.cells _=[Value.int .i64 x'.client,.int .i64 x'.req] ++ (#[.int .i64 x'.answer.code,.int .i64 x'.answer.value,.slice B2a m2 b2]:Array Value).toList from rfl,List.getElem?_append_right (by simp)];simpa using hv);rw [← Nat.add_assoc] at this;exact this) (fun e=>e)
      go_wp2
      refine wp_region_held (S:=fun W=>Ext Nothing wr W) (by kernel_rfl) ?_
      have hd:Ext Nothing wr wr.drew:=Ext.drew (Ext.refl _ _)
      change wpAnyH _ _ _ _ _ _ _ _ wr.drew
      generalize wr.drew=Wd at hd ⊢
      refine zV 0 (.pointer (some ⟨w.heap.size,8,none⟩)) rfl (by kernel_rfl) hd (fun _ _ _ h=>h) ?_ ?_
      ·intro W' hS'
       go_simp
      refine zV 1 (.slice (some ⟨d1,f1,none⟩) s.nX s.cX) rfl (by kernel_rfl) hd (fun _ _ _ h=>h) ?_ ?_
      ·intro W' hS'
       have q3:W'.cell? ⟨w.heap.size,8,none⟩=some (.slice (some ⟨d1,f1,none⟩) s.nX s.cX):=hS'.c0 q1
       go_simp
      refine zV 2 (.int .i64 (t:Int)) rfl (by kernel_rfl) hd (fun _ _ _ h=>h) ?_ ?_
      ·intro W' hS'
       go_simp
      refine zV 3 (.pointer (some ⟨d1,f1+t*5,none⟩)) rfl (by kernel_rfl) hd (fun _ _ _ h=>h) ?_ ?_
      ·intro W' hS'
       go_simp
      refine zV 4 (.pointer (some ⟨d1,f1+t*5+2,none⟩)) rfl (by kernel_rfl) hd (fun _ _ _ h=>h) ?_ ?_
      ·intro W' hS'
       go_simp
      refine zV 5 (.agg #[.int .i64 x'.answer.code,.int .i64 x'.answer.value,.slice B1a m2 b1]) rfl (by kernel_rfl) hd (fun _ _ _ h=>h) ?_ ?_
      ·intro W' hS'
       exact run_load_struct (sz:=3) (b:=d1) (off:=f1+t*5+2) rfl J5 (by go_simp) (hcf1 W' hS') rfl
      refine zV 6 (.pointer (some ⟨w.heap.size+1,8,none⟩)) rfl (by kernel_rfl) hd (fun _ _ _ h=>h) ?_ ?_
      ·intro W' hS'
       go_simp
      refine zV 7 (.slice (some ⟨d2,f2,none⟩) s.nX dX) rfl (by kernel_rfl) hd (fun _ _ _ h=>h) ?_ ?_
      ·intro W' hS'
       have q3:W'.cell? ⟨w.heap.size+1,8,none⟩=some (.slice (some ⟨d2,f2,none⟩) s.nX dX):=hS'.c0 q2
       go_simp
      refine zV 8 (.int .i64 (t:Int)) rfl (by kernel_rfl) hd (fun _ _ _ h=>h) ?_ ?_
      ·intro W' hS'
       go_simp
      refine zV 9 (.pointer (some ⟨d2,f2+t*5,none⟩)) rfl (by kernel_rfl) hd (fun _ _ _ h=>h) ?_ ?_
      ·intro W' hS'
       go_simp
      refine zV 10 (.pointer (some ⟨d2,f2+t*5+2,none⟩)) rfl (by kernel_rfl) hd (fun _ _ _ h=>h) ?_ ?_
      ·intro W' hS'
       go_simp
      refine zV 11 (.agg #[.int .i64 x'.answer.code,.int .i64 x'.answer.value,.slice B2a m2 b2]) rfl (by kernel_rfl) hd (fun _ _ _ h=>h) ?_ ?_
      ·intro W' hS'
       exact run_load_struct (sz:=3) (b:=d2) (off:=f2+t*5+2) rfl J5 (by go_simp) (hcf2 W' hS') rfl
      simp only [Act.put,zA,zB,zC,zD,zE,zF]
      refine zO 12 (by kernel_rfl) ?_
      refine Ai (f:=19) (args:=#[.agg #[.int .i64 x'.answer.code,.int .i64 x'.answer.value,.slice B1a m2 b1],.agg #[.int .i64 x'.answer.code,.int .i64 x'.answer.value,.slice B2a m2 b2]]) rfl (by rfl) (by go_simp) ((Mh x'.answer B1a m2 b1 B2a b2 Wd (hs1.Al (hxw.tr hd)) (hs2.Al (hxw.tr hd)) (by omega)).mono ?_)
      rintro e W5 ⟨rfl,hx5⟩
      have hd5:=hd.tr hx5
      refine ⟨_,rfl,hd5,?_⟩
      simp only [Act.put,zA,zB,zC,zD,zE,zF]
      refine zO 13 (by kernel_rfl) ?_
      refine wpOp_val (v:=.bool true) (w':=W5) rfl (by rfl) (by go_simp) ⟨hd5,wpAnyH_done (by kernel_rfl) ?_ _⟩
      simp only [Act.put,zA,zB,zC,zD,zE,zF]
      have u1:W5.cell? ⟨w.heap.size,8,none⟩=some (.slice (some ⟨d1,f1,none⟩) s.nX s.cX):=hd5.c0 q1
      have u2:W5.cell? ⟨w.heap.size+1,8,none⟩=some (.slice (some ⟨d2,f2,none⟩) s.nX dX):=hd5.c0 q2
      have v10:W5.cell? ⟨d1,f1+t*5,none⟩=some (.int .i64 x'.client):=hd5.cell (hc1 0 _ rfl) (fun e=>e)
      have v11:W5.cell? ⟨d1,f1+t*5+1,none⟩=some (.int .i64 x'.req):=hd5.cell (hc1 1 _ rfl) (fun e=>e)
      have v20:W5.cell? ⟨d2,f2+t*5,none⟩=some (.int .i64 x'.client):=hd5.cell (hc2 0 _ rfl) (fun e=>e)
      have v21:W5.cell? ⟨d2,f2+t*5+1,none⟩=some (.int .i64 x'.req):=hd5.cell (hc2 1 _ rfl) (fun e=>e)
      clear q1 q2
      have hd6:=hx.tr hd5
      go_wp2
      go_quiet (fail)
      go_wp2
      go_roundw
      case rel=>exact ⟨t+1,by omega,by go_num,hd6.trans (by (with_reducible repeat' first|assumption|exact Ext.refl _ _|refine Ext.alloc ?_ _|refine Ext.drew ?_|refine Ext.drewN ?_ _|refine xS ?_ (by simp only [World.size_alloc,World.size_setCell,World.size_drew] <;> omega) _|refine Ext.tr ?_ (by assumption))) (fun _ _ e=>e)⟩
      case measure=>simp [intOf];omega
     go_wp2
     go_ret
     exact ⟨rfl,y3.tr hx⟩
theorem Im (a b:Aa) (w:World) (ha:a.Lay w) (hb:b.Lay w) (hs:ME a b):Calls Tryz.prog 20 #[.agg #[.int .i64 a.index,.int .i64 a.next,.slice a.AJ a.nJ a.cJ,.slice a.AS a.nS a.cS,.slice a.AN a.nN a.cN,.slice a.AA a.nA a.cA,.slice a.AE a.nE a.cE,.slice a.AD a.nD a.cD,.slice a.AX a.nX a.cX],.agg #[.int .i64 b.index,.int .i64 b.next,.slice b.AJ b.nJ b.cJ,.slice b.AS b.nS b.cS,.slice b.AN b.nN b.cN,.slice b.AA b.nA b.cA,.slice b.AE b.nE b.cE,.slice b.AD b.nD b.cD,.slice b.AX b.nX b.cX]] w fun e w'=>e=.returned (.bool true)∧Ext Nothing w w':=by
 obtain ⟨i,nx,AJ,nJ,cJ,jobs,AS,nS,cS,stable,AN,nN,cN,nodes,AA,nA,cA,allocs,AE,nE,cE,evals,AD,nD,cD,deploys,AX,nX,cX,seen⟩:=b
 obtain ⟨e1,e2,e3,e4,e5,e6,e7,e8,e9⟩:=hs
 simp only at e1 e2 e3 e4 e5 e6 e7 e8 e9
 subst e1 e2 e5 e6 e7 e8
 obtain rfl:nJ=a.nJ:=by have l1:=hb.sJ.len;have l2:=ha.sJ.len;have l3:=congrArg List.length e3;simp only [List.length_map] at l3 l1;omega
 obtain rfl:nS=a.nS:=by have l1:=hb.sS.len;have l2:=ha.sS.len;have l3:=congrArg List.length e4;simp only [List.length_map] at l3 l1;omega
 obtain rfl:nX=a.nX:=by have l1:=hb.sX.len;have l2:=ha.sX.len;have l3:=congrArg List.length e9;simp only [List.length_map] at l3 l1;omega
 obtain rfl:nN=a.nN:=by have l1:=hb.sN.len;have l2:=ha.sN.len;simp only at l1;omega
 obtain rfl:nA=a.nA:=by have l1:=hb.sA.len;have l2:=ha.sA.len;simp only at l1;omega
 obtain rfl:nE=a.nE:=by have l1:=hb.sE.len;have l2:=ha.sE.len;simp only at l1;omega
 obtain rfl:nD=a.nD:=by have l1:=hb.sD.len;have l2:=ha.sD.len;simp only at l1;omega
 exact Ko a w ha AJ cJ jobs AS cS stable AN cN AA cA AE cE AD cD AX cX seen e3 e4 e9 hb.sJ hb.kJ hb.sS hb.kS hb.sN hb.sA hb.sE hb.sD hb.sX hb.kX
end Go.Proofs.YtccekmeifanipaaGreat
