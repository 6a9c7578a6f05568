/- Parts of the proof: SameA -/
import Derived.Deep.CutRange
import Derived.Test.YtccekmeifanipaaGreatS30
namespace Go.Proofs.YtccekmeifanipaaGreat
set_option linter.unusedVariables false
set_option linter.unusedSimpArgs false
set_option linter.unusedSectionVars false
open Go.RowKit
structure F6 (w:World) (e:Ending) (w' : World):Prop where
 out:∃ q,e=.returned (.bool q)∧Ext Nothing w w'
set_option maxRecDepth 100000 in
set_option maxHeartbeats 8000000 in
theorem Iz (l l' : List Ac) (A1:Option Addr) (n c1:Nat) (A2:Option Addr) (m c2:Nat) (w:World) (h1:Sl w 11 A1 n (l.map Ac.cells)) (h2:Sl w 11 A2 m (l'.map Ac.cells)) (hn:n≤1048576) (hm:m≤1048576) :
  Calls Tryz.prog 40 #[.slice A1 n c1,.slice A2 m c2] w fun e w'=>F6 w e w':=by
 cases v0:((n:Int) != (m:Int)) with
 | true =>
  go_enter Tryz.func40,Tryz.ntmps40
  go_wp2
  go_ret
  exact ⟨⟨_,rfl,Ext.refl _ _⟩⟩
 | false =>
  obtain rfl:m=n:=by simp at v0;omega
  go_enter Tryz.func40,Tryz.ntmps40
  go_wp2
  go_loopw [5] (fun i wr=>∃ t:Nat,t≤m∧i=.int .i64 t∧Ext Nothing w wr) (fun i _=>m - (intOf i).toNat)
  case atStart=>exact ⟨0,Nat.zero_le _,rfl,Ext.refl _ _⟩
  case round =>
   obtain ⟨t,ht,rfl,hx⟩:=hrel
   by_cases hlt:t < m
   ·obtain ⟨hj1,d1,f1,rfl,hc1⟩:=h1.get hx hlt
    obtain ⟨hj2,d2,f2,rfl,hc2⟩:=h2.get hx hlt
    generalize l[t]=x at hc1
    generalize l'[t]=y at hc2
    obtain ⟨x0,x1,x2,x3,x4,x5,x6,⟨x7,x8⟩,x9,x10⟩:=x
    obtain ⟨y0,y1,y2,y3,y4,y5,y6,⟨y7,y8⟩,y9,y10⟩:=y
    have r0:wr.cell? ⟨d1,f1+t*11,none⟩=some (.int .i64 x0):=hc1 0 _ rfl
    have r1:wr.cell? ⟨d1,f1+t*11+1,none⟩=some (.int .i64 x1):=hc1 1 _ rfl
    have r2:wr.cell? ⟨d1,f1+t*11+2,none⟩=some (.int .i64 x2):=hc1 2 _ rfl
    have r3:wr.cell? ⟨d1,f1+t*11+3,none⟩=some (.int .i64 x3):=hc1 3 _ rfl
    have r4:wr.cell? ⟨d1,f1+t*11+4,none⟩=some (.int .i64 x4):=hc1 4 _ rfl
    have r5:wr.cell? ⟨d1,f1+t*11+5,none⟩=some (.int .i64 x5):=hc1 5 _ rfl
    have r6:wr.cell? ⟨d1,f1+t*11+6,none⟩=some (.int .i64 x6):=hc1 6 _ rfl
    have r7:wr.cell? ⟨d1,f1+t*11+7,none⟩=some (.int .i64 x7):=hc1 7 _ rfl
    have r8:wr.cell? ⟨d1,f1+t*11+8,none⟩=some (.int .i64 x8):=hc1 8 _ rfl
    have r9:wr.cell? ⟨d1,f1+t*11+9,none⟩=some (.bool x9):=hc1 9 _ rfl
    have r10:wr.cell? ⟨d1,f1+t*11+10,none⟩=some (.int .i64 x10):=hc1 10 _ rfl
    have s0:wr.cell? ⟨d2,f2+t*11,none⟩=some (.int .i64 y0):=hc2 0 _ rfl
    have s1:wr.cell? ⟨d2,f2+t*11+1,none⟩=some (.int .i64 y1):=hc2 1 _ rfl
    have s2:wr.cell? ⟨d2,f2+t*11+2,none⟩=some (.int .i64 y2):=hc2 2 _ rfl
    have s3:wr.cell? ⟨d2,f2+t*11+3,none⟩=some (.int .i64 y3):=hc2 3 _ rfl
    have s4:wr.cell? ⟨d2,f2+t*11+4,none⟩=some (.int .i64 y4):=hc2 4 _ rfl
    have s5:wr.cell? ⟨d2,f2+t*11+5,none⟩=some (.int .i64 y5):=hc2 5 _ rfl
    have s6:wr.cell? ⟨d2,f2+t*11+6,none⟩=some (.int .i64 y6):=hc2 6 _ rfl
    have s7:wr.cell? ⟨d2,f2+t*11+7,none⟩=some (.int .i64 y7):=hc2 7 _ rfl
    have s8:wr.cell? ⟨d2,f2+t*11+8,none⟩=some (.int .i64 y8):=hc2 8 _ rfl
    have s9:wr.cell? ⟨d2,f2+t*11+9,none⟩=some (.bool y9):=hc2 9 _ rfl
    have s10:wr.cell? ⟨d2,f2+t*11+10,none⟩=some (.int .i64 y10):=hc2 10 _ rfl
    have hk0:(0:Int)≤(t:Int):=by omega
    have hk1:(t:Int) < m:=by omega
    go_upto_region 6 with (first|go_skip|go_guarded)
    go_cut [25] from 17 to 25 (fun e wx=>∃ q,e=.bool q∧Ext Nothing wr wx)
    case first =>
     by_cases z0:x0=y0
     ·subst z0
      by_cases z1:x1=y1
      ·subst z1
       by_cases z2:x2=y2
       ·subst z2
        by_cases z3:x3=y3
        ·subst z3
         by_cases z4:x4=y4
         ·subst z4
          by_cases z5:x5=y5
          ·subst z5
           by_cases z6:x6=y6
           ·subst z6
            by_cases z7:x7=y7
            ·subst z7
             by_cases z8:x8=y8
             ·subst z8
              by_cases z9:x9=y9
              ·subst z9
               by_cases z10:x10=y10
               ·subst z10
                go_quiet (fail);go_wp2;go_meet;exact ⟨_,rfl,Ext.Al⟩
               have e10:(x10 == y10)=false:=by simpa using z10
               go_quiet (fail);go_wp2;go_meet;exact ⟨_,rfl,Ext.Al⟩
              have e9:(x9 == y9)=false:=by cases x9 <;> cases y9 <;> first|rfl|exact absurd rfl z9
              go_quiet (fail);go_wp2;go_meet;exact ⟨_,rfl,Ext.Al⟩
             have e8:(x8 == y8)=false:=by simpa using z8
             go_quiet (fail);go_wp2;go_meet;exact ⟨_,rfl,Ext.Al⟩
            have e7:(x7 == y7)=false:=by simpa using z7
            go_quiet (fail);go_wp2;go_meet;exact ⟨_,rfl,Ext.Al⟩
           have e6:(x6 == y6)=false:=by simpa using z6
           go_quiet (fail);go_wp2;go_meet;exact ⟨_,rfl,Ext.Al⟩
          have e5:(x5 == y5)=false:=by simpa using z5
          go_quiet (fail);go_wp2;go_meet;exact ⟨_,rfl,Ext.Al⟩
         have e4:(x4 == y4)=false:=by simpa using z4
         go_quiet (fail);go_wp2;go_meet;exact ⟨_,rfl,Ext.Al⟩
        have e3:(x3 == y3)=false:=by simpa using z3
        go_quiet (fail);go_wp2;go_meet;exact ⟨_,rfl,Ext.Al⟩
       have e2:(x2 == y2)=false:=by simpa using z2
       go_quiet (fail);go_wp2;go_meet;exact ⟨_,rfl,Ext.Al⟩
      have e1:(x1 == y1)=false:=by simpa using z1
      go_quiet (fail);go_wp2;go_meet;exact ⟨_,rfl,Ext.Al⟩
     have e0:(x0 == y0)=false:=by simpa using z0
     go_quiet (fail);go_wp2;go_meet;exact ⟨_,rfl,Ext.Al⟩
    case rest =>
     obtain ⟨q,rfl,hxq⟩:=hcut
     have hx9:=hx.tr hxq
     clear hxq
     cases q with
     | true=>(go_wp2;go_ret;exact ⟨⟨_,rfl,hx9⟩⟩)
     | false =>
      go_wp2
      go_roundw
      case rel=>exact ⟨t+1,by omega,by go_num,hx9⟩
      case measure=>simp [intOf];omega
   have hnl:¬ ((t:Int) < m):=by omega
   go_wp2
   go_ret
   exact ⟨⟨_,rfl,hx⟩⟩
set_option maxRecDepth 100000 in
set_option maxHeartbeats 8000000 in
theorem Lv (a b:Aq) (A1:Option Addr) (n c1:Nat) (A2:Option Addr) (m c2:Nat) (w:World) (h1:Sl w 3 A1 n (a.groups.map Ao.cells)) (h2:Sl w 3 A2 m (b.groups.map Ao.cells)) (hn:n≤1048576) (hm:m≤1048576) :
  Calls Tryz.prog 28 #[.agg #[.int .i64 a.id,.int .i64 a.ty,.int .i64 a.prio,.int .i64 a.par,.slice A1 n c1,.int .i64 a.ver,.bool a.stopped],.agg #[.int .i64 b.id,.int .i64 b.ty,.int .i64 b.prio,.int .i64 b.par,.slice A2 m c2,.int .i64 b.ver,.bool b.stopped]] w fun e w'=>F6 w e w':=by
 obtain ⟨a0,a1,a2,a3,ag,a5,a6⟩:=a
 obtain ⟨b0,b1,b2,b3,bg,b5,b6⟩:=b
 have hx0:Ext Nothing w ((w.alloc (.cells #[.int .i64 a0,.int .i64 a1,.int .i64 a2,.int .i64 a3,.slice A1 n c1,.int .i64 a5,.bool a6] 39)).alloc (.cells #[.int .i64 b0,.int .i64 b1,.int .i64 b2,.int .i64 b3,.slice A2 m c2,.int .i64 b5,.bool b6] 39)):=Ext.Al
 have k1:Blk ((w.alloc (.cells #[.int .i64 a0,.int .i64 a1,.int .i64 a2,.int .i64 a3,.slice A1 n c1,.int .i64 a5,.bool a6] 39)).alloc (.cells #[.int .i64 b0,.int .i64 b1,.int .i64 b2,.int .i64 b3,.slice A2 m c2,.int .i64 b5,.bool b6] 39)) w.heap.size 39 #[.int .i64 a0,.int .i64 a1,.int .i64 a2,.int .i64 a3,.slice A1 n c1,.int .i64 a5,.bool a6]:=(Blk.new w _ _).e0 Ext.Al
 have k2:Blk ((w.alloc (.cells #[.int .i64 a0,.int .i64 a1,.int .i64 a2,.int .i64 a3,.slice A1 n c1,.int .i64 a5,.bool a6] 39)).alloc (.cells #[.int .i64 b0,.int .i64 b1,.int .i64 b2,.int .i64 b3,.slice A2 m c2,.int .i64 b5,.bool b6] 39)) (w.heap.size+1) 39 #[.int .i64 b0,.int .i64 b1,.int .i64 b2,.int .i64 b3,.slice A2 m c2,.int .i64 b5,.bool b6]:=Blk.new' _ _ _ (by simp)
 go_enter Tryz.func28,Tryz.ntmps28
 go_upto_region 1 with (first|go_skip|go_guarded)
 generalize w.heap.size+1=B2 at k2 ⊢
 generalize w.heap.size=B1 at k1 ⊢
 generalize ((w.alloc (.cells #[.int .i64 a0,.int .i64 a1,.int .i64 a2,.int .i64 a3,.slice A1 n c1,.int .i64 a5,.bool a6] 39)).alloc (.cells #[.int .i64 b0,.int .i64 b1,.int .i64 b2,.int .i64 b3,.slice A2 m c2,.int .i64 b5,.bool b6] 39))=W at hx0 k1 k2 ⊢
 go_cut [54] from 6 to 54 (fun e wx=>∃ q,e=.bool q∧wx=W∧(q=false→n=m))
 case first =>
  have p0:W.cell? ⟨B1,0,none⟩=some (.int .i64 a0):=k1.cell 0
  have p1:W.cell? ⟨B1,1,none⟩=some (.int .i64 a1):=k1.cell 1
  have p2:W.cell? ⟨B1,2,none⟩=some (.int .i64 a2):=k1.cell 2
  have p3:W.cell? ⟨B1,3,none⟩=some (.int .i64 a3):=k1.cell 3
  have p4:W.cell? ⟨B1,4,none⟩=some (.slice A1 n c1):=k1.cell 4
  have p5:W.cell? ⟨B1,5,none⟩=some (.int .i64 a5):=k1.cell 5
  have p6:W.cell? ⟨B1,6,none⟩=some (.bool a6):=k1.cell 6
  have q0:W.cell? ⟨B2,0,none⟩=some (.int .i64 b0):=k2.cell 0
  have q1:W.cell? ⟨B2,1,none⟩=some (.int .i64 b1):=k2.cell 1
  have q2:W.cell? ⟨B2,2,none⟩=some (.int .i64 b2):=k2.cell 2
  have q3:W.cell? ⟨B2,3,none⟩=some (.int .i64 b3):=k2.cell 3
  have q4:W.cell? ⟨B2,4,none⟩=some (.slice A2 m c2):=k2.cell 4
  have q5:W.cell? ⟨B2,5,none⟩=some (.int .i64 b5):=k2.cell 5
  have q6:W.cell? ⟨B2,6,none⟩=some (.bool b6):=k2.cell 6
  clear k1 k2
  cases v0:(a0 != b0) with
  | true=>(go_wp2_with (first|go_skip|go_guarded);go_meet;exact ⟨true,rfl,rfl,fun h=>by cases h⟩)
  | false =>
   cases v1:(a1 != b1) with
   | true=>(go_wp2_with (first|go_skip|go_guarded);go_meet;exact ⟨true,rfl,rfl,fun h=>by cases h⟩)
   | false =>
    cases v2:(a2 != b2) with
    | true=>(go_wp2_with (first|go_skip|go_guarded);go_meet;exact ⟨true,rfl,rfl,fun h=>by cases h⟩)
    | false =>
     cases v3:(a3 != b3) with
     | true=>(go_wp2_with (first|go_skip|go_guarded);go_meet;exact ⟨true,rfl,rfl,fun h=>by cases h⟩)
     | false =>
      cases v4:(a5 != b5) with
      | true=>(go_wp2_with (first|go_skip|go_guarded);go_meet;exact ⟨true,rfl,rfl,fun h=>by cases h⟩)
      | false =>
       by_cases v5:a6=b6
       ·subst v5
        cases v6:((n:Int) != (m:Int)) with
        | true=>(go_wp2_with (first|go_skip|go_guarded);go_meet;exact ⟨true,rfl,rfl,fun h=>by cases h⟩)
        | false =>
         (go_wp2_with (first|go_skip|go_guarded);go_meet;exact ⟨false,rfl,rfl,fun _=>by simp at v6;omega⟩)
       have v9:(a6 != b6)=true:=by cases a6 <;> cases b6 <;> first|rfl|exact absurd rfl v5
       (go_wp2_with (first|go_skip|go_guarded);go_meet;exact ⟨true,rfl,rfl,fun h=>by cases h⟩)
 case rest =>
  obtain ⟨q,rfl,rfl,hq⟩:=hcut
  cases q with
  | true=>(go_wp2;go_ret;exact ⟨⟨_,rfl,hx0⟩⟩)
  | false =>
   obtain rfl:=hq rfl
   clear hq
   go_wp2
   go_loopw [5] (fun i wr=>∃ t:Nat,t≤n∧i=.int .i64 t∧Ext Nothing wc wr) (fun i _=>n - (intOf i).toNat)
   case atStart=>exact ⟨0,Nat.zero_le _,rfl,Ext.refl _ _⟩
   case round =>
    obtain ⟨t,ht,rfl,hx⟩:=hrel
    have q1:wr.cell? ⟨B1,4,none⟩=some (.slice A1 n c1):=(k1.e0 hx).cell 4
    have q2:wr.cell? ⟨B2,4,none⟩=some (.slice A2 n c2):=(k2.e0 hx).cell 4
    by_cases hlt:t < n
    ·have hxw:=hx0.tr hx
     obtain ⟨hj1,d1,f1,hA1,hc1⟩:=h1.get hxw hlt
     obtain ⟨hj2,d2,f2,hA2,hc2⟩:=h2.get hxw hlt
     rw [hA1] at q1
     rw [hA2] at q2
     have HA1:=Lib.hid hA1
     have HA2:=Lib.hid hA2
     clear hA1 hA2
     generalize ag[t]=x at hc1
     generalize bg[t]=y at hc2
     obtain ⟨x0,⟨x1,x2⟩⟩:=x
     obtain ⟨y0,⟨y1,y2⟩⟩:=y
     have r0:wr.cell? ⟨d1,f1+t*3,none⟩=some (.int .i64 x0):=hc1 0 _ rfl
     have r1:wr.cell? ⟨d1,f1+t*3+1,none⟩=some (.int .i64 x1):=hc1 1 _ rfl
     have r2:wr.cell? ⟨d1,f1+t*3+2,none⟩=some (.int .i64 x2):=hc1 2 _ rfl
     have s0:wr.cell? ⟨d2,f2+t*3,none⟩=some (.int .i64 y0):=hc2 0 _ rfl
     have s1:wr.cell? ⟨d2,f2+t*3+1,none⟩=some (.int .i64 y1):=hc2 1 _ rfl
     have s2:wr.cell? ⟨d2,f2+t*3+2,none⟩=some (.int .i64 y2):=hc2 2 _ rfl
     have hk0:(0:Int)≤(t:Int):=by omega
     have hk1:(t:Int) < n:=by omega
     go_upto_region 6 with (first|go_skip|go_guarded)
     go_cut [72] from 62 to 72 (fun e wx=>∃ q,e=.bool q∧Ext Nothing wr wx)
     case first =>
      by_cases z0:x0=y0
      ·subst z0
       by_cases z1:x1=y1
       ·subst z1
        by_cases z2:x2=y2
        ·subst z2
         go_quiet (fail);go_wp2;go_meet;exact ⟨_,rfl,Ext.Al⟩
        have e2:(x2 == y2)=false:=by simpa using z2
        go_quiet (fail);go_wp2;go_meet;exact ⟨_,rfl,Ext.Al⟩
       have e1:(x1 == y1)=false:=by simpa using z1
       go_quiet (fail);go_wp2;go_meet;exact ⟨_,rfl,Ext.Al⟩
      have e0:(x0 == y0)=false:=by simpa using z0
      go_quiet (fail);go_wp2;go_meet;exact ⟨_,rfl,Ext.Al⟩
     case rest =>
      obtain ⟨q,rfl,hxq⟩:=hcut
      have hx9:=hx.tr hxq
      clear hxq
      cases q with
      | true=>(go_wp2;go_ret;exact ⟨⟨_,rfl,hx0.tr hx9⟩⟩)
      | false =>
       go_wp2
       go_roundw
       case rel=>exact ⟨t+1,by omega,by go_num,hx9⟩
       case measure=>simp [intOf];omega
    have hnl:¬ ((t:Int) < n):=by omega
    go_wp2
    go_ret
    exact ⟨⟨_,rfl,hx0.tr hx⟩⟩
set_option maxRecDepth 100000 in
set_option maxHeartbeats 8000000 in
theorem F7 (l l' : List JobV) (A1:Option Addr) (n c1:Nat) (A2:Option Addr) (m c2:Nat) (w:World) (h1:Sl w 7 A1 n (l.map JobV.cells)) (h2:Sl w 7 A2 m (l'.map JobV.cells)) (k1:CJ w l) (k2:CJ w l') (hn:n≤1048576) (hm:m≤1048576) :
  Calls Tryz.prog 41 #[.slice A1 n c1,.slice A2 m c2] w fun e w'=>F6 w e w':=by
 cases v0:((n:Int) != (m:Int)) with
 | true =>
  go_enter Tryz.func41,Tryz.ntmps41
  go_wp2
  go_ret
  exact ⟨⟨_,rfl,Ext.refl _ _⟩⟩
 | false =>
  obtain rfl:m=n:=by simp at v0;omega
  go_enter Tryz.func41,Tryz.ntmps41
  go_wp2
  go_loopw [5] (fun i wr=>∃ t:Nat,t≤m∧i=.int .i64 t∧Ext Nothing w wr) (fun i _=>m - (intOf i).toNat)
  case atStart=>exact ⟨0,Nat.zero_le _,rfl,Ext.refl _ _⟩
  case round =>
   obtain ⟨t,ht,rfl,hx⟩:=hrel
   by_cases hlt:t < m
   ·obtain ⟨hj1,d1,f1,rfl,hc1⟩:=h1.get hx hlt
    obtain ⟨hj2,d2,f2,rfl,hc2⟩:=h2.get hx hlt
    have ho1:=k1 _ (List.getElem_mem hj1)
    have ho2:=k2 _ (List.getElem_mem hj2)
    generalize l[t]=y at hc1 ho1
    generalize l'[t]=y' at hc2 ho2
    obtain ⟨x,g1⟩:=y
    obtain ⟨x',g2⟩:=y'
    obtain ⟨B1,m1,b1,rfl,hs1,hm1⟩:=ho1
    obtain ⟨B2,m2,b2,rfl,hs2,hm2⟩:=ho2
    simp only at hs1 hs2
    have hk0:(0:Int)≤(t:Int):=by omega
    have hk1:(t:Int) < m:=by omega
    have hcf1:∀ (wz:World),Ext Nothing wr wz→∀ q v,(#[.int .i64 x.id,.int .i64 x.ty,.int .i64 x.prio,.int .i64 x.par,.slice B1 m1 b1,.int .i64 x.ver,.bool x.stopped]:Array Value).toList[q]? = some v→wz.cell? ⟨d1,f1+t*7+q,none⟩=some v:=fun wz hz q v hv=>hz.c0 (hc1 q v hv)
    have hcf2:∀ (wz:World),Ext Nothing wr wz→∀ q v,(#[.int .i64 x'.id,.int .i64 x'.ty,.int .i64 x'.prio,.int .i64 x'.par,.slice B2 m2 b2,.int .i64 x'.ver,.bool x'.stopped]:Array Value).toList[q]? = some v→wz.cell? ⟨d2,f2+t*7+q,none⟩=some v:=fun wz hz q v hv=>hz.c0 (hc2 q v hv)
    go_upto_region 6 with (first|go_skip|go_guarded)
    refine wp_region_held (S:=fun W=>Ext Nothing wr W) (by kernel_rfl) ?_
    have hd:Ext Nothing wr wr.drew:=Ext.drew (Ext.refl _ _)
    change wpAnyH _ _ _ _ _ _ _ _ wr.drew
    generalize wr.drew=Wd at hd ⊢
    refine zV 0 (.slice (some ⟨d1,f1,none⟩) m c1) rfl (by kernel_rfl) hd (fun _ _ _ h=>h) ?_ ?_
    ·intro W' hS'
     go_simp
    refine zV 1 (.int .i64 (t:Int)) rfl (by kernel_rfl) hd (fun _ _ _ h=>h) ?_ ?_
    ·intro W' hS'
     go_simp
    refine zV 2 (.pointer (some ⟨d1,f1+t*7,none⟩)) rfl (by kernel_rfl) hd (fun _ _ _ h=>h) ?_ ?_
    ·intro W' hS'
     go_simp
    refine zV 3 (.agg #[.int .i64 x.id,.int .i64 x.ty,.int .i64 x.prio,.int .i64 x.par,.slice B1 m1 b1,.int .i64 x.ver,.bool x.stopped]) rfl (by kernel_rfl) hd (fun _ _ _ h=>h) ?_ ?_
    ·intro W' hS'
     exact run_load_struct (sz:=7) (b:=d1) (off:=f1+t*7) rfl STJob (by go_simp) (hcf1 W' hS') rfl
    refine zV 4 (.slice (some ⟨d2,f2,none⟩) m c2) rfl (by kernel_rfl) hd (fun _ _ _ h=>h) ?_ ?_
    ·intro W' hS'
     go_simp
    refine zV 5 (.int .i64 (t:Int)) rfl (by kernel_rfl) hd (fun _ _ _ h=>h) ?_ ?_
    ·intro W' hS'
     go_simp
    refine zV 6 (.pointer (some ⟨d2,f2+t*7,none⟩)) rfl (by kernel_rfl) hd (fun _ _ _ h=>h) ?_ ?_
    ·intro W' hS'
     go_simp
    refine zV 7 (.agg #[.int .i64 x'.id,.int .i64 x'.ty,.int .i64 x'.prio,.int .i64 x'.par,.slice B2 m2 b2,.int .i64 x'.ver,.bool x'.stopped]) rfl (by kernel_rfl) hd (fun _ _ _ h=>h) ?_ ?_
    ·intro W' hS'
     exact run_load_struct (sz:=7) (b:=d2) (off:=f2+t*7) rfl STJob (by go_simp) (hcf2 W' hS') rfl
    simp only [Act.put,zA,zB,zC,zD,zE,zF]
    refine zO 8 (by kernel_rfl) ?_
    refine Aj (f:=28) (args:=#[.agg #[.int .i64 x.id,.int .i64 x.ty,.int .i64 x.prio,.int .i64 x.par,.slice B1 m1 b1,.int .i64 x.ver,.bool x.stopped],.agg #[.int .i64 x'.id,.int .i64 x'.ty,.int .i64 x'.prio,.int .i64 x'.par,.slice B2 m2 b2,.int .i64 x'.ver,.bool x'.stopped]]) rfl (by rfl) (by go_simp) ((Lv x x' B1 m1 b1 B2 m2 b2 Wd (hs1.Am (hx.tr hd)) (hs2.Am (hx.tr hd)) (by omega) (by omega)).mono ?_)
    rintro e W5 ⟨⟨q,rfl,hx5⟩⟩
    have hd5:=hd.tr hx5
    refine ⟨_,rfl,hd5,?_⟩
    simp only [Act.put,zA,zB,zC,zD,zE,zF]
    refine zO 9 (by kernel_rfl) ?_
    refine wpOp_val (v:=.bool q) (w':=W5) rfl (by rfl) (by go_simp) ⟨hd5,wpAnyH_done (by kernel_rfl) ?_ _⟩
    simp only [Act.put,zA,zB,zC,zD,zE,zF]
    have hx9:=hx.tr hd5
    clear hcf1 hcf2 hd hx5 hd5
    cases q with
    | false=>(go_wp2;go_ret;exact ⟨⟨_,rfl,hx9⟩⟩)
    | true =>
     go_wp2
     go_roundw
     case rel=>exact ⟨t+1,by omega,by go_num,hx9⟩
     case measure=>simp [intOf];omega
   have hnl:¬ ((t:Int) < m):=by omega
   go_wp2
   go_ret
   exact ⟨⟨_,rfl,hx⟩⟩
set_option maxRecDepth 100000 in
set_option maxHeartbeats 8000000 in
theorem K3 (a b:AQ) (A1:Option Addr) (n c1:Nat) (A2:Option Addr) (m c2:Nat) (w:World) (h1:Sl w 11 A1 n (a.allocs.map Ac.cells)) (h2:Sl w 11 A2 m (b.allocs.map Ac.cells)) (hn:n≤1048576) (hm:m≤1048576) :
  Calls Tryz.prog 19 #[.agg #[.int .i64 a.code,.int .i64 a.value,.slice A1 n c1],.agg #[.int .i64 b.code,.int .i64 b.value,.slice A2 m c2]] w fun e w'=>F6 w e w':=by
 have hx0:Ext Nothing w ((w.alloc (.cells #[.int .i64 a.code,.int .i64 a.value,.slice A1 n c1] 34)).alloc (.cells #[.int .i64 b.code,.int .i64 b.value,.slice A2 m c2] 34)):=Ext.Al
 have b1:Blk ((w.alloc (.cells #[.int .i64 a.code,.int .i64 a.value,.slice A1 n c1] 34)).alloc (.cells #[.int .i64 b.code,.int .i64 b.value,.slice A2 m c2] 34)) w.heap.size 34 #[.int .i64 a.code,.int .i64 a.value,.slice A1 n c1]:=(Blk.new w _ _).e0 Ext.Al
 have b2:Blk ((w.alloc (.cells #[.int .i64 a.code,.int .i64 a.value,.slice A1 n c1] 34)).alloc (.cells #[.int .i64 b.code,.int .i64 b.value,.slice A2 m c2] 34)) (w.heap.size+1) 34 #[.int .i64 b.code,.int .i64 b.value,.slice A2 m c2]:=Blk.new' _ _ _ (by simp)
 have e1:=h1.Am hx0
 have e2:=h2.Am hx0
 go_enter Tryz.func19,Tryz.ntmps19
 go_upto_region 2 with (first|go_skip|go_guarded|(go_at_call 40;(with_reducible refine (Iz a.allocs b.allocs A1 n c1 A2 m c2 _ e1 e2 hn hm).mono ?_);rintro e w1 ⟨⟨q,rfl,hx1⟩⟩))
 have q0:w1.cell? ⟨w.heap.size,0,none⟩=some (.int .i64 a.code):=(b1.e0 hx1).cell 0
 have q1:w1.cell? ⟨w.heap.size,1,none⟩=some (.int .i64 a.value):=(b1.e0 hx1).cell 1
 have s0:w1.cell? ⟨w.heap.size+1,0,none⟩=some (.int .i64 b.code):=(b2.e0 hx1).cell 0
 have s1:w1.cell? ⟨w.heap.size+1,1,none⟩=some (.int .i64 b.value):=(b2.e0 hx1).cell 1
 have hx9:=hx0.tr hx1
 clear b1 b2 e1 e2 hx0 hx1
 cases q with
 | false=>(go_wp2_with (first|go_skip|go_guarded);go_ret;exact ⟨⟨_,rfl,hx9⟩⟩)
 | true =>
  cases v1:(a.code == b.code) with
  | false=>(go_wp2_with (first|go_skip|go_guarded);go_ret;exact ⟨⟨_,rfl,hx9⟩⟩)
  | true=>(go_wp2_with (first|go_skip|go_guarded);go_ret;exact ⟨⟨_,rfl,hx9⟩⟩)
set_option maxRecDepth 100000 in
set_option maxHeartbeats 8000000 in
theorem Ox (a b:Aa) (w:World) (ha:a.Lay w) (hb:b.Lay w) :
  Calls Tryz.prog 20 #[.agg a.arr,.agg b.arr] w fun e w'=>F6 w e w':=by
 have hx0:Ext Nothing w ((w.alloc (.cells a.arr 30)).alloc (.cells b.arr 30)):=Ext.Al
 have b1:Blk ((w.alloc (.cells a.arr 30)).alloc (.cells b.arr 30)) w.heap.size 30 a.arr:=(Blk.new w _ _).e0 Ext.Al
 have b2:Blk ((w.alloc (.cells a.arr 30)).alloc (.cells b.arr 30)) (w.heap.size+1) 30 b.arr:=Blk.new' _ _ _ (by simp)
 have hA0:=ha.Am hx0
 have hB0:=hb.Am hx0
 go_enter Tryz.func20,Tryz.ntmps20
 go_upto_region 1 with (first|go_skip|go_guarded)
 generalize w.heap.size+1=B2 at b2 ⊢
 generalize w.heap.size=B1 at b1 ⊢
 generalize ((w.alloc (.cells a.arr 30)).alloc (.cells b.arr 30))=W at hx0 b1 b2 hA0 hB0 ⊢
 have a2:W.cell? ⟨B1,2,none⟩=some (.slice a.AJ a.nJ a.cJ):=b1.cell 2
 have c2:W.cell? ⟨B2,2,none⟩=some (.slice b.AJ b.nJ b.cJ):=b2.cell 2
 go_upto_region 2 with (first|go_skip|go_guarded|(go_at_call 41;(with_reducible refine (F7 a.jobs b.jobs a.AJ a.nJ a.cJ b.AJ b.nJ b.cJ W hA0.sJ hB0.sJ hA0.kJ hB0.kJ ha.mJ hb.mJ).mono ?_);rintro e w1 ⟨⟨u1,rfl,hx1⟩⟩))
 replace b1:=b1.e0 hx1
 replace b2:=b2.e0 hx1
 have y1:=hx0.tr hx1
 have hA1:=hA0.Am hx1
 have hB1:=hB0.Am hx1
 clear a2 c2 hA0 hB0 hx0 hx1
 have a3:w1.cell? ⟨B1,3,none⟩=some (.slice a.AS a.nS a.cS):=b1.cell 3
 have c3:w1.cell? ⟨B2,3,none⟩=some (.slice b.AS b.nS b.cS):=b2.cell 3
 go_upto_region 3 with (first|go_skip|go_guarded|(go_at_call 41;(with_reducible refine (F7 a.stable b.stable a.AS a.nS a.cS b.AS b.nS b.cS w1 hA1.sS hB1.sS hA1.kS hB1.kS ha.mS hb.mS).mono ?_);rintro e w2 ⟨⟨u2,rfl,hx2⟩⟩))
 replace b1:=b1.e0 hx2
 replace b2:=b2.e0 hx2
 have y2:=y1.tr hx2
 have hA2:=hA1.Am hx2
 have hB2:=hB1.Am hx2
 clear a3 c3 hA1 hB1 y1 hx2
 have a5:w2.cell? ⟨B1,5,none⟩=some (.slice a.AA a.nA a.cA):=b1.cell 5
 have c5:w2.cell? ⟨B2,5,none⟩=some (.slice b.AA b.nA b.cA):=b2.cell 5
 go_upto_region 4 with (first|go_skip|go_guarded|(go_at_call 40;(with_reducible refine (Iz a.allocs b.allocs a.AA a.nA a.cA b.AA b.nA b.cA w2 hA2.sA hB2.sA ha.mA hb.mA).mono ?_);rintro e w3 ⟨⟨u3,rfl,hx3⟩⟩))
 replace b1:=b1.e0 hx3
 replace b2:=b2.e0 hx3
 have hy3:=y2.tr hx3
 clear a5 c5 hA2 hB2 y2 hx3
 go_cut [87] from 28 to 87 (fun e wx=>∃ q,e=.bool q∧wx=w3∧(q=false→a.nN=b.nN∧a.nE=b.nE∧a.nD=b.nD∧a.nX=b.nX))
 case first =>
  have p0:w3.cell? ⟨B1,0,none⟩=some (.int .i64 a.index):=b1.cell 0
  have r0:w3.cell? ⟨B2,0,none⟩=some (.int .i64 b.index):=b2.cell 0
  have p1:w3.cell? ⟨B1,1,none⟩=some (.int .i64 a.next):=b1.cell 1
  have r1:w3.cell? ⟨B2,1,none⟩=some (.int .i64 b.next):=b2.cell 1
  have p4:w3.cell? ⟨B1,4,none⟩=some (.slice a.AN a.nN a.cN):=b1.cell 4
  have r4:w3.cell? ⟨B2,4,none⟩=some (.slice b.AN b.nN b.cN):=b2.cell 4
  have p6:w3.cell? ⟨B1,6,none⟩=some (.slice a.AE a.nE a.cE):=b1.cell 6
  have r6:w3.cell? ⟨B2,6,none⟩=some (.slice b.AE b.nE b.cE):=b2.cell 6
  have p7:w3.cell? ⟨B1,7,none⟩=some (.slice a.AD a.nD a.cD):=b1.cell 7
  have r7:w3.cell? ⟨B2,7,none⟩=some (.slice b.AD b.nD b.cD):=b2.cell 7
  have p8:w3.cell? ⟨B1,8,none⟩=some (.slice a.AX a.nX a.cX):=b1.cell 8
  have r8:w3.cell? ⟨B2,8,none⟩=some (.slice b.AX b.nX b.cX):=b2.cell 8
  clear b1 b2 hy3
  cases u1 with
  | false=>(go_wp2_with (first|go_skip|go_guarded);go_meet;exact ⟨true,rfl,rfl,fun h=>by cases h⟩)
  | true =>
   cases u2 with
   | false=>(go_wp2_with (first|go_skip|go_guarded);go_meet;exact ⟨true,rfl,rfl,fun h=>by cases h⟩)
   | true =>
    cases u3 with
    | false=>(go_wp2_with (first|go_skip|go_guarded);go_meet;exact ⟨true,rfl,rfl,fun h=>by cases h⟩)
    | true =>
     cases v3:(a.index != b.index) with
     | true=>(go_wp2_with (first|go_skip|go_guarded);go_meet;exact ⟨true,rfl,rfl,fun h=>by cases h⟩)
     | false =>
      cases v4:(a.next != b.next) with
      | true=>(go_wp2_with (first|go_skip|go_guarded);go_meet;exact ⟨true,rfl,rfl,fun h=>by cases h⟩)
      | false =>
       cases v5:((a.nN:Int) != (b.nN:Int)) with
       | true=>(go_wp2_with (first|go_skip|go_guarded);go_meet;exact ⟨true,rfl,rfl,fun h=>by cases h⟩)
       | false =>
        cases v6:((a.nE:Int) != (b.nE:Int)) with
        | true=>(go_wp2_with (first|go_skip|go_guarded);go_meet;exact ⟨true,rfl,rfl,fun h=>by cases h⟩)
        | false =>
         cases v7:((a.nD:Int) != (b.nD:Int)) with
         | true=>(go_wp2_with (first|go_skip|go_guarded);go_meet;exact ⟨true,rfl,rfl,fun h=>by cases h⟩)
         | false =>
          cases v8:((a.nX:Int) != (b.nX:Int)) with
          | true=>(go_wp2_with (first|go_skip|go_guarded);go_meet;exact ⟨true,rfl,rfl,fun h=>by cases h⟩)
          | false =>
           (go_wp2_with (first|go_skip|go_guarded);go_meet;exact ⟨false,rfl,rfl,fun _=>⟨by simp at v5;omega,by simp at v6;omega,by simp at v7;omega,by simp at v8;omega⟩⟩)
 case rest =>
  obtain ⟨q,rfl,rfl,hq⟩:=hcut
  cases q with
  | true=>(go_wp2;go_ret;exact ⟨⟨_,rfl,hy3⟩⟩)
  | false =>
   obtain ⟨eN,eE,eD,eX⟩:=hq rfl
   have mN:=ha.mN
   have mE:=ha.mE
   have mD:=ha.mD
   have mX:=ha.mX
   have HEN:=Lib.hid eN
   have HEE:=Lib.hid eE
   have HED:=Lib.hid eD
   have HEX:=Lib.hid eX
   clear hq eN eE eD eX
   obtain ⟨w3,rfl⟩ : ∃ z:World,z=wc:=⟨_,rfl⟩
   go_wp2
   go_loopw [8] (fun i wr=>∃ t:Nat,t≤a.nN∧i=.int .i64 t∧Ext Nothing w3 wr) (fun i _=>a.nN - (intOf i).toNat)
   case atStart=>exact ⟨0,Nat.zero_le _,rfl,Ext.refl _ _⟩
   case round =>
    obtain ⟨t,ht,rfl,hx⟩:=hrel
    have q1:wr.cell? ⟨B1,4,none⟩=some (.slice a.AN a.nN a.cN):=(b1.e0 hx).cell 4
    have q2:wr.cell? ⟨B2,4,none⟩=some (.slice b.AN b.nN b.cN):=(b2.e0 hx).cell 4
    by_cases hlt:t < a.nN
    ·have hxw:=hy3.tr hx
     obtain ⟨hj1,d1,f1,hA1,hc1⟩:=ha.sN.get hxw hlt
     obtain ⟨hj2,d2,f2,hA2,hc2⟩:=hb.sN.get hxw (show t < b.nN by have:=HEN.out;omega)
     rw [hA1] at q1
     rw [hA2] at q2
     have HA1:=Lib.hid hA1
     have HA2:=Lib.hid hA2
     clear hA1 hA2
     have hk0:(0:Int)≤(t:Int):=by omega
     have hk1:(t:Int) < a.nN:=by omega
     have hk2:(t:Int) < b.nN:=by have:=HEN.out;omega
     generalize a.nodes[t]=x at hc1
     generalize b.nodes[t]=y at hc2
     obtain ⟨x0,⟨x1,x2⟩,x3,x4,x5,x6,x7⟩:=x
     obtain ⟨y0,⟨y1,y2⟩,y3,y4,y5,y6,y7⟩:=y
     have r0:wr.cell? ⟨d1,f1+t*8,none⟩=some (.int .i64 x0):=hc1 0 _ rfl
     have r1:wr.cell? ⟨d1,f1+t*8+1,none⟩=some (.int .i64 x1):=hc1 1 _ rfl
     have r2:wr.cell? ⟨d1,f1+t*8+2,none⟩=some (.int .i64 x2):=hc1 2 _ rfl
     have r3:wr.cell? ⟨d1,f1+t*8+3,none⟩=some (.bool x3):=hc1 3 _ rfl
     have r4:wr.cell? ⟨d1,f1+t*8+4,none⟩=some (.bool x4):=hc1 4 _ rfl
     have r5:wr.cell? ⟨d1,f1+t*8+5,none⟩=some (.int .i64 x5):=hc1 5 _ rfl
     have r6:wr.cell? ⟨d1,f1+t*8+6,none⟩=some (.int .i64 x6):=hc1 6 _ rfl
     have r7:wr.cell? ⟨d1,f1+t*8+7,none⟩=some (.int .i64 x7):=hc1 7 _ rfl
     have s0:wr.cell? ⟨d2,f2+t*8,none⟩=some (.int .i64 y0):=hc2 0 _ rfl
     have s1:wr.cell? ⟨d2,f2+t*8+1,none⟩=some (.int .i64 y1):=hc2 1 _ rfl
     have s2:wr.cell? ⟨d2,f2+t*8+2,none⟩=some (.int .i64 y2):=hc2 2 _ rfl
     have s3:wr.cell? ⟨d2,f2+t*8+3,none⟩=some (.bool y3):=hc2 3 _ rfl
     have s4:wr.cell? ⟨d2,f2+t*8+4,none⟩=some (.bool y4):=hc2 4 _ rfl
     have s5:wr.cell? ⟨d2,f2+t*8+5,none⟩=some (.int .i64 y5):=hc2 5 _ rfl
     have s6:wr.cell? ⟨d2,f2+t*8+6,none⟩=some (.int .i64 y6):=hc2 6 _ rfl
     have s7:wr.cell? ⟨d2,f2+t*8+7,none⟩=some (.int .i64 y7):=hc2 7 _ rfl
     go_upto_region 9 with (first|go_skip|go_guarded)
     go_cut [105] from 95 to 105 (fun e wx=>∃ q,e=.bool q∧Ext Nothing wr wx)
     case first =>
      by_cases z0:x0=y0
      ·subst z0
       by_cases z1:x1=y1
       ·subst z1
        by_cases z2:x2=y2
        ·subst z2
         by_cases z3:x3=y3
         ·subst z3
          by_cases z4:x4=y4
          ·subst z4
           by_cases z5:x5=y5
           ·subst z5
            by_cases z6:x6=y6
            ·subst z6
             by_cases z7:x7=y7
             ·subst z7
              go_quiet (fail);go_wp2;go_meet;exact ⟨_,rfl,Ext.Al⟩
             have e7:(x7 == y7)=false:=by simpa using z7
             go_quiet (fail);go_wp2;go_meet;exact ⟨_,rfl,Ext.Al⟩
            have e6:(x6 == y6)=false:=by simpa using z6
            go_quiet (fail);go_wp2;go_meet;exact ⟨_,rfl,Ext.Al⟩
           have e5:(x5 == y5)=false:=by simpa using z5
           go_quiet (fail);go_wp2;go_meet;exact ⟨_,rfl,Ext.Al⟩
          have e4:(x4 == y4)=false:=by cases x4 <;> cases y4 <;> first|rfl|exact absurd rfl z4
          go_quiet (fail);go_wp2;go_meet;exact ⟨_,rfl,Ext.Al⟩
         have e3:(x3 == y3)=false:=by cases x3 <;> cases y3 <;> first|rfl|exact absurd rfl z3
         go_quiet (fail);go_wp2;go_meet;exact ⟨_,rfl,Ext.Al⟩
        have e2:(x2 == y2)=false:=by simpa using z2
        go_quiet (fail);go_wp2;go_meet;exact ⟨_,rfl,Ext.Al⟩
       have e1:(x1 == y1)=false:=by simpa using z1
       go_quiet (fail);go_wp2;go_meet;exact ⟨_,rfl,Ext.Al⟩
      have e0:(x0 == y0)=false:=by simpa using z0
      go_quiet (fail);go_wp2;go_meet;exact ⟨_,rfl,Ext.Al⟩
     case rest =>
      obtain ⟨q,rfl,hxq⟩:=hcut
      have hx9:=hx.tr hxq
      clear hxq
      cases q with
      | true=>(go_wp2;go_ret;exact ⟨⟨_,rfl,hy3.tr hx9⟩⟩)
      | false =>
       go_wp2
       go_roundw
       case rel=>exact ⟨t+1,by omega,by go_num,hx9⟩
       case measure=>simp [intOf];omega
    have hnl:¬ ((t:Int) < a.nN):=by omega
    have HNL:=Lib.hid hnl
    go_upto_region 11 with (first|go_skip|go_guarded)
    clear q1 q2 hlt ht hnl HNL
    obtain ⟨woN,rfl⟩ : ∃ wo:World,wo=wr:=⟨_,rfl⟩
    go_wp2
    go_loopw [9] (fun i wr=>∃ t:Nat,t≤a.nE∧i=.int .i64 t∧Ext Nothing w3 wr) (fun i _=>a.nE - (intOf i).toNat)
    case atStart=>exact ⟨0,Nat.zero_le _,rfl,hx⟩
    case round =>
     clear hx
     obtain ⟨t,ht,rfl,hx⟩:=hrel
     have q1:wr.cell? ⟨B1,6,none⟩=some (.slice a.AE a.nE a.cE):=(b1.e0 hx).cell 6
     have q2:wr.cell? ⟨B2,6,none⟩=some (.slice b.AE b.nE b.cE):=(b2.e0 hx).cell 6
     by_cases hlt:t < a.nE
     ·have hxw:=hy3.tr hx
      obtain ⟨hj1,d1,f1,hA1,hc1⟩:=ha.sE.get hxw hlt
      obtain ⟨hj2,d2,f2,hA2,hc2⟩:=hb.sE.get hxw (show t < b.nE by have:=HEE.out;omega)
      rw [hA1] at q1
      rw [hA2] at q2
      have HA1:=Lib.hid hA1
      have HA2:=Lib.hid hA2
      clear hA1 hA2
      have hk0:(0:Int)≤(t:Int):=by omega
      have hk1:(t:Int) < a.nE:=by omega
      have hk2:(t:Int) < b.nE:=by have:=HEE.out;omega
      generalize a.evals[t]=x at hc1
      generalize b.evals[t]=y at hc2
      obtain ⟨x0,x1,x2,x3⟩:=x
      obtain ⟨y0,y1,y2,y3⟩:=y
      have r0:wr.cell? ⟨d1,f1+t*4,none⟩=some (.int .i64 x0):=hc1 0 _ rfl
      have r1:wr.cell? ⟨d1,f1+t*4+1,none⟩=some (.int .i64 x1):=hc1 1 _ rfl
      have r2:wr.cell? ⟨d1,f1+t*4+2,none⟩=some (.int .i64 x2):=hc1 2 _ rfl
      have r3:wr.cell? ⟨d1,f1+t*4+3,none⟩=some (.int .i64 x3):=hc1 3 _ rfl
      have s0:wr.cell? ⟨d2,f2+t*4,none⟩=some (.int .i64 y0):=hc2 0 _ rfl
      have s1:wr.cell? ⟨d2,f2+t*4+1,none⟩=some (.int .i64 y1):=hc2 1 _ rfl
      have s2:wr.cell? ⟨d2,f2+t*4+2,none⟩=some (.int .i64 y2):=hc2 2 _ rfl
      have s3:wr.cell? ⟨d2,f2+t*4+3,none⟩=some (.int .i64 y3):=hc2 3 _ rfl
      go_upto_region 14 with (first|go_skip|go_guarded)
      go_cut [123] from 113 to 123 (fun e wx=>∃ q,e=.bool q∧Ext Nothing wr wx)
      case first =>
       by_cases z0:x0=y0
       ·subst z0
        by_cases z1:x1=y1
        ·subst z1
         by_cases z2:x2=y2
         ·subst z2
          by_cases z3:x3=y3
          ·subst z3
           go_quiet (fail);go_wp2;go_meet;exact ⟨_,rfl,Ext.Al⟩
          have e3:(x3 == y3)=false:=by simpa using z3
          go_quiet (fail);go_wp2;go_meet;exact ⟨_,rfl,Ext.Al⟩
         have e2:(x2 == y2)=false:=by simpa using z2
         go_quiet (fail);go_wp2;go_meet;exact ⟨_,rfl,Ext.Al⟩
        have e1:(x1 == y1)=false:=by simpa using z1
        go_quiet (fail);go_wp2;go_meet;exact ⟨_,rfl,Ext.Al⟩
       have e0:(x0 == y0)=false:=by simpa using z0
       go_quiet (fail);go_wp2;go_meet;exact ⟨_,rfl,Ext.Al⟩
      case rest =>
       obtain ⟨q,rfl,hxq⟩:=hcut
       have hx9:=hx.tr hxq
       clear hxq
       cases q with
       | true=>(go_wp2;go_ret;exact ⟨⟨_,rfl,hy3.tr hx9⟩⟩)
       | false =>
        go_wp2
        go_roundw
        case rel=>exact ⟨t+1,by omega,by go_num,hx9⟩
        case measure=>simp [intOf];omega
     have hnl:¬ ((t:Int) < a.nE):=by omega
     have HNL:=Lib.hid hnl
     go_upto_region 16 with (first|go_skip|go_guarded)
     clear q1 q2 hlt ht hnl HNL
     obtain ⟨woE,rfl⟩ : ∃ wo:World,wo=wr:=⟨_,rfl⟩
     go_wp2
     go_loopw [10] (fun i wr=>∃ t:Nat,t≤a.nD∧i=.int .i64 t∧Ext Nothing w3 wr) (fun i _=>a.nD - (intOf i).toNat)
     case atStart=>exact ⟨0,Nat.zero_le _,rfl,hx⟩
     case round =>
      clear hx
      obtain ⟨t,ht,rfl,hx⟩:=hrel
      have q1:wr.cell? ⟨B1,7,none⟩=some (.slice a.AD a.nD a.cD):=(b1.e0 hx).cell 7
      have q2:wr.cell? ⟨B2,7,none⟩=some (.slice b.AD b.nD b.cD):=(b2.e0 hx).cell 7
      by_cases hlt:t < a.nD
      ·have hxw:=hy3.tr hx
       obtain ⟨hj1,d1,f1,hA1,hc1⟩:=ha.sD.get hxw hlt
       obtain ⟨hj2,d2,f2,hA2,hc2⟩:=hb.sD.get hxw (show t < b.nD by have:=HED.out;omega)
       rw [hA1] at q1
       rw [hA2] at q2
       have HA1:=Lib.hid hA1
       have HA2:=Lib.hid hA2
       clear hA1 hA2
       have hk0:(0:Int)≤(t:Int):=by omega
       have hk1:(t:Int) < a.nD:=by omega
       have hk2:(t:Int) < b.nD:=by have:=HED.out;omega
       generalize a.deploys[t]=x at hc1
       generalize b.deploys[t]=y at hc2
       obtain ⟨x0,x1,x2,x3⟩:=x
       obtain ⟨y0,y1,y2,y3⟩:=y
       have r0:wr.cell? ⟨d1,f1+t*4,none⟩=some (.int .i64 x0):=hc1 0 _ rfl
       have r1:wr.cell? ⟨d1,f1+t*4+1,none⟩=some (.int .i64 x1):=hc1 1 _ rfl
       have r2:wr.cell? ⟨d1,f1+t*4+2,none⟩=some (.int .i64 x2):=hc1 2 _ rfl
       have r3:wr.cell? ⟨d1,f1+t*4+3,none⟩=some (.int .i64 x3):=hc1 3 _ rfl
       have s0:wr.cell? ⟨d2,f2+t*4,none⟩=some (.int .i64 y0):=hc2 0 _ rfl
       have s1:wr.cell? ⟨d2,f2+t*4+1,none⟩=some (.int .i64 y1):=hc2 1 _ rfl
       have s2:wr.cell? ⟨d2,f2+t*4+2,none⟩=some (.int .i64 y2):=hc2 2 _ rfl
       have s3:wr.cell? ⟨d2,f2+t*4+3,none⟩=some (.int .i64 y3):=hc2 3 _ rfl
       go_upto_region 19 with (first|go_skip|go_guarded)
       go_cut [141] from 131 to 141 (fun e wx=>∃ q,e=.bool q∧Ext Nothing wr wx)
       case first =>
        by_cases z0:x0=y0
        ·subst z0
         by_cases z1:x1=y1
         ·subst z1
          by_cases z2:x2=y2
          ·subst z2
           by_cases z3:x3=y3
           ·subst z3
            go_quiet (fail);go_wp2;go_meet;exact ⟨_,rfl,Ext.Al⟩
           have e3:(x3 == y3)=false:=by simpa using z3
           go_quiet (fail);go_wp2;go_meet;exact ⟨_,rfl,Ext.Al⟩
          have e2:(x2 == y2)=false:=by simpa using z2
          go_quiet (fail);go_wp2;go_meet;exact ⟨_,rfl,Ext.Al⟩
         have e1:(x1 == y1)=false:=by simpa using z1
         go_quiet (fail);go_wp2;go_meet;exact ⟨_,rfl,Ext.Al⟩
        have e0:(x0 == y0)=false:=by simpa using z0
        go_quiet (fail);go_wp2;go_meet;exact ⟨_,rfl,Ext.Al⟩
       case rest =>
        obtain ⟨q,rfl,hxq⟩:=hcut
        have hx9:=hx.tr hxq
        clear hxq
        cases q with
        | true=>(go_wp2;go_ret;exact ⟨⟨_,rfl,hy3.tr hx9⟩⟩)
        | false =>
         go_wp2
         go_roundw
         case rel=>exact ⟨t+1,by omega,by go_num,hx9⟩
         case measure=>simp [intOf];omega
      have hnl:¬ ((t:Int) < a.nD):=by omega
      have HNL:=Lib.hid hnl
      go_upto_region 21 with (first|go_skip|go_guarded)
      clear q1 q2 hlt ht hnl HNL
      obtain ⟨woD,rfl⟩ : ∃ wo:World,wo=wr:=⟨_,rfl⟩
      go_wp2
      go_loopw [11] (fun i wr=>∃ t:Nat,t≤a.nX∧i=.int .i64 t∧Ext Nothing w3 wr) (fun i _=>a.nX - (intOf i).toNat)
      case atStart=>exact ⟨0,Nat.zero_le _,rfl,hx⟩
      case round =>
       clear hx
       obtain ⟨t,ht,rfl,hx⟩:=hrel
       have q1:wr.cell? ⟨B1,8,none⟩=some (.slice a.AX a.nX a.cX):=(b1.e0 hx).cell 8
       have q2:wr.cell? ⟨B2,8,none⟩=some (.slice b.AX b.nX b.cX):=(b2.e0 hx).cell 8
       by_cases hlt:t < a.nX
       ·have hxw:=hy3.tr hx
        obtain ⟨hj1,d1,f1,hA1,hc1⟩:=ha.sX.get hxw hlt
        obtain ⟨hj2,d2,f2,hA2,hc2⟩:=hb.sX.get hxw (show t < b.nX by have:=HEX.out;omega)
        have ho1:=ha.kX _ (List.getElem_mem hj1)
        have ho2:=hb.kX _ (List.getElem_mem hj2)
        rw [hA1] at q1
        rw [hA2] at q2
        have HA1:=Lib.hid hA1
        have HA2:=Lib.hid hA2
        clear hA1 hA2
        have hk0:(0:Int)≤(t:Int):=by omega
        have hk1:(t:Int) < a.nX:=by omega
        have hk2:(t:Int) < b.nX:=by have:=HEX.out;omega
        generalize a.seen[t]=y at hc1 ho1
        generalize b.seen[t]=y' at hc2 ho2
        obtain ⟨x,g1⟩:=y
        obtain ⟨x',g2⟩:=y'
        obtain ⟨B1a,m1,b1a,rfl,hs1,hm1⟩:=ho1
        obtain ⟨B2a,m2,b2a,rfl,hs2,hm2⟩:=ho2
        simp only at hs1 hs2
        have hcf1:∀ (wz:World),Ext Nothing wr wz→∀ q v,(#[.int .i64 x.answer.code,.int .i64 x.answer.value,.slice B1a m1 b1a]:Array Value).toList[q]? = some v→wz.cell? ⟨d1,f1+t*5+2+q,none⟩=some v:=fun wz hz q v hv=>hz.c0 (by have:=hc1 (2+q) v (by rw [show SeenV.cells _=[Value.int .i64 x.client,.int .i64 x.req] ++ (#[.int .i64 x.answer.code,.int .i64 x.answer.value,.slice B1a m1 b1a]:Array Value).toList from rfl,List.getElem?_append_right (by simp)];simpa using hv);rw [← Nat.add_assoc] at this;exact this)
        have hcf2:∀ (wz:World),Ext Nothing wr wz→∀ q v,(#[.int .i64 x'.answer.code,.int .i64 x'.answer.value,.slice B2a m2 b2a]:Array Value).toList[q]? = some v→wz.cell? ⟨d2,f2+t*5+2+q,none⟩=some v:=fun wz hz q v hv=>hz.c0 (by have:=hc2 (2+q) v (by rw [show SeenV.cells _=[Value.int .i64 x'.client,.int .i64 x'.req] ++ (#[.int .i64 x'.answer.code,.int .i64 x'.answer.value,.slice B2a m2 b2a]:Array Value).toList from rfl,List.getElem?_append_right (by simp)];simpa using hv);rw [← Nat.add_assoc] at this;exact this)
        go_upto_region 24 with (first|go_skip|go_guarded)
        refine wp_region_held (S:=fun W=>Ext Nothing wr W) (by kernel_rfl) ?_
        have hd:Ext Nothing wr wr.drew:=Ext.drew (Ext.refl _ _)
        change wpAnyH _ _ _ _ _ _ _ _ wr.drew
        generalize wr.drew=Wd at hd ⊢
        refine zV 0 (.pointer (some ⟨B1,8,none⟩)) rfl (by kernel_rfl) hd (fun _ _ _ h=>h) ?_ ?_
        ·intro W' hS'
         go_simp
        refine zV 1 (.slice (some ⟨d1,f1,none⟩) a.nX a.cX) rfl (by kernel_rfl) hd (fun _ _ _ h=>h) ?_ ?_
        ·intro W' hS'
         have q3:=hS'.c0 q1
         go_simp
        refine zV 2 (.int .i64 (t:Int)) rfl (by kernel_rfl) hd (fun _ _ _ h=>h) ?_ ?_
        ·intro W' hS'
         go_simp
        refine zV 3 (.pointer (some ⟨d1,f1+t*5,none⟩)) rfl (by kernel_rfl) hd (fun _ _ _ h=>h) ?_ ?_
        ·intro W' hS'
         go_simp
        refine zV 4 (.pointer (some ⟨d1,f1+t*5+2,none⟩)) rfl (by kernel_rfl) hd (fun _ _ _ h=>h) ?_ ?_
        ·intro W' hS'
         go_simp
        refine zV 5 (.agg #[.int .i64 x.answer.code,.int .i64 x.answer.value,.slice B1a m1 b1a]) rfl (by kernel_rfl) hd (fun _ _ _ h=>h) ?_ ?_
        ·intro W' hS'
         exact run_load_struct (sz:=3) (b:=d1) (off:=f1+t*5+2) rfl Fu (by go_simp) (hcf1 W' hS') rfl
        refine zV 6 (.pointer (some ⟨B2,8,none⟩)) rfl (by kernel_rfl) hd (fun _ _ _ h=>h) ?_ ?_
        ·intro W' hS'
         go_simp
        refine zV 7 (.slice (some ⟨d2,f2,none⟩) b.nX b.cX) rfl (by kernel_rfl) hd (fun _ _ _ h=>h) ?_ ?_
        ·intro W' hS'
         have q3:=hS'.c0 q2
         go_simp
        refine zV 8 (.int .i64 (t:Int)) rfl (by kernel_rfl) hd (fun _ _ _ h=>h) ?_ ?_
        ·intro W' hS'
         go_simp
        refine zV 9 (.pointer (some ⟨d2,f2+t*5,none⟩)) rfl (by kernel_rfl) hd (fun _ _ _ h=>h) ?_ ?_
        ·intro W' hS'
         go_simp
        refine zV 10 (.pointer (some ⟨d2,f2+t*5+2,none⟩)) rfl (by kernel_rfl) hd (fun _ _ _ h=>h) ?_ ?_
        ·intro W' hS'
         go_simp
        refine zV 11 (.agg #[.int .i64 x'.answer.code,.int .i64 x'.answer.value,.slice B2a m2 b2a]) rfl (by kernel_rfl) hd (fun _ _ _ h=>h) ?_ ?_
        ·intro W' hS'
         exact run_load_struct (sz:=3) (b:=d2) (off:=f2+t*5+2) rfl Fu (by go_simp) (hcf2 W' hS') rfl
        simp only [Act.put,zA,zB,zC,zD,zE,zF]
        refine zO 12 (by kernel_rfl) ?_
        refine Aj (f:=19) (args:=#[.agg #[.int .i64 x.answer.code,.int .i64 x.answer.value,.slice B1a m1 b1a],.agg #[.int .i64 x'.answer.code,.int .i64 x'.answer.value,.slice B2a m2 b2a]]) rfl (by rfl) (by go_simp) ((K3 x.answer x'.answer B1a m1 b1a B2a m2 b2a Wd (hs1.Am (hxw.tr hd)) (hs2.Am (hxw.tr hd)) (by omega) (by omega)).mono ?_)
        rintro e W5 ⟨⟨q,rfl,hx5⟩⟩
        have hd5:=hd.tr hx5
        refine ⟨_,rfl,hd5,?_⟩
        simp only [Act.put,zA,zB,zC,zD,zE,zF]
        refine zO 13 (by kernel_rfl) ?_
        refine wpOp_val (v:=.bool q) (w':=W5) rfl (by rfl) (by go_simp) ⟨hd5,wpAnyH_done (by kernel_rfl) ?_ _⟩
        simp only [Act.put,zA,zB,zC,zD,zE,zF]
        have e1:=hd5.c0 q1
        have e2:=hd5.c0 q2
        have v10:W5.cell? ⟨d1,f1+t*5,none⟩=some (.int .i64 x.client):=hd5.c0 (hc1 0 _ rfl)
        have v11:W5.cell? ⟨d1,f1+t*5+1,none⟩=some (.int .i64 x.req):=hd5.c0 (hc1 1 _ rfl)
        have v20:W5.cell? ⟨d2,f2+t*5,none⟩=some (.int .i64 x'.client):=hd5.c0 (hc2 0 _ rfl)
        have v21:W5.cell? ⟨d2,f2+t*5+1,none⟩=some (.int .i64 x'.req):=hd5.c0 (hc2 1 _ rfl)
        have hd6:=hx.tr hd5
        clear q1 q2 hcf1 hcf2 hd hx5 hd5 hx hxw
        go_upto_region 25 with fail
        go_cut [193] from 162 to 193 (fun e wx=>∃ q,e=.bool q∧Ext Nothing W5 wx)
        case first =>
         cases q with
         | false=>(go_quiet (fail);go_wp2;go_meet;exact ⟨_,rfl,Ext.Al⟩)
         | true =>
          cases z1:(x.client != x'.client) with
          | true=>(go_quiet (fail);go_wp2;go_meet;exact ⟨_,rfl,Ext.Al⟩)
          | false =>
           cases z2:(x.req != x'.req) with
           | true=>(go_quiet (fail);go_wp2;go_meet;exact ⟨_,rfl,Ext.Al⟩)
           | false=>(go_quiet (fail);go_wp2;go_meet;exact ⟨_,rfl,Ext.Al⟩)
        case rest =>
         obtain ⟨p,rfl,hxq⟩:=hcut
         have hx9:=hd6.tr hxq
         clear hxq
         cases p with
         | true=>(go_wp2;go_ret;exact ⟨⟨_,rfl,hy3.tr hx9⟩⟩)
         | false =>
          go_wp2
          go_roundw
          case rel=>exact ⟨t+1,by omega,by go_num,hx9⟩
          case measure=>simp [intOf];omega
       have hnl:¬ ((t:Int) < a.nX):=by omega
       go_wp2
       go_ret
       exact ⟨⟨_,rfl,hy3.tr hx⟩⟩
theorem Gt (a b:Aa) (w:World) (ha:a.Lay w) (hb:b.Lay w):Calls Tryz.prog 20 #[.agg a.arr,.agg b.arr] w fun e w'=>∃ q,e=.returned (.bool q)∧(Ip a b→q=true)∧Ext Nothing w w':=by
 by_cases h:Ip a b
 ·exact (Gs a b w ha hb h).mono fun e w' ⟨he,hx⟩=>⟨true,he,fun _=>rfl,hx⟩
 exact (Ox a b w ha hb).mono fun e w' ⟨⟨q,he,hx⟩⟩=>⟨q,he,fun h'=>absurd h' h,hx⟩
end Go.Proofs.YtccekmeifanipaaGreat
