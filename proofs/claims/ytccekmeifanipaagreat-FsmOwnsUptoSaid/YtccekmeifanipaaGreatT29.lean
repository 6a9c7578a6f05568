/- Parts of the proof: MMay -/
import Derived.Deep.CutRange
import Derived.Test.YtccekmeifanipaaGreatT23
import Derived.Test.YtccekmeifanipaaGreatT21
import Derived.Test.YtccekmeifanipaaGreatT14
import Derived.Test.YtccekmeifanipaaGreatT07
import Derived.Test.YtccekmeifanipaaGreatT13
namespace Go.Proofs.YtccekmeifanipaaGreat
set_option linter.unusedVariables false
set_option linter.unusedSimpArgs false
set_option linter.unusedSectionVars false
open Go.RowKit
namespace Fsm
def Kt (j:Aq) (n:NodD) (x:Ac):Bool:=x.job == j.id && x.ver == j.ver && x.epoch == n.epoch && inB x.group 0 ((j.groups.length:Int) - 1) && (match j.groups[x.group.toNat]? with|none=>false|some g=>decide (x.ask=g.ask))
def Nj (j:Aq) (n:NodD) (x:Ac):Bool:=match j.groups[x.group.toNat]? with|none=>false|some g=>if j.ty == 3 then x.index == n.id else inB x.index 0 (g.count - 1)
def EW (j:Aq) (g i:Int) (a:Ac):Bool:=j.ty == 2 && a.state == 3 && a.job == j.id && a.ver == j.ver && a.group == g && a.index == i
theorem NC (j:Aq) (g i:Int) (l:List Ac):l.any (fun a=>a.job == j.id && a.group == g && a.index == i && (!Bv a || (j.ty == 2 && a.ver == j.ver && a.state == 3)))=(l.any (Ce j.id g i) || l.any (EW j g i)):=by
 induction l with
 | nil=>rfl
 | cons a l ih =>
  simp only [List.any_cons,ih]
  unfold Ce EW
  cases (a.job == j.id) <;> cases (a.group == g) <;> cases (a.index == i) <;> cases (Bv a) <;> cases (j.ty == 2) <;> cases (a.ver == j.ver) <;> cases (a.state == 3) <;> simp
theorem Ir (s:Ab) (j:Aq) (n:NodD) (x:Ac):EI s j n x=(Kt j n x && Nj j n x && !s.allocs.any (Ce j.id x.group x.index) && !s.allocs.any (EW j x.group x.index) && GY (Dv s.allocs n.id) x.ask n.cap):=by
 unfold EI Kt Nj
 rw [NC]
 by_cases h0:0≤x.group
 ·by_cases h1:x.group.toNat < j.groups.length
  ·rw [List.getElem?_eq_getElem h1,show inB x.group 0 ((j.groups.length:Int) - 1)=true by simp [inB];omega,show decide (0≤x.group)=true by simpa using h0]
   simp only [inB]
   have e:∀ k:Int,decide (x.index < k)=decide (x.index≤k - 1):=fun k=>decide_eq_decide.2 (by omega)
   simp only [e]
   generalize s.allocs.any (Ce j.id x.group x.index)=a1
   generalize s.allocs.any (EW j x.group x.index)=a2
   generalize GY (Dv s.allocs n.id) x.ask n.cap=a3
   generalize decide (x.ask=(j.groups[x.group.toNat]).ask)=a4
   generalize (if j.ty == 3 then x.index == n.id else decide (0≤x.index) && decide (x.index≤(j.groups[x.group.toNat]).count - 1))=a5
   cases (x.job == j.id) <;> cases (x.ver == j.ver) <;> cases (x.epoch == n.epoch) <;> cases a1 <;> cases a2 <;> cases a3 <;> cases a4 <;> cases a5 <;> rfl
  rw [List.getElem?_eq_none (by omega)];simp
 rw [show decide (0≤x.group)=false by simpa using h0,show inB x.group 0 ((j.groups.length:Int) - 1)=false by simp [inB];omega];simp
theorem Jc {j:Aq} {n:NodD} {x:Ac} (h:Kt j n x=true):(x.job != j.id)=false∧(x.ver != j.ver)=false∧(x.epoch != n.epoch)=false∧inB x.group 0 ((j.groups.length:Int) - 1)=true∧∃ g:Ao,j.groups[x.group.toNat]? = some g∧(x.ask.cpu == g.ask.cpu)=true∧(x.ask.mem == g.ask.mem)=true:=by
 unfold Kt at h
 simp only [Bool.and_eq_true] at h
 obtain ⟨⟨⟨⟨h1,h2⟩,h3⟩,h4⟩,h5⟩:=h
 cases hg:j.groups[x.group.toNat]? with
 | none=>rw [hg] at h5;cases h5
 | some g =>
  rw [hg] at h5
  have h6:x.ask=g.ask:=by simpa using h5
  exact ⟨by simpa using h1,by simpa using h2,by simpa using h3,h4,g,rfl,by simp [h6],by simp [h6]⟩
theorem PY {j:Aq} {n:NodD} {x:Ac} (h:Kt j n x=false):((x.job != j.id)=true ∨ ((x.job != j.id)=false∧(x.ver != j.ver)=true) ∨ ((x.job != j.id)=false∧(x.ver != j.ver)=false∧(x.epoch != n.epoch)=true) ∨ ((x.job != j.id)=false∧(x.ver != j.ver)=false∧(x.epoch != n.epoch)=false∧inB x.group 0 ((j.groups.length:Int) - 1)=false))
  ∨ ((x.job != j.id)=false∧(x.ver != j.ver)=false∧(x.epoch != n.epoch)=false∧inB x.group 0 ((j.groups.length:Int) - 1)=true∧∃ g:Ao,j.groups[x.group.toNat]? = some g∧((x.ask.cpu == g.ask.cpu)=false ∨ ((x.ask.cpu == g.ask.cpu)=true∧(x.ask.mem == g.ask.mem)=false))):=by
 unfold Kt at h
 cases h1:(x.job == j.id) with
 | false=>exact .inl (.inl (by simpa [bne] using h1))
 | true =>
  cases h2:(x.ver == j.ver) with
  | false=>exact .inl (.inr (.inl ⟨by simp [bne,h1],by simp [bne,h2]⟩))
  | true =>
   cases h3:(x.epoch == n.epoch) with
   | false=>exact .inl (.inr (.inr (.inl ⟨by simp [bne,h1],by simp [bne,h2],by simp [bne,h3]⟩)))
   | true =>
    cases h4:inB x.group 0 ((j.groups.length:Int) - 1) with
    | false=>exact .inl (.inr (.inr (.inr ⟨by simp [bne,h1],by simp [bne,h2],by simp [bne,h3],rfl⟩)))
    | true =>
     have h5:=h4
     simp [inB] at h5
     have hl:x.group.toNat < j.groups.length:=by omega
     refine .inr ⟨by simp [bne,h1],by simp [bne,h2],by simp [bne,h3],rfl,j.groups[x.group.toNat],List.getElem?_eq_getElem hl,?_⟩
     rw [h1,h2,h3,h4,List.getElem?_eq_getElem hl] at h
     have h6:¬ x.ask=(j.groups[x.group.toNat]).ask:=by simpa using h
     cases h7:(x.ask.cpu == (j.groups[x.group.toNat]).ask.cpu) with
     | false=>exact .inl rfl
     | true =>
      refine .inr ⟨rfl,?_⟩
      cases h8:(x.ask.mem == (j.groups[x.group.toNat]).ask.mem) with
      | false=>rfl
      | true =>
       refine absurd ?_ h6
       have e1:x.ask.cpu=(j.groups[x.group.toNat]).ask.cpu:=by simpa using h7
       have e2:x.ask.mem=(j.groups[x.group.toNat]).ask.mem:=by simpa using h8
       generalize (j.groups[x.group.toNat]).ask=r at e1 e2
       obtain ⟨r1,r2⟩:=r
       generalize x.ask=q at e1 e2
       obtain ⟨q1,q2⟩:=q
       show (⟨q1,q2⟩ : Cg)=⟨r1,r2⟩
       rw [show q1=r1 from e1,show q2=r2 from e2]
end Fsm
set_option maxRecDepth 20000 in
set_option maxHeartbeats 16000000 in
theorem Q5 (base b:Nat) (s:Aa) (cm:Bool) (j0 j1 j2 j3:Int) (jg:List Ao) (j5:Int) (j6:Bool) (GA:Option Addr) (gn gc:Nat) (n0 n1 n2:Int) (n3 n4:Bool) (n5 n6 n7:Int) (x0 x1 x2 x3 x4 x5 x6 x7 x8:Int) (x9:Bool) (x10:Int) (w:World)
  (hM:Az base w b s cm) (hA:s.allocs.length≤16777216) (hG:Sl w 3 GA gn (jg.map Ao.cells)) (hgn:gn≤1048576) (hc:∀ g∈jg,0≤g.count∧g.count≤4) :
  Calls Tryz.prog 107 #[.pointer (some ⟨b,0,none⟩),.agg #[.int .i64 j0,.int .i64 j1,.int .i64 j2,.int .i64 j3,.slice GA gn gc,.int .i64 j5,.bool j6],.agg #[.int .i64 n0,.int .i64 n1,.int .i64 n2,.bool n3,.bool n4,.int .i64 n5,.int .i64 n6,.int .i64 n7],.agg #[.int .i64 x0,.int .i64 x1,.int .i64 x2,.int .i64 x3,.int .i64 x4,.int .i64 x5,.int .i64 x6,.int .i64 x7,.int .i64 x8,.bool x9,.int .i64 x10]] w fun e w'=>e=.returned (.bool (Fsm.EI s.data ⟨j0,j1,j2,j3,jg,j5,j6⟩ ⟨n0,⟨n1,n2⟩,n3,n4,n5,n6,n7⟩ ⟨x0,x1,x2,x3,x4,x5,x6,⟨x7,x8⟩,x9,x10⟩))∧Ext Nothing w w':=by
 have hal:=Lib.hid hM.own.al
 have hnA:s.nA≤67108864:=by have:=hM.own.al;omega
 have HGL:=Lib.hid (show gn=jg.length from hG.len)
 have hwr:wrap64 ((gn:Int) - 1)=(gn:Int) - 1:=by unfold wrap64;omega
 have hxW:Ext Nothing w (((w.alloc (.cells #[.int .i64 j0,.int .i64 j1,.int .i64 j2,.int .i64 j3,.slice GA gn gc,.int .i64 j5,.bool j6] 39)).alloc (.cells #[.int .i64 n0,.int .i64 n1,.int .i64 n2,.bool n3,.bool n4,.int .i64 n5,.int .i64 n6,.int .i64 n7] 43)).alloc (.cells #[.int .i64 x0,.int .i64 x1,.int .i64 x2,.int .i64 x3,.int .i64 x4,.int .i64 x5,.int .i64 x6,.int .i64 x7,.int .i64 x8,.bool x9,.int .i64 x10] 55)):=Ext.Ay
 have hJ:Blk (((w.alloc (.cells #[.int .i64 j0,.int .i64 j1,.int .i64 j2,.int .i64 j3,.slice GA gn gc,.int .i64 j5,.bool j6] 39)).alloc (.cells #[.int .i64 n0,.int .i64 n1,.int .i64 n2,.bool n3,.bool n4,.int .i64 n5,.int .i64 n6,.int .i64 n7] 43)).alloc (.cells #[.int .i64 x0,.int .i64 x1,.int .i64 x2,.int .i64 x3,.int .i64 x4,.int .i64 x5,.int .i64 x6,.int .i64 x7,.int .i64 x8,.bool x9,.int .i64 x10] 55)) w.heap.size 39 #[.int .i64 j0,.int .i64 j1,.int .i64 j2,.int .i64 j3,.slice GA gn gc,.int .i64 j5,.bool j6]:=(Blk.new w _ _).e0 Ext.Ay
 have hN:Blk (((w.alloc (.cells #[.int .i64 j0,.int .i64 j1,.int .i64 j2,.int .i64 j3,.slice GA gn gc,.int .i64 j5,.bool j6] 39)).alloc (.cells #[.int .i64 n0,.int .i64 n1,.int .i64 n2,.bool n3,.bool n4,.int .i64 n5,.int .i64 n6,.int .i64 n7] 43)).alloc (.cells #[.int .i64 x0,.int .i64 x1,.int .i64 x2,.int .i64 x3,.int .i64 x4,.int .i64 x5,.int .i64 x6,.int .i64 x7,.int .i64 x8,.bool x9,.int .i64 x10] 55)) (w.heap.size+1) 43 #[.int .i64 n0,.int .i64 n1,.int .i64 n2,.bool n3,.bool n4,.int .i64 n5,.int .i64 n6,.int .i64 n7]:=(Blk.new' (w.alloc (.cells #[.int .i64 j0,.int .i64 j1,.int .i64 j2,.int .i64 j3,.slice GA gn gc,.int .i64 j5,.bool j6] 39)) _ _ (by simp)).e0 Ext.Ay
 have hX:Blk (((w.alloc (.cells #[.int .i64 j0,.int .i64 j1,.int .i64 j2,.int .i64 j3,.slice GA gn gc,.int .i64 j5,.bool j6] 39)).alloc (.cells #[.int .i64 n0,.int .i64 n1,.int .i64 n2,.bool n3,.bool n4,.int .i64 n5,.int .i64 n6,.int .i64 n7] 43)).alloc (.cells #[.int .i64 x0,.int .i64 x1,.int .i64 x2,.int .i64 x3,.int .i64 x4,.int .i64 x5,.int .i64 x6,.int .i64 x7,.int .i64 x8,.bool x9,.int .i64 x10] 55)) (w.heap.size+1+1) 55 #[.int .i64 x0,.int .i64 x1,.int .i64 x2,.int .i64 x3,.int .i64 x4,.int .i64 x5,.int .i64 x6,.int .i64 x7,.int .i64 x8,.bool x9,.int .i64 x10]:=Blk.new' _ _ _ (by simp)
 have hMW:=hM.e0 hxW
 have HMP:=Lib.hid (Fsm.Ir s.data ⟨j0,j1,j2,j3,jg,j5,j6⟩ ⟨n0,⟨n1,n2⟩,n3,n4,n5,n6,n7⟩ ⟨x0,x1,x2,x3,x4,x5,x6,⟨x7,x8⟩,x9,x10⟩)
 go_enter Tryz.func107,Tryz.ntmps107
 go_upto_region 1 with (first|go_skip|go_guarded)
 generalize w.heap.size=C at hJ hN hX ⊢
 generalize hD:C+1=D at hN hX ⊢
 generalize hE:D+1=E at hX ⊢
 clear hD hE
 generalize (((w.alloc (.cells #[.int .i64 j0,.int .i64 j1,.int .i64 j2,.int .i64 j3,.slice GA gn gc,.int .i64 j5,.bool j6] 39)).alloc (.cells #[.int .i64 n0,.int .i64 n1,.int .i64 n2,.bool n3,.bool n4,.int .i64 n5,.int .i64 n6,.int .i64 n7] 43)).alloc (.cells #[.int .i64 x0,.int .i64 x1,.int .i64 x2,.int .i64 x3,.int .i64 x4,.int .i64 x5,.int .i64 x6,.int .i64 x7,.int .i64 x8,.bool x9,.int .i64 x10] 55))=W at hxW hJ hN hX hMW ⊢
 have g4:W.cell? ⟨C,4,none⟩=some (.slice GA gn gc):=hJ.cell 4
 go_cut [51] from 11 to 50 (fun e wx=>e=.bool (!Fsm.Kt ⟨j0,j1,j2,j3,jg,j5,j6⟩ ⟨n0,⟨n1,n2⟩,n3,n4,n5,n6,n7⟩ ⟨x0,x1,x2,x3,x4,x5,x6,⟨x7,x8⟩,x9,x10⟩)∧Ext Nothing W wx)
 case first =>
  cases ht:Fsm.Kt ⟨j0,j1,j2,j3,jg,j5,j6⟩ ⟨n0,⟨n1,n2⟩,n3,n4,n5,n6,n7⟩ ⟨x0,x1,x2,x3,x4,x5,x6,⟨x7,x8⟩,x9,x10⟩ with
  | false =>
   have HTT:=Lib.hid ht
   have hh:=Fsm.PY ht
   dsimp only at hh
   rw [← HGL.out] at hh
   clear ht
   rcases hh with hh|⟨p1,p2,p3,p4,G,hg,p67⟩
   ·rcases hh with p1|⟨p1,p2⟩|⟨p1,p2,p3⟩|⟨p1,p2,p3,p4⟩
    all_goals (
     refine AY (by kernel_rfl) (by kernel_rfl) ?_
     repeat (first|go_big_quiet_skip|(go_big_quiet_want;(first|((refine Bw rfl ?_);(first|(refine Ah (p:=⟨E,1,none⟩) (v:=.int .i64 x1) ?_ ?_ ?_;(focus rfl);(focus (intro W' hW;have q:=(hX.e0 hW).cell 1;go_simp;done)))|(refine Ah (p:=⟨C,0,none⟩) (v:=.int .i64 j0) ?_ ?_ ?_;(focus rfl);(focus (intro W' hW;have q:=(hJ.e0 hW).cell 0;go_simp;done)))|(refine Ah (p:=⟨E,2,none⟩) (v:=.int .i64 x2) ?_ ?_ ?_;(focus rfl);(focus (intro W' hW;have q:=(hX.e0 hW).cell 2;go_simp;done)))|(refine Ah (p:=⟨C,5,none⟩) (v:=.int .i64 j5) ?_ ?_ ?_;(focus rfl);(focus (intro W' hW;have q:=(hJ.e0 hW).cell 5;go_simp;done)))|(refine Ah (p:=⟨E,6,none⟩) (v:=.int .i64 x6) ?_ ?_ ?_;(focus rfl);(focus (intro W' hW;have q:=(hX.e0 hW).cell 6;go_simp;done)))|(refine Ah (p:=⟨D,6,none⟩) (v:=.int .i64 n6) ?_ ?_ ?_;(focus rfl);(focus (intro W' hW;have q:=(hN.e0 hW).cell 6;go_simp;done)))|(refine Ah (p:=⟨E,3,none⟩) (v:=.int .i64 x3) ?_ ?_ ?_;(focus rfl);(focus (intro W' hW;have q:=(hX.e0 hW).cell 3;go_simp;done)))|(refine Ah (p:=⟨C,4,none⟩) (v:=.slice GA gn gc) ?_ ?_ ?_;(focus rfl);(focus (intro W' hW;have q:=hW.c0 g4;go_simp;done))));(try simp only [Act.put,zA,zB,zC,zD,zE,zF]);(try simp only [p4]))|((refine BH rfl ?_);(first|(refine Ar (f:=33) (args:=#[.int .i64 x3,.int .i64 0,.int .i64 ((gn:Int) - 1)]) (v:=.bool (inB x3 0 ((gn:Int) - 1))) ?_ ?_ ?_;(focus (intro W' hW;go_simp;done));(focus (intro W' hW;refine (BR x3 0 ((gn:Int) - 1) W').mono ?_;intro e w' hcc;obtain ⟨he,hxu⟩:=hcc;refine ⟨?_,hxu⟩;exact he;done))));(try simp only [Act.put,zA,zB,zC,zD,zE,zF]);(try simp only [p4]))|go_big_quiet_op);go_big_quiet_on))
     refine wpQuiet_nil ?_
     intro w2 hx2
     go_wp2
     go_meet
     exact ⟨by rw [HTT.out];rfl,hx2⟩
     )
   have hx30:(0:Int)≤x3:=by have h9:=p4;simp [inB] at h9;omega
   have hx3n:x3 < (gn:Int):=by have h9:=p4;simp [inB] at h9;omega
   obtain ⟨hgx,a,off,hGe,hgce⟩:=hG.get hxW (k:=x3.toNat) (by omega)
   rw [List.getElem?_eq_getElem hgx] at hg
   have hgq:=Option.some.inj hg
   rw [hgq] at hgce
   obtain ⟨q0,⟨q1,q2⟩⟩:=G
   clear hg
   rw [hGe] at g4
   have HGE:=Lib.hid hGe
   have HGQ:=Lib.hid hgq
   clear hGe hgq
   have hr0:W.cell? ⟨a,off+x3.toNat*3,none⟩=some (.int .i64 q0):=hgce 0 _ rfl
   have hr1:W.cell? ⟨a,off+x3.toNat*3+1,none⟩=some (.int .i64 q1):=hgce 1 _ rfl
   have hr2:W.cell? ⟨a,off+x3.toNat*3+1+1,none⟩=some (.int .i64 q2):=hgce 2 _ rfl
   rcases p67 with p6|⟨p6,p7⟩
   all_goals (
    refine AY (by kernel_rfl) (by kernel_rfl) ?_
    repeat (first|go_big_quiet_skip|(go_big_quiet_want;(first|((refine Bw rfl ?_);(first|(refine Ah (p:=⟨E,1,none⟩) (v:=.int .i64 x1) ?_ ?_ ?_;(focus rfl);(focus (intro W' hW;have q:=(hX.e0 hW).cell 1;go_simp;done)))|(refine Ah (p:=⟨C,0,none⟩) (v:=.int .i64 j0) ?_ ?_ ?_;(focus rfl);(focus (intro W' hW;have q:=(hJ.e0 hW).cell 0;go_simp;done)))|(refine Ah (p:=⟨E,2,none⟩) (v:=.int .i64 x2) ?_ ?_ ?_;(focus rfl);(focus (intro W' hW;have q:=(hX.e0 hW).cell 2;go_simp;done)))|(refine Ah (p:=⟨C,5,none⟩) (v:=.int .i64 j5) ?_ ?_ ?_;(focus rfl);(focus (intro W' hW;have q:=(hJ.e0 hW).cell 5;go_simp;done)))|(refine Ah (p:=⟨E,6,none⟩) (v:=.int .i64 x6) ?_ ?_ ?_;(focus rfl);(focus (intro W' hW;have q:=(hX.e0 hW).cell 6;go_simp;done)))|(refine Ah (p:=⟨D,6,none⟩) (v:=.int .i64 n6) ?_ ?_ ?_;(focus rfl);(focus (intro W' hW;have q:=(hN.e0 hW).cell 6;go_simp;done)))|(refine Ah (p:=⟨E,3,none⟩) (v:=.int .i64 x3) ?_ ?_ ?_;(focus rfl);(focus (intro W' hW;have q:=(hX.e0 hW).cell 3;go_simp;done)))|(refine Ah (p:=⟨C,4,none⟩) (v:=.slice (some ⟨a,off,none⟩) gn gc) ?_ ?_ ?_;(focus rfl);(focus (intro W' hW;have q:=hW.c0 g4;go_simp;done)))|(refine Ah (p:=⟨E,7,none⟩) (v:=.agg #[.int .i64 x7,.int .i64 x8]) ?_ ?_ ?_;(focus rfl);(focus (intro W' hW;exact run_load_struct (sz:=2) (b:=E) (off:=7) rfl DY (by go_simp) (fun j u hu=>by rw [(hX.e0 hW).cell];match j,hu with|0,hu=>exact hu|1,hu=>exact hu|(k+2),hu=>simp at hu) rfl;done)))|(refine Ah (p:=⟨a,off+x3.toNat*3+1,none⟩) (v:=.agg #[.int .i64 q1,.int .i64 q2]) ?_ ?_ ?_;(focus rfl);(focus (intro W' hW;exact run_load_struct (sz:=2) (b:=a) (off:=off+x3.toNat*3+1) rfl DY (by go_simp) (fun j u hu=>hW.c0 (match j,hu with|0,hu=>(by cases hu;exact hr1)|1,hu=>(by cases hu;exact hr2)|(k+2),hu=>by simp at hu)) rfl;done))));(try simp only [Act.put,zA,zB,zC,zD,zE,zF]);(try simp only [p4]))|((refine BH rfl ?_);(first|(refine Ar (f:=33) (args:=#[.int .i64 x3,.int .i64 0,.int .i64 ((gn:Int) - 1)]) (v:=.bool (inB x3 0 ((gn:Int) - 1))) ?_ ?_ ?_;(focus (intro W' hW;go_simp;done));(focus (intro W' hW;refine (BR x3 0 ((gn:Int) - 1) W').mono ?_;intro e w' hcc;obtain ⟨he,hxu⟩:=hcc;refine ⟨?_,hxu⟩;exact he;done))));(try simp only [Act.put,zA,zB,zC,zD,zE,zF]);(try simp only [p4]))|go_big_quiet_op);go_big_quiet_on))
    refine wpQuiet_nil ?_
    intro w2 hx2
    go_wp2
    go_meet
    exact ⟨by rw [HTT.out];rfl,hx2⟩
    )
  | true =>
   have HTT:=Lib.hid ht
   have hh:=Fsm.Jc ht
   dsimp only at hh
   rw [← HGL.out] at hh
   clear ht
   obtain ⟨p1,p2,p3,p4,G,hg,p6,p7⟩:=hh
   have hx30:(0:Int)≤x3:=by have h9:=p4;simp [inB] at h9;omega
   have hx3n:x3 < (gn:Int):=by have h9:=p4;simp [inB] at h9;omega
   obtain ⟨hgx,a,off,hGe,hgce⟩:=hG.get hxW (k:=x3.toNat) (by omega)
   rw [List.getElem?_eq_getElem hgx] at hg
   have hgq:=Option.some.inj hg
   rw [hgq] at hgce
   obtain ⟨q0,⟨q1,q2⟩⟩:=G
   clear hg
   rw [hGe] at g4
   have HGE:=Lib.hid hGe
   have HGQ:=Lib.hid hgq
   clear hGe hgq
   have hr0:W.cell? ⟨a,off+x3.toNat*3,none⟩=some (.int .i64 q0):=hgce 0 _ rfl
   have hr1:W.cell? ⟨a,off+x3.toNat*3+1,none⟩=some (.int .i64 q1):=hgce 1 _ rfl
   have hr2:W.cell? ⟨a,off+x3.toNat*3+1+1,none⟩=some (.int .i64 q2):=hgce 2 _ rfl
   refine AY (by kernel_rfl) (by kernel_rfl) ?_
   repeat (first|go_big_quiet_skip|(go_big_quiet_want;(first|((refine Bw rfl ?_);(first|(refine Ah (p:=⟨E,1,none⟩) (v:=.int .i64 x1) ?_ ?_ ?_;(focus rfl);(focus (intro W' hW;have q:=(hX.e0 hW).cell 1;go_simp;done)))|(refine Ah (p:=⟨C,0,none⟩) (v:=.int .i64 j0) ?_ ?_ ?_;(focus rfl);(focus (intro W' hW;have q:=(hJ.e0 hW).cell 0;go_simp;done)))|(refine Ah (p:=⟨E,2,none⟩) (v:=.int .i64 x2) ?_ ?_ ?_;(focus rfl);(focus (intro W' hW;have q:=(hX.e0 hW).cell 2;go_simp;done)))|(refine Ah (p:=⟨C,5,none⟩) (v:=.int .i64 j5) ?_ ?_ ?_;(focus rfl);(focus (intro W' hW;have q:=(hJ.e0 hW).cell 5;go_simp;done)))|(refine Ah (p:=⟨E,6,none⟩) (v:=.int .i64 x6) ?_ ?_ ?_;(focus rfl);(focus (intro W' hW;have q:=(hX.e0 hW).cell 6;go_simp;done)))|(refine Ah (p:=⟨D,6,none⟩) (v:=.int .i64 n6) ?_ ?_ ?_;(focus rfl);(focus (intro W' hW;have q:=(hN.e0 hW).cell 6;go_simp;done)))|(refine Ah (p:=⟨E,3,none⟩) (v:=.int .i64 x3) ?_ ?_ ?_;(focus rfl);(focus (intro W' hW;have q:=(hX.e0 hW).cell 3;go_simp;done)))|(refine Ah (p:=⟨C,4,none⟩) (v:=.slice (some ⟨a,off,none⟩) gn gc) ?_ ?_ ?_;(focus rfl);(focus (intro W' hW;have q:=hW.c0 g4;go_simp;done)))|(refine Ah (p:=⟨E,7,none⟩) (v:=.agg #[.int .i64 x7,.int .i64 x8]) ?_ ?_ ?_;(focus rfl);(focus (intro W' hW;exact run_load_struct (sz:=2) (b:=E) (off:=7) rfl DY (by go_simp) (fun j u hu=>by rw [(hX.e0 hW).cell];match j,hu with|0,hu=>exact hu|1,hu=>exact hu|(k+2),hu=>simp at hu) rfl;done)))|(refine Ah (p:=⟨a,off+x3.toNat*3+1,none⟩) (v:=.agg #[.int .i64 q1,.int .i64 q2]) ?_ ?_ ?_;(focus rfl);(focus (intro W' hW;exact run_load_struct (sz:=2) (b:=a) (off:=off+x3.toNat*3+1) rfl DY (by go_simp) (fun j u hu=>hW.c0 (match j,hu with|0,hu=>(by cases hu;exact hr1)|1,hu=>(by cases hu;exact hr2)|(k+2),hu=>by simp at hu)) rfl;done))));(try simp only [Act.put,zA,zB,zC,zD,zE,zF]);(try simp only [p4]))|((refine BH rfl ?_);(first|(refine Ar (f:=33) (args:=#[.int .i64 x3,.int .i64 0,.int .i64 ((gn:Int) - 1)]) (v:=.bool (inB x3 0 ((gn:Int) - 1))) ?_ ?_ ?_;(focus (intro W' hW;go_simp;done));(focus (intro W' hW;refine (BR x3 0 ((gn:Int) - 1) W').mono ?_;intro e w' hcc;obtain ⟨he,hxu⟩:=hcc;refine ⟨?_,hxu⟩;exact he;done))));(try simp only [Act.put,zA,zB,zC,zD,zE,zF]);(try simp only [p4]))|go_big_quiet_op);go_big_quiet_on))
   refine wpQuiet_nil ?_
   intro w2 hx2
   go_wp2
   go_meet
   exact ⟨by rw [HTT.out];rfl,hx2⟩
 case rest =>
  obtain ⟨rfl,hx2⟩:=hcut
  obtain ⟨w2,rfl⟩ : ∃ w2:World,w2=wc:=⟨_,rfl⟩
  cases ht:Fsm.Kt ⟨j0,j1,j2,j3,jg,j5,j6⟩ ⟨n0,⟨n1,n2⟩,n3,n4,n5,n6,n7⟩ ⟨x0,x1,x2,x3,x4,x5,x6,⟨x7,x8⟩,x9,x10⟩ with
  | false =>
   have HM:=Lib.hid (show Fsm.EI s.data ⟨j0,j1,j2,j3,jg,j5,j6⟩ ⟨n0,⟨n1,n2⟩,n3,n4,n5,n6,n7⟩ ⟨x0,x1,x2,x3,x4,x5,x6,⟨x7,x8⟩,x9,x10⟩=false by rw [HMP.out,ht];rfl)
   go_wp2
   go_ret
   exact ⟨by rw [HM.out];rfl,hxW.tr hx2⟩
  | true =>
   have HTT:=Lib.hid ht
   have hh:=Fsm.Jc ht
   dsimp only at hh
   rw [← HGL.out] at hh
   clear ht
   obtain ⟨p1,p2,p3,p4,G,hg,p6,p7⟩:=hh
   have HGG:=Lib.hid hg
   have hx30:(0:Int)≤x3:=by have h9:=p4;simp [inB] at h9;omega
   have hx3n:x3 < (gn:Int):=by have h9:=p4;simp [inB] at h9;omega
   obtain ⟨hgx,a,off,hGe,hgce⟩:=hG.get hxW (k:=x3.toNat) (by omega)
   rw [List.getElem?_eq_getElem hgx] at hg
   have hgq:=Option.some.inj hg
   rw [hgq] at hgce
   obtain ⟨q0,⟨q1,q2⟩⟩:=G
   clear hg
   rw [hGe] at g4
   have HGE:=Lib.hid hGe
   have HGQ:=Lib.hid hgq
   clear hGe hgq
   have hr0:W.cell? ⟨a,off+x3.toNat*3,none⟩=some (.int .i64 q0):=hgce 0 _ rfl
   have hr1:W.cell? ⟨a,off+x3.toNat*3+1,none⟩=some (.int .i64 q1):=hgce 1 _ rfl
   have hr2:W.cell? ⟨a,off+x3.toNat*3+1+1,none⟩=some (.int .i64 q2):=hgce 2 _ rfl
   have hcq:=hc _ (show (⟨q0,⟨q1,q2⟩⟩ : Ao)∈jg from by rw [← HGQ.out];exact List.getElem_mem hgx)
   have hwq:wrap64 (q0 - 1)=q0 - 1:=by have h9:(0:Int)≤q0∧q0≤4:=hcq;unfold wrap64;omega
   have HMB:=Lib.hid (show Fsm.Nj ⟨j0,j1,j2,j3,jg,j5,j6⟩ ⟨n0,⟨n1,n2⟩,n3,n4,n5,n6,n7⟩ ⟨x0,x1,x2,x3,x4,x5,x6,⟨x7,x8⟩,x9,x10⟩=(bif j1 == 3 then x4 == n0 else inB x4 0 (q0 - 1)) by unfold Fsm.Nj;simp only [];rw [HGG.out];cases (j1 == 3) <;> rfl)
   have hx12:=hxW.tr hx2
   have hJ1:=hJ.e0 hx2
   have hN1:=hN.e0 hx2
   have hX1:=hX.e0 hx2
   have hM1:=hMW.e0 hx2
   have g4:=hx2.c0 g4
   have hr0:=hx2.c0 hr0
   clear p1 p2 p3 p4 p6 p7 hJ hN hX hMW hgce hr1 hr2 hcq
   go_upto_region 3 with (first|go_skip|go_guarded)
   go_cut [80] from 52 to 79 (fun e wx=>e=.bool (!Fsm.Nj ⟨j0,j1,j2,j3,jg,j5,j6⟩ ⟨n0,⟨n1,n2⟩,n3,n4,n5,n6,n7⟩ ⟨x0,x1,x2,x3,x4,x5,x6,⟨x7,x8⟩,x9,x10⟩)∧Ext Nothing w2 wx)
   case first =>
    cases p8:(j1 == 3) with
    | true =>
     have p8n:(j1 != 3)=false:=by unfold bne;rw [p8];rfl
     cases p9:(x4 != n0) with
     | true =>
      refine AY (by kernel_rfl) (by kernel_rfl) ?_
      repeat (first|go_big_quiet_skip|(go_big_quiet_want;(first|((refine Bw rfl ?_);(first|(refine Ah (p:=⟨C,1,none⟩) (v:=.int .i64 j1) ?_ ?_ ?_;(focus rfl);(focus (intro W' hW;have q:=(hJ1.e0 hW).cell 1;go_simp;done)))|(refine Ah (p:=⟨E,4,none⟩) (v:=.int .i64 x4) ?_ ?_ ?_;(focus rfl);(focus (intro W' hW;have q:=(hX1.e0 hW).cell 4;go_simp;done)))|(refine Ah (p:=⟨D,0,none⟩) (v:=.int .i64 n0) ?_ ?_ ?_;(focus rfl);(focus (intro W' hW;have q:=(hN1.e0 hW).cell 0;go_simp;done)))|(refine Ah (p:=⟨C,4,none⟩) (v:=.slice (some ⟨a,off,none⟩) gn gc) ?_ ?_ ?_;(focus rfl);(focus (intro W' hW;have q:=hW.c0 g4;go_simp;done)))|(refine Ah (p:=⟨E,3,none⟩) (v:=.int .i64 x3) ?_ ?_ ?_;(focus rfl);(focus (intro W' hW;have q:=(hX1.e0 hW).cell 3;go_simp;done)))|(refine Ah (p:=⟨a,off+x3.toNat*3,none⟩) (v:=.int .i64 q0) ?_ ?_ ?_;(focus rfl);(focus (intro W' hW;have q:=hW.c0 hr0;go_simp;done))));(try simp only [Act.put,zA,zB,zC,zD,zE,zF]);(try simp only [p10]))|((refine BH rfl ?_);(first|(refine Ar (f:=33) (args:=#[.int .i64 x4,.int .i64 0,.int .i64 (q0 - 1)]) (v:=.bool (inB x4 0 (q0 - 1))) ?_ ?_ ?_;(focus (intro W' hW;go_simp;done));(focus (intro W' hW;refine (BR x4 0 (q0 - 1) W').mono ?_;intro e w' hcc;obtain ⟨he,hxu⟩:=hcc;refine ⟨?_,hxu⟩;exact he;done))));(try simp only [Act.put,zA,zB,zC,zD,zE,zF]);(try simp only [p10]))|go_big_quiet_op);go_big_quiet_on))
      refine wpQuiet_nil ?_
      intro w3 hx3
      go_wp2
      go_meet
      exact ⟨by rw [HMB.out];have h9:(x4 == n0)=false:=(by simpa using p9);rw [p8,h9];rfl,hx3⟩
     | false =>
      refine AY (by kernel_rfl) (by kernel_rfl) ?_
      repeat (first|go_big_quiet_skip|(go_big_quiet_want;(first|((refine Bw rfl ?_);(first|(refine Ah (p:=⟨C,1,none⟩) (v:=.int .i64 j1) ?_ ?_ ?_;(focus rfl);(focus (intro W' hW;have q:=(hJ1.e0 hW).cell 1;go_simp;done)))|(refine Ah (p:=⟨E,4,none⟩) (v:=.int .i64 x4) ?_ ?_ ?_;(focus rfl);(focus (intro W' hW;have q:=(hX1.e0 hW).cell 4;go_simp;done)))|(refine Ah (p:=⟨D,0,none⟩) (v:=.int .i64 n0) ?_ ?_ ?_;(focus rfl);(focus (intro W' hW;have q:=(hN1.e0 hW).cell 0;go_simp;done)))|(refine Ah (p:=⟨C,4,none⟩) (v:=.slice (some ⟨a,off,none⟩) gn gc) ?_ ?_ ?_;(focus rfl);(focus (intro W' hW;have q:=hW.c0 g4;go_simp;done)))|(refine Ah (p:=⟨E,3,none⟩) (v:=.int .i64 x3) ?_ ?_ ?_;(focus rfl);(focus (intro W' hW;have q:=(hX1.e0 hW).cell 3;go_simp;done)))|(refine Ah (p:=⟨a,off+x3.toNat*3,none⟩) (v:=.int .i64 q0) ?_ ?_ ?_;(focus rfl);(focus (intro W' hW;have q:=hW.c0 hr0;go_simp;done))));(try simp only [Act.put,zA,zB,zC,zD,zE,zF]);(try simp only [p10]))|((refine BH rfl ?_);(first|(refine Ar (f:=33) (args:=#[.int .i64 x4,.int .i64 0,.int .i64 (q0 - 1)]) (v:=.bool (inB x4 0 (q0 - 1))) ?_ ?_ ?_;(focus (intro W' hW;go_simp;done));(focus (intro W' hW;refine (BR x4 0 (q0 - 1) W').mono ?_;intro e w' hcc;obtain ⟨he,hxu⟩:=hcc;refine ⟨?_,hxu⟩;exact he;done))));(try simp only [Act.put,zA,zB,zC,zD,zE,zF]);(try simp only [p10]))|go_big_quiet_op);go_big_quiet_on))
      refine wpQuiet_nil ?_
      intro w3 hx3
      go_wp2
      go_meet
      exact ⟨by rw [HMB.out];have h9:(x4 == n0)=true:=(by simpa using p9);rw [p8,h9];rfl,hx3⟩
    | false =>
     have p8n:(j1 != 3)=true:=by unfold bne;rw [p8];rfl
     cases p10:inB x4 0 (q0 - 1) with
     | true =>
      refine AY (by kernel_rfl) (by kernel_rfl) ?_
      repeat (first|go_big_quiet_skip|(go_big_quiet_want;(first|((refine Bw rfl ?_);(first|(refine Ah (p:=⟨C,1,none⟩) (v:=.int .i64 j1) ?_ ?_ ?_;(focus rfl);(focus (intro W' hW;have q:=(hJ1.e0 hW).cell 1;go_simp;done)))|(refine Ah (p:=⟨E,4,none⟩) (v:=.int .i64 x4) ?_ ?_ ?_;(focus rfl);(focus (intro W' hW;have q:=(hX1.e0 hW).cell 4;go_simp;done)))|(refine Ah (p:=⟨D,0,none⟩) (v:=.int .i64 n0) ?_ ?_ ?_;(focus rfl);(focus (intro W' hW;have q:=(hN1.e0 hW).cell 0;go_simp;done)))|(refine Ah (p:=⟨C,4,none⟩) (v:=.slice (some ⟨a,off,none⟩) gn gc) ?_ ?_ ?_;(focus rfl);(focus (intro W' hW;have q:=hW.c0 g4;go_simp;done)))|(refine Ah (p:=⟨E,3,none⟩) (v:=.int .i64 x3) ?_ ?_ ?_;(focus rfl);(focus (intro W' hW;have q:=(hX1.e0 hW).cell 3;go_simp;done)))|(refine Ah (p:=⟨a,off+x3.toNat*3,none⟩) (v:=.int .i64 q0) ?_ ?_ ?_;(focus rfl);(focus (intro W' hW;have q:=hW.c0 hr0;go_simp;done))));(try simp only [Act.put,zA,zB,zC,zD,zE,zF]);(try simp only [p10]))|((refine BH rfl ?_);(first|(refine Ar (f:=33) (args:=#[.int .i64 x4,.int .i64 0,.int .i64 (q0 - 1)]) (v:=.bool (inB x4 0 (q0 - 1))) ?_ ?_ ?_;(focus (intro W' hW;go_simp;done));(focus (intro W' hW;refine (BR x4 0 (q0 - 1) W').mono ?_;intro e w' hcc;obtain ⟨he,hxu⟩:=hcc;refine ⟨?_,hxu⟩;exact he;done))));(try simp only [Act.put,zA,zB,zC,zD,zE,zF]);(try simp only [p10]))|go_big_quiet_op);go_big_quiet_on))
      refine wpQuiet_nil ?_
      intro w3 hx3
      go_wp2
      go_meet
      exact ⟨by rw [HMB.out];rw [p8,p10];rfl,hx3⟩
     | false =>
      refine AY (by kernel_rfl) (by kernel_rfl) ?_
      repeat (first|go_big_quiet_skip|(go_big_quiet_want;(first|((refine Bw rfl ?_);(first|(refine Ah (p:=⟨C,1,none⟩) (v:=.int .i64 j1) ?_ ?_ ?_;(focus rfl);(focus (intro W' hW;have q:=(hJ1.e0 hW).cell 1;go_simp;done)))|(refine Ah (p:=⟨E,4,none⟩) (v:=.int .i64 x4) ?_ ?_ ?_;(focus rfl);(focus (intro W' hW;have q:=(hX1.e0 hW).cell 4;go_simp;done)))|(refine Ah (p:=⟨D,0,none⟩) (v:=.int .i64 n0) ?_ ?_ ?_;(focus rfl);(focus (intro W' hW;have q:=(hN1.e0 hW).cell 0;go_simp;done)))|(refine Ah (p:=⟨C,4,none⟩) (v:=.slice (some ⟨a,off,none⟩) gn gc) ?_ ?_ ?_;(focus rfl);(focus (intro W' hW;have q:=hW.c0 g4;go_simp;done)))|(refine Ah (p:=⟨E,3,none⟩) (v:=.int .i64 x3) ?_ ?_ ?_;(focus rfl);(focus (intro W' hW;have q:=(hX1.e0 hW).cell 3;go_simp;done)))|(refine Ah (p:=⟨a,off+x3.toNat*3,none⟩) (v:=.int .i64 q0) ?_ ?_ ?_;(focus rfl);(focus (intro W' hW;have q:=hW.c0 hr0;go_simp;done))));(try simp only [Act.put,zA,zB,zC,zD,zE,zF]);(try simp only [p10]))|((refine BH rfl ?_);(first|(refine Ar (f:=33) (args:=#[.int .i64 x4,.int .i64 0,.int .i64 (q0 - 1)]) (v:=.bool (inB x4 0 (q0 - 1))) ?_ ?_ ?_;(focus (intro W' hW;go_simp;done));(focus (intro W' hW;refine (BR x4 0 (q0 - 1) W').mono ?_;intro e w' hcc;obtain ⟨he,hxu⟩:=hcc;refine ⟨?_,hxu⟩;exact he;done))));(try simp only [Act.put,zA,zB,zC,zD,zE,zF]);(try simp only [p10]))|go_big_quiet_op);go_big_quiet_on))
      refine wpQuiet_nil ?_
      intro w3 hx3
      go_wp2
      go_meet
      exact ⟨by rw [HMB.out];rw [p8,p10];rfl,hx3⟩
   case rest =>
    obtain ⟨rfl,hx3⟩:=hcut
    obtain ⟨w3,rfl⟩ : ∃ w3:World,w3=wc:=⟨_,rfl⟩
    cases ht:Fsm.Nj ⟨j0,j1,j2,j3,jg,j5,j6⟩ ⟨n0,⟨n1,n2⟩,n3,n4,n5,n6,n7⟩ ⟨x0,x1,x2,x3,x4,x5,x6,⟨x7,x8⟩,x9,x10⟩ with
    | false =>
     have HM:=Lib.hid (show Fsm.EI s.data ⟨j0,j1,j2,j3,jg,j5,j6⟩ ⟨n0,⟨n1,n2⟩,n3,n4,n5,n6,n7⟩ ⟨x0,x1,x2,x3,x4,x5,x6,⟨x7,x8⟩,x9,x10⟩=false by rw [HMP.out,ht];simp)
     go_wp2
     go_ret
     exact ⟨by rw [HM.out];rfl,hx12.tr hx3⟩
    | true =>
     have HTB:=Lib.hid ht
     clear ht
     have hx13:=hx12.tr hx3
     have hJ2:=hJ1.e0 hx3
     have hN2:=hN1.e0 hx3
     have hX2:=hX1.e0 hx3
     have hM2:=hM1.e0 hx3
     have hsl:=hM2.own.slA
     clear g4 hr0 hJ1 hN1 hX1 hM1
     go_upto_region 5 with (first|go_skip|go_guarded)
     rcases AV (Ce j0 x3 x4) s.allocs with ⟨hi,hf,hno⟩|⟨k,y,hi,hy,hp,_,_⟩
     ·have HI:=Lib.hid hi
      have HNS:=Lib.hid (show s.allocs.any (Ce j0 x3 x4)=false by rw [List.any_eq_false];intro y hy;rw [hno y hy];exact Bool.false_ne_true)
      clear hi hf hno
      refine AY (by kernel_rfl) (by kernel_rfl) ?_
      repeat (first|go_big_quiet_skip|(go_big_quiet_want;(first|((refine Bw rfl ?_);(first|(refine Ah (p:=⟨b,0,none⟩) (v:=.agg s.arr) ?_ ?_ ?_;(focus rfl);(focus (intro W' hW;exact run_load_struct (sz:=9) (b:=b) (off:=0) rfl Aj (by go_simp) (fun j u hu=>hW.c0 (hM2.at j u hu)) rfl;done)))|(refine Ah (p:=⟨C,0,none⟩) (v:=.int .i64 j0) ?_ ?_ ?_;(focus rfl);(focus (intro W' hW;have q:=(hJ2.e0 hW).cell 0;go_simp;done)))|(refine Ah (p:=⟨E,3,none⟩) (v:=.int .i64 x3) ?_ ?_ ?_;(focus rfl);(focus (intro W' hW;have q:=(hX2.e0 hW).cell 3;go_simp;done)))|(refine Ah (p:=⟨E,4,none⟩) (v:=.int .i64 x4) ?_ ?_ ?_;(focus rfl);(focus (intro W' hW;have q:=(hX2.e0 hW).cell 4;go_simp;done))));(try simp only [Act.put,zA,zB,zC,zD,zE,zF]))|((refine BH rfl ?_);(first|(refine Ar (f:=121) (args:=#[.agg s.arr,.int .i64 j0,.int .i64 x3,.int .i64 x4]) (v:=.int .i64 (-1)) ?_ ?_ ?_;(focus (intro W' hW;go_simp;done));(focus (intro W' hW;refine (FX s.AA s.nA s.cA s.allocs j0 x3 x4 W' (hsl.Al hW) hnA _ _ _ _ _ _ _ _).mono ?_;intro e w' hcc;obtain ⟨he,hxu⟩:=hcc;refine ⟨?_,hxu⟩;rw [he,HI.out];done))));(try simp only [Act.put,zA,zB,zC,zD,zE,zF]))|go_big_quiet_op);go_big_quiet_on))
      refine wpQuiet_nil ?_
      intro w4 hx4
      have hx14:=hx13.tr hx4
      have hJ3:=hJ2.e0 hx4
      have hN3:=hN2.e0 hx4
      have hX3:=hX2.e0 hx4
      have hM3:=hM2.e0 hx4
      have hs3:=hM3.own.slA
      have m5:w4.cell? ⟨b,5,none⟩=some (.slice s.AA s.nA s.cA):=hM3.blk.cell 5
      clear hJ2 hN2 hX2 hM2 hsl
      go_wp2
      clear m5
      go_loopw [99] (fun ki wr=>∃ t:Nat,t≤s.nA∧ki=.int .i64 t∧Hid ((s.allocs.take t).any (Fsm.EW ⟨j0,j1,j2,j3,jg,j5,j6⟩ x3 x4)=false)∧Ext Nothing w4 wr) (fun ki _=>s.nA - (intOf ki).toNat)
      case atStart=>exact ⟨0,Nat.zero_le _,rfl,Lib.hid rfl,Ext.refl _ _⟩
      case round =>
       obtain ⟨t,ht,rfl,hno,hx⟩:=hrel
       by_cases hlt:t < s.nA
       ·obtain ⟨hjn,a2,off2,hAe,hce⟩:=hs3.get hx hlt
        have hnx:s.allocs.take (t+1)=s.allocs.take t ++ [s.allocs[t]]:=by rw [List.take_add_one,List.getElem?_eq_getElem hjn];rfl
        have hmem:s.allocs[t]∈s.allocs:=List.getElem_mem hjn
        have hce:∀ j u,(Ac.cells s.allocs[t])[j]? = some u→wr.cell? ⟨a2,off2+t*11+j,none⟩=some u:=hce
        generalize s.allocs[t]=y at hce hnx hmem
        obtain ⟨y0,y1,y2,y3,y4,y5,y6,⟨y7,y8⟩,y9,y10⟩:=y
        rw [show s.AA=some ⟨a2,off2,none⟩ from hAe]
        have HA:=Lib.hid (show s.AA=some ⟨a2,off2,none⟩ from hAe)
        have HT:=Lib.hid hlt
        have HNX:=Lib.hid hnx
        have HMEM:=Lib.hid hmem
        have hk0:(0:Int)≤(t:Int):=by omega
        have hk1:(t:Int) < s.nA:=by omega
        clear hAe hnx hmem hlt
        have hce:∀ j u,(#[.int .i64 y0,.int .i64 y1,.int .i64 y2,.int .i64 y3,.int .i64 y4,.int .i64 y5,.int .i64 y6,.int .i64 y7,.int .i64 y8,.bool y9,.int .i64 y10]:Array Value).toList[j]? = some u→wr.cell? ⟨a2,off2+t*11+j,none⟩=some u:=hce
        have hxq:Ext Nothing wr (wr.alloc (.cells #[.int .i64 y0,.int .i64 y1,.int .i64 y2,.int .i64 y3,.int .i64 y4,.int .i64 y5,.int .i64 y6,.int .i64 y7,.int .i64 y8,.bool y9,.int .i64 y10] 55)):=Ext.Ay
        have hQ:Blk (wr.alloc (.cells #[.int .i64 y0,.int .i64 y1,.int .i64 y2,.int .i64 y3,.int .i64 y4,.int .i64 y5,.int .i64 y6,.int .i64 y7,.int .i64 y8,.bool y9,.int .i64 y10] 55)) wr.heap.size 55 #[.int .i64 y0,.int .i64 y1,.int .i64 y2,.int .i64 y3,.int .i64 y4,.int .i64 y5,.int .i64 y6,.int .i64 y7,.int .i64 y8,.bool y9,.int .i64 y10]:=Blk.new _ _ _
        have hJq:=(hJ3.e0 hx).e0 hxq
        have hXq:=(hX3.e0 hx).e0 hxq
        have hxz:=hx.tr hxq
        go_upto_region 10 with (first|go_skip|go_guarded|((with_reducible refine isW ?_);refine Ad rfl 55 _ rfl Ba a2 (off2+t*11) rfl #[.int .i64 y0,.int .i64 y1,.int .i64 y2,.int .i64 y3,.int .i64 y4,.int .i64 y5,.int .i64 y6,.int .i64 y7,.int .i64 y8,.bool y9,.int .i64 y10] hce rfl ?_))
        generalize wr.heap.size=Q at hQ ⊢
        generalize (wr.alloc (.cells #[.int .i64 y0,.int .i64 y1,.int .i64 y2,.int .i64 y3,.int .i64 y4,.int .i64 y5,.int .i64 y6,.int .i64 y7,.int .i64 y8,.bool y9,.int .i64 y10] 55))=wq at hQ hJq hXq hxz ⊢
        clear hxq hce hx
        have f1:wq.cell? ⟨Q,1,none⟩=some (.int .i64 y1):=hQ.cell 1
        have f2:wq.cell? ⟨Q,2,none⟩=some (.int .i64 y2):=hQ.cell 2
        have f3:wq.cell? ⟨Q,3,none⟩=some (.int .i64 y3):=hQ.cell 3
        have f4:wq.cell? ⟨Q,4,none⟩=some (.int .i64 y4):=hQ.cell 4
        have f10:wq.cell? ⟨Q,10,none⟩=some (.int .i64 y10):=hQ.cell 10
        have g0:wq.cell? ⟨C,0,none⟩=some (.int .i64 j0):=hJq.cell 0
        have g1:wq.cell? ⟨C,1,none⟩=some (.int .i64 j1):=hJq.cell 1
        have g5:wq.cell? ⟨C,5,none⟩=some (.int .i64 j5):=hJq.cell 5
        have z3:wq.cell? ⟨E,3,none⟩=some (.int .i64 x3):=hXq.cell 3
        have z4:wq.cell? ⟨E,4,none⟩=some (.int .i64 x4):=hXq.cell 4
        go_cut [138] from 103 to 137 (fun e wx=>e=.bool (Fsm.EW ⟨j0,j1,j2,j3,jg,j5,j6⟩ x3 x4 ⟨y0,y1,y2,y3,y4,y5,y6,⟨y7,y8⟩,y9,y10⟩)∧wq=wx)
        case first =>
         cases u1:(j1 == 2) with
         | false =>
          go_wp2_with (first|go_skip|go_guarded)
          go_meet
          exact ⟨by show Value.bool false=Value.bool ((j1 == 2) && (y10 == 3) && (y1 == j0) && (y2 == j5) && (y3 == x3) && (y4 == x4));rw [u1];rfl,rfl⟩
         | true =>
          cases u2:(y10 == 3) with
          | false =>
           go_wp2_with (first|go_skip|go_guarded)
           go_meet
           exact ⟨by show Value.bool false=Value.bool ((j1 == 2) && (y10 == 3) && (y1 == j0) && (y2 == j5) && (y3 == x3) && (y4 == x4));rw [u1,u2];rfl,rfl⟩
          | true =>
           cases u3:(y1 == j0) with
           | false =>
            go_wp2_with (first|go_skip|go_guarded)
            go_meet
            exact ⟨by show Value.bool false=Value.bool ((j1 == 2) && (y10 == 3) && (y1 == j0) && (y2 == j5) && (y3 == x3) && (y4 == x4));rw [u1,u2,u3];rfl,rfl⟩
           | true =>
            cases u4:(y2 == j5) with
            | false =>
             go_wp2_with (first|go_skip|go_guarded)
             go_meet
             exact ⟨by show Value.bool false=Value.bool ((j1 == 2) && (y10 == 3) && (y1 == j0) && (y2 == j5) && (y3 == x3) && (y4 == x4));rw [u1,u2,u3,u4];rfl,rfl⟩
            | true =>
             cases u5:(y3 == x3) with
             | false =>
              go_wp2_with (first|go_skip|go_guarded)
              go_meet
              exact ⟨by show Value.bool false=Value.bool ((j1 == 2) && (y10 == 3) && (y1 == j0) && (y2 == j5) && (y3 == x3) && (y4 == x4));rw [u1,u2,u3,u4,u5];rfl,rfl⟩
             | true =>
              cases u6:(y4 == x4) with
              | false =>
               go_wp2_with (first|go_skip|go_guarded)
               go_meet
               exact ⟨by show Value.bool false=Value.bool ((j1 == 2) && (y10 == 3) && (y1 == j0) && (y2 == j5) && (y3 == x3) && (y4 == x4));rw [u1,u2,u3,u4,u5,u6];rfl,rfl⟩
              | true =>
               go_wp2_with (first|go_skip|go_guarded)
               go_meet
               exact ⟨by show Value.bool true=Value.bool ((j1 == 2) && (y10 == 3) && (y1 == j0) && (y2 == j5) && (y3 == x3) && (y4 == x4));rw [u1,u2,u3,u4,u5,u6];rfl,rfl⟩
        case rest =>
         obtain ⟨rfl,rfl⟩:=hcut
         clear f1 f2 f3 f4 f10 g0 g1 g5 z3 z4
         cases hd:Fsm.EW ⟨j0,j1,j2,j3,jg,j5,j6⟩ x3 x4 ⟨y0,y1,y2,y3,y4,y5,y6,⟨y7,y8⟩,y9,y10⟩ with
         | true =>
          have HYD:=Lib.hid (show s.allocs.any (Fsm.EW ⟨j0,j1,j2,j3,jg,j5,j6⟩ x3 x4)=true from List.any_eq_true.2 ⟨_,HMEM.out,hd⟩)
          have HM:=Lib.hid (show Fsm.EI s.data ⟨j0,j1,j2,j3,jg,j5,j6⟩ ⟨n0,⟨n1,n2⟩,n3,n4,n5,n6,n7⟩ ⟨x0,x1,x2,x3,x4,x5,x6,⟨x7,x8⟩,x9,x10⟩=false by rw [HMP.out];(try dsimp only);rw [show s.data.allocs=s.allocs from rfl,HYD.out];simp)
          go_wp2
          go_ret
          exact ⟨by rw [HM.out];rfl,hx14.tr hxz⟩
         | false =>
          have HNH:=Lib.hid (show (s.allocs.take (t+1)).any (Fsm.EW ⟨j0,j1,j2,j3,jg,j5,j6⟩ x3 x4)=false by rw [HNX.out,List.any_append,hno.out];simp [hd])
          clear hd
          go_wp2
          go_roundw
          case rel=>(try rw [← HA.out]);exact ⟨t+1,HT.out,by go_num,HNH,hxz⟩
          case measure=>have:=HT.out;simp [intOf];omega
       have hnl:¬ ((t:Int) < s.nA):=by omega
       have HND:=Lib.hid (show s.allocs.any (Fsm.EW ⟨j0,j1,j2,j3,jg,j5,j6⟩ x3 x4)=false by have h9:=hno.out;rw [List.take_of_length_le (by have:=hal.out;omega)] at h9;exact h9)
       clear hno
       have hJr:=hJ3.e0 hx
       have hNr:=hN3.e0 hx
       have hXr:=hX3.e0 hx
       have hMr:=hM3.e0 hx
       have hsr:=hMr.own.slA
       go_upto_region 13 with (first|go_skip|go_guarded)
       refine AY (by kernel_rfl) (by kernel_rfl) ?_
       repeat (first|go_big_quiet_skip|(go_big_quiet_want;(first|((refine Bw rfl ?_);(first|(refine Ah (p:=⟨b,0,none⟩) (v:=.agg s.arr) ?_ ?_ ?_;(focus rfl);(focus (intro W' hW;exact run_load_struct (sz:=9) (b:=b) (off:=0) rfl Aj (by go_simp) (fun j u hu=>hW.c0 (hMr.at j u hu)) rfl;done)))|(refine Ah (p:=⟨D,0,none⟩) (v:=.int .i64 n0) ?_ ?_ ?_;(focus rfl);(focus (intro W' hW;have q:=(hNr.e0 hW).cell 0;go_simp;done)))|(refine Ah (p:=⟨E,7,none⟩) (v:=.agg #[.int .i64 x7,.int .i64 x8]) ?_ ?_ ?_;(focus rfl);(focus (intro W' hW;exact run_load_struct (sz:=2) (b:=E) (off:=7) rfl DY (by go_simp) (fun j u hu=>by rw [(hXr.e0 hW).cell];match j,hu with|0,hu=>exact hu|1,hu=>exact hu|(k+2),hu=>simp at hu) rfl;done)))|(refine Ah (p:=⟨D,1,none⟩) (v:=.agg #[.int .i64 n1,.int .i64 n2]) ?_ ?_ ?_;(focus rfl);(focus (intro W' hW;exact run_load_struct (sz:=2) (b:=D) (off:=1) rfl DY (by go_simp) (fun j u hu=>by rw [(hNr.e0 hW).cell];match j,hu with|0,hu=>exact hu|1,hu=>exact hu|(k+2),hu=>simp at hu) rfl;done))));(try simp only [Act.put,zA,zB,zC,zD,zE,zF]))|((refine BH rfl ?_);(first|(refine Ar (f:=134) (args:=#[.agg s.arr,.int .i64 n0]) (v:=.agg #[.int .i64 (Dv s.allocs n0).cpu,.int .i64 (Dv s.allocs n0).mem]) ?_ ?_ ?_;(focus (intro W' hW;go_simp;done));(focus (intro W' hW;refine (O8 s.AA s.nA s.cA s.allocs n0 W' _ _ _ _ _ _ _ _ (hsr.Al hW) hnA).mono ?_;intro e w' hcc;obtain ⟨he,hxu⟩:=hcc;refine ⟨?_,hxu⟩;exact he;done)))|(refine Ar (f:=133) (args:=#[.agg #[.int .i64 (Dv s.allocs n0).cpu,.int .i64 (Dv s.allocs n0).mem],.agg #[.int .i64 x7,.int .i64 x8],.agg #[.int .i64 n1,.int .i64 n2]]) (v:=.bool (GY (Dv s.allocs n0) ⟨x7,x8⟩ ⟨n1,n2⟩)) ?_ ?_ ?_;(focus (intro W' hW;go_simp;done));(focus (intro W' hW;refine (N7 (Dv s.allocs n0) ⟨x7,x8⟩ ⟨n1,n2⟩ W').mono ?_;intro e w' hcc;obtain ⟨he,hxu⟩:=hcc;refine ⟨?_,hxu⟩;exact he;done))));(try simp only [Act.put,zA,zB,zC,zD,zE,zF]))|go_big_quiet_op);go_big_quiet_on))
       refine wpQuiet_nil ?_
       intro w6 hx6
       go_wp2
       go_ret
       exact ⟨by rw [HMP.out,HTT.out,HTB.out];(try dsimp only);rw [show s.data.allocs=s.allocs from rfl,HNS.out,HND.out];rfl,(hx14.tr hx).tr hx6⟩
     have HI:=Lib.hid hi
     have HYS:=Lib.hid (show s.allocs.any (Ce j0 x3 x4)=true from List.any_eq_true.2 ⟨y,List.mem_of_getElem? hy,hp⟩)
     have hkg:decide ((0:Int)≤(k:Int))=true:=by simp
     clear hi hy hp
     refine AY (by kernel_rfl) (by kernel_rfl) ?_
     repeat (first|go_big_quiet_skip|(go_big_quiet_want;(first|((refine Bw rfl ?_);(first|(refine Ah (p:=⟨b,0,none⟩) (v:=.agg s.arr) ?_ ?_ ?_;(focus rfl);(focus (intro W' hW;exact run_load_struct (sz:=9) (b:=b) (off:=0) rfl Aj (by go_simp) (fun j u hu=>hW.c0 (hM2.at j u hu)) rfl;done)))|(refine Ah (p:=⟨C,0,none⟩) (v:=.int .i64 j0) ?_ ?_ ?_;(focus rfl);(focus (intro W' hW;have q:=(hJ2.e0 hW).cell 0;go_simp;done)))|(refine Ah (p:=⟨E,3,none⟩) (v:=.int .i64 x3) ?_ ?_ ?_;(focus rfl);(focus (intro W' hW;have q:=(hX2.e0 hW).cell 3;go_simp;done)))|(refine Ah (p:=⟨E,4,none⟩) (v:=.int .i64 x4) ?_ ?_ ?_;(focus rfl);(focus (intro W' hW;have q:=(hX2.e0 hW).cell 4;go_simp;done))));(try simp only [Act.put,zA,zB,zC,zD,zE,zF]))|((refine BH rfl ?_);(first|(refine Ar (f:=121) (args:=#[.agg s.arr,.int .i64 j0,.int .i64 x3,.int .i64 x4]) (v:=.int .i64 (k:Int)) ?_ ?_ ?_;(focus (intro W' hW;go_simp;done));(focus (intro W' hW;refine (FX s.AA s.nA s.cA s.allocs j0 x3 x4 W' (hsl.Al hW) hnA _ _ _ _ _ _ _ _).mono ?_;intro e w' hcc;obtain ⟨he,hxu⟩:=hcc;refine ⟨?_,hxu⟩;rw [he,HI.out];done))));(try simp only [Act.put,zA,zB,zC,zD,zE,zF]))|go_big_quiet_op);go_big_quiet_on))
     refine wpQuiet_nil ?_
     intro w4 hx4
     have HM:=Lib.hid (show Fsm.EI s.data ⟨j0,j1,j2,j3,jg,j5,j6⟩ ⟨n0,⟨n1,n2⟩,n3,n4,n5,n6,n7⟩ ⟨x0,x1,x2,x3,x4,x5,x6,⟨x7,x8⟩,x9,x10⟩=false by rw [HMP.out];(try dsimp only);rw [show s.data.allocs=s.allocs from rfl,HYS.out];simp)
     go_wp2
     go_ret
     exact ⟨by rw [HM.out];rfl,hx13.tr hx4⟩
end Go.Proofs.YtccekmeifanipaaGreat
