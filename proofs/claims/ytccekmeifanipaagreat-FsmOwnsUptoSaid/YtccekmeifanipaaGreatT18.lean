/- Parts of the proof: MCmds MJob MAlike MForg MIdxS MEnd -/
import Derived.Carry
import Derived.Test.YtccekmeifanipaaGreatT16
import Derived.Test.YtccekmeifanipaaGreatT11
import Derived.Test.YtccekmeifanipaaGreatT12
import Derived.Test.YtccekmeifanipaaGreatT17
import Derived.Test.YtccekmeifanipaaGreatT04
import Derived.Test.YtccekmeifanipaaGreatT07
import Derived.Test.YtccekmeifanipaaGreatT14
namespace Go.Proofs.YtccekmeifanipaaGreat
set_option linter.unusedVariables false
set_option linter.unusedSimpArgs false
set_option linter.unusedSectionVars false
section
open Go.RowKit
open Go.Maps (Keyed)
abbrev KZ (n:Nat):Value:=.func (.func n) #[] #[]
theorem QX:Tryz.prog.underlying 82=some (.map 3 80):=by kernel_rfl
theorem ULi:Tryz.prog.underlying 3=some (.int .i64):=by kernel_rfl
theorem KLi:Keyed Tryz.prog 3:=Maps.int_keyed ULi
theorem Qg:∀ x y:Int,Value.int .i64 x=Value.int .i64 y→x=y:=fun x y h=>by injection h
section
variable {κ ν:Type} {P:Program} {K:TypeId} {eK:κ→Value} {eV:ν→Value} {b:Nat} {L:List (κ × ν)} [DecidableEq κ]
variable (w:World) {ops:Array Oper} {rest:List Oper} {o:Oper} {a:Act} {Q:Exit→Act→World→Prop}
theorem Me (hg:o.guard=none) (m x v:Operand) (t e:TypeId) (hop:o.op=Op.insert t m x v)
  (KL:Keyed P K) (hinj:∀ x y,eK x=eK y→x=y) (ht:P.underlying t=some (.map K e)) (h:MapIs P K eK eV w b L) (hm:a.eval m=.map (some b)) (k:κ) (hx:a.eval x=eK k) (u:ν) (hv:a.eval v=eV u)
  {kl:Lit} (hk:keyOf P K (eK k)=some kl) (hK:∀ w',MapIs P K eK eV w' b (Hl k u L)→w.grownBy w' (some b)→wpList P ops Q rest (a.put o.dst undef) w') :
  wpList P ops Q (o :: rest) a w:=by
 refine wpList_plain hg fun K' hK'=>?_
 obtain ⟨w',hrun,r1,r2⟩:=h.put KL hinj ht hk u
 unfold Oper.wp
 simp [execOp,hop,hm,hx,hv,hrun,Result.andThen]
 exact hK' _ _ (hK w' r1 r2)
end
def Hm:List (Int × Nat):=[(1,49),(2,49),(3,50),(4,51),(5,52),(6,53),(7,54),(8,55),(9,56),(10,57)]
set_option maxRecDepth 20000 in
set_option maxHeartbeats 4000000 in
theorem NH (w:World) :
  Calls Tryz.prog 30 #[] w fun e w'=>∃ b,e=.returned (.map (some b))∧MapIs Tryz.prog 3 (.int .i64) KZ w' b Hm∧Ext Nothing w w':=by
 have hM:MapIs Tryz.prog 3 (.int .i64) KZ (w.alloc (.map #[] 0)) w.heap.size ([]:List (Int × Nat)):=MapIs.new w
 have hx:Ext Nothing w (w.alloc (.map #[] 0)):=(Ext.refl _ _).alloc _
 have hmm:=@run_makeMap Tryz.prog
 go_enter Tryz.func30,Tryz.ntmps30
 go_wp2_with (first|(refine Me _ rfl _ _ _ 82 80 rfl KLi Qg QX hM rfl _ rfl _ rfl (Maps.keyOf_int_mk ULi (by decide)) ?_;intro w1 hM1 g1;replace hM:=hM1;replace hx:=hx.grown g1 (fun g e=>.inl (by injection e with e;omega));clear g1 hM1)|go_skip|go_guarded)
 go_ret
 exact ⟨_,rfl,hM,hx⟩
end
section
open Go.RowKit
set_option maxRecDepth 20000 in
set_option maxHeartbeats 4000000 in
theorem Pw (base b:Nat) (s:Aa) (cm:Bool) (d:DepD) (w:World) (hM:Az base w b s cm) (hb:base≤w.heap.size) (hD:s.deploys.length≤67108862) (hu:Fsm.Up DepD.job s.deploys) :
  Calls Tryz.prog 91 #[.pointer (some ⟨b,0,none⟩),.agg #[.int .i64 d.job,.int .i64 d.ver,.int .i64 d.state,.int .i64 d.index]] w fun e w'=>∃ A c,e=.returned (.tuple #[])∧Az base w' b (s.DT A c (Fsm.Ak DepD.job d s.deploys)) cm∧Step w w' b s (s.DT A c (Fsm.Ak DepD.job d s.deploys)):=by
 have hln:=Lib.hid hM.own.dl
 have hbl:=hM.blk.lt
 have hxa:Ext Nothing w (w.alloc (.cells #[.int .i64 d.job,.int .i64 d.ver,.int .i64 d.state,.int .i64 d.index] 74)):=Ext.Ay
 have hBX:Blk (w.alloc (.cells #[.int .i64 d.job,.int .i64 d.ver,.int .i64 d.state,.int .i64 d.index] 74)) w.heap.size 74 #[.int .i64 d.job,.int .i64 d.ver,.int .i64 d.state,.int .i64 d.index]:=Blk.new _ _ _
 have hM0:=hM.e0 hxa
 have hoe:=hM0.own.d
 rw [hln.out] at hoe
 have hzx:=hxa.size
 have hrl:∀ q,(Value.slice s.AD s.deploys.length s.cD).ownBlock=some q→q < w.heap.size:=fun q hq=>CB hM.own.d (by rw [← hq];cases s.AD <;> rfl)
 go_enter Tryz.func91,Tryz.ntmps91
 go_upto_region 1 with (first|go_skip|go_guarded)
 generalize (w.alloc (.cells #[.int .i64 d.job,.int .i64 d.ver,.int .i64 d.state,.int .i64 d.index] 74))=w0 at hxa hBX hM0 hoe hzx ⊢
 have hd:Ext Nothing w0 w0.drew:=(Ext.refl _ _).drew
 refine zS (S:=fun W'=>Ext (fun q=>q=b ∨ (Value.slice s.AD s.deploys.length s.cD).ownBlock=some q) w0 W') (by kernel_rfl) ?_
 have hS:=hd.any (S:=fun q=>q=b ∨ (Value.slice s.AD s.deploys.length s.cD).ownBlock=some q)
 generalize w0.drew=W at hd hS ⊢
 have hMW:=hM0.e0 hd
 have hoW:=Am hoe hd (fun _ _ e=>e)
 have hdw:=hd.size
 refine zV 0 (.pointer (some ⟨b,0,none⟩)) rfl (by kernel_rfl) hS (fun _ _ _ h=>h) (fun W' hS'=>by go_simp) ?_
 refine zV 1 (.pointer (some ⟨b,0,none⟩)) rfl (by kernel_rfl) hS (fun _ _ _ h=>h) (fun W' hS'=>by go_simp) ?_
 refine zV 2 (.pointer (some ⟨b,0,none⟩)) rfl (by kernel_rfl) hS (fun _ _ _ h=>h) (fun W' hS'=>by go_simp) ?_
 refine zV 3 (.pointer (some ⟨b,0,none⟩)) rfl (by kernel_rfl) hS (fun _ _ _ h=>h) (fun W' hS'=>by go_simp) ?_
 refine zV 4 (.pointer (some ⟨b,7,none⟩)) rfl (by kernel_rfl) hS (fun _ _ _ h=>h) (fun W' hS'=>by go_simp) ?_
 refine zV 6 (.agg #[.int .i64 d.job,.int .i64 d.ver,.int .i64 d.state,.int .i64 d.index]) rfl (by kernel_rfl) hS (fun _ _ _ h=>h) (fun W' hS'=>by exact AB rfl Cb (by go_simp) (hBX.ext hS' (fun e=>e.elim (fun e=>by omega) (fun e=>by have:=hrl _ e;omega))) rfl) ?_
 (try simp only [Act.put,zA,zB,zC,zD,zE,zF])
 refine zO 5 (by kernel_rfl) ?_
 refine wpOp_val (v:=.slice s.AD s.deploys.length s.cD) (w':=W) rfl (by rfl) (by rw [← hln.out];have q6:=hMW.blk.cell 7;go_simp) ⟨hS,?_⟩
 (try simp only [Act.put,zA,zB,zC,zD,zE,zF])
 refine zO 7 (by kernel_rfl) ?_
 refine Ai (f:=116) (args:=#[.slice s.AD s.deploys.length s.cD,.agg #[.int .i64 d.job,.int .i64 d.ver,.int .i64 d.state,.int .i64 d.index],.func (.func 117) #[] #[]]) rfl (by rfl) (by go_simp) ((NQ base s.AD s.cD s.deploys d W hoW (by omega) hD hu).mono ?_)
 rintro e w3 ⟨A',c',rfl,ho3,hq3,hx3⟩
 have hnb:¬ ((Value.slice s.AD s.deploys.length s.cD).ownBlock=some b):=fun e=>own_ne hoW hMW.blk (by decide) e
 have hS3:=hS.trans hx3 (fun q hq e=>.inr e)
 refine ⟨_,rfl,hS3,?_⟩
 (try simp only [Act.put,zA,zB,zC,zD,zE,zF])
 refine zV 8 (.pointer (some ⟨b,0,none⟩)) rfl (by kernel_rfl) hS3 (fun _ _ _ h=>h) (fun W' hS'=>by go_simp) ?_
 refine zV 9 (.pointer (some ⟨b,0,none⟩)) rfl (by kernel_rfl) hS3 (fun _ _ _ h=>h) (fun W' hS'=>by go_simp) ?_
 refine zV 10 (.pointer (some ⟨b,7,none⟩)) rfl (by kernel_rfl) hS3 (fun _ _ _ h=>h) (fun W' hS'=>by go_simp) ?_
 (try simp only [Act.put,zA,zB,zC,zD,zE,zF])
 refine zO 11 (by kernel_rfl) ?_
 have hB3:=hMW.blk.ext hx3 hnb
 have m6:w3.cell? ⟨b,7,none⟩=some (.slice s.AD s.nD s.cD):=hB3.cell 7
 have m6f:w3.frozen? ⟨b,7,none⟩=false:=hB3.frozen 7
 have hs6:Ext (fun q=>q=b) w3 (w3.setCell ⟨b,7,none⟩ (.slice A' (Fsm.Ak DepD.job d s.deploys).length c')):=Ext.set1 _ _ _ _
 refine AC (w':=w3.setCell ⟨b,7,none⟩ (.slice A' (Fsm.Ak DepD.job d s.deploys).length c')) rfl (by rfl) (by go_simp) ⟨hS3.trans hs6 (fun q hq e=>.inl e),?_⟩
 (try simp only [Act.put,zA,zB,zC,zD,zE,zF])
 refine wpAnyH_done (by kernel_rfl) ?_ _
 (try simp only [Act.put,zA,zB,zC,zD,zE,zF])
 have hO3:Aw base w3 (s.DT A' c' (Fsm.Ak DepD.job d s.deploys)):=hMW.own.wD hx3 (Apart.row hoW (by decide)) ho3
 have hM5:Az base (w3.setCell ⟨b,7,none⟩ (.slice A' (Fsm.Ak DepD.job d s.deploys).length c')) b (s.DT A' c' (Fsm.Ak DepD.job d s.deploys)) cm:=⟨hB3.Bi 7 _,hO3.keep hs6 (Apart.one hB3 (by decide)),hMW.lo⟩
 have hx5:Step w0 (w3.setCell ⟨b,7,none⟩ (.slice A' (Fsm.Ak DepD.job d s.deploys).length c')) b s (s.DT A' c' (Fsm.Ak DepD.job d s.deploys)):=((Step.of0 hd).put hx3 (fun q hq=>MW.oD (s:=s) hq) (MW.DT (s:=s) hq3)).cell (.inl rfl) (fun q hq=>hq) _
 clear hO3 hs6 m6 m6f hB3 hS3 hS
 generalize (w3.setCell ⟨b,7,none⟩ (.slice A' (Fsm.Ak DepD.job d s.deploys).length c'))=w5 at hM5 hx5 ⊢
 go_wp2
 go_end0
 exact ⟨A',c',rfl,hM5,(Step.of0 hxa).trans hx5⟩
end
section
open Go.RowKit
theorem FY:Bb Tryz.prog 66 3:=.of (by kernel_rfl)
set_option maxRecDepth 20000 in
set_option maxHeartbeats 4000000 in
theorem KW (A:Option Addr) (n c:Nat) (xs:List Ao) (B:Option Addr) (m d:Nat) (ys:List Ao) (w:World) (h1:Sl w 3 A n (xs.map Ao.cells)) (h2:Sl w 3 B m (ys.map Ao.cells)) (hn:n≤67108864) (hm:m≤67108864) :
  Calls Tryz.prog 112 #[.slice A n c,.slice B m d] w fun e w'=>e=.returned (.bool (decide (xs=ys)))∧Ext Nothing w w':=by
 have hl1:=Lib.hid h1.len
 have hl2:=Lib.hid h2.len
 by_cases hnm:n=m
 ·subst hnm
  have e0:((n:Int) != (n:Int))=false:=by simp
  go_enter Tryz.func112,Tryz.ntmps112
  go_wp2
  clear e0
  go_loopw [13] (fun c wr=>∃ t:Nat,t≤n∧c=.int .i64 t∧Hid (xs.take t=ys.take t)∧Ext Nothing w wr) (fun i _=>n - (intOf i).toNat)
  case atStart=>exact ⟨0,Nat.zero_le _,rfl,Lib.hid rfl,Ext.refl _ _⟩
  case round =>
   obtain ⟨t,ht,rfl,hD,hx⟩:=hrel
   by_cases hlt:t < n
   ·obtain ⟨hj1,a1,o1,hA1,hc1⟩:=h1.get hx hlt
    obtain ⟨hj2,a2,o2,hA2,hc2⟩:=h2.get hx hlt
    have hx1:xs[t]? = some xs[t]:=List.getElem?_eq_getElem hj1
    have hy1:ys[t]? = some ys[t]:=List.getElem?_eq_getElem hj2
    have hc1:∀ j u,(Ao.cells xs[t])[j]? = some u→wr.cell? ⟨a1,o1+t*3+j,none⟩=some u:=hc1
    have hc2:∀ j u,(Ao.cells ys[t])[j]? = some u→wr.cell? ⟨a2,o2+t*3+j,none⟩=some u:=hc2
    generalize xs[t]=x at hx1 hc1
    generalize ys[t]=y at hy1 hc2
    obtain ⟨p0,⟨p1,p2⟩⟩:=x
    obtain ⟨q0,⟨q1,q2⟩⟩:=y
    have hc1:∀ j u,(#[.int .i64 p0,.int .i64 p1,.int .i64 p2]:Array Value).toList[j]? = some u→wr.cell? ⟨a1,o1+t*3+j,none⟩=some u:=hc1
    have hc2:∀ j u,(#[.int .i64 q0,.int .i64 q1,.int .i64 q2]:Array Value).toList[j]? = some u→wr.cell? ⟨a2,o2+t*3+j,none⟩=some u:=hc2
    rw [hA1,hA2]
    have HA1:=Lib.hid hA1
    have HA2:=Lib.hid hA2
    have HT:=Lib.hid hlt
    have HX:=Lib.hid hx1
    have HY:=Lib.hid hy1
    have hk0:(0:Int)≤(t:Int):=by omega
    have hk1:(t:Int) < n:=by omega
    clear hA1 hA2 hlt hx1 hy1
    by_cases he:(⟨p0,⟨p1,p2⟩⟩ : Ao)=⟨q0,⟨q1,q2⟩⟩
    ·injection he with e1 e2
     injection e2 with e2 e3
     subst e1 e2 e3
     have HS:=Lib.hid (show xs.take (t+1)=ys.take (t+1) by rw [List.take_add_one,List.take_add_one,HX.out,HY.out,hD.out])
     have b0:(p0 == p0)=true:=by simp
     have b1:(p1 == p1)=true:=by simp
     have b2:(p2 == p2)=true:=by simp
     go_upto_region 6 with (first|go_skip|go_guarded)
     refine AY (by kernel_rfl) (by kernel_rfl) ?_
     repeat (first|go_big_quiet_skip|(go_big_quiet_want;(first|((refine Bw rfl ?_);(first|(refine Ah (p:=⟨a1,o1+t*3,none⟩) (v:=.agg #[.int .i64 p0,.int .i64 p1,.int .i64 p2]) ?_ ?_ ?_;(focus rfl);(focus (intro W' hW;exact run_load_struct (sz:=3) (b:=a1) (off:=o1+t*3) rfl FY (by go_simp) (fun j u hu=>hW.c0 (hc1 j u hu)) rfl;done)))|(refine Ah (p:=⟨a2,o2+t*3,none⟩) (v:=.agg #[.int .i64 p0,.int .i64 p1,.int .i64 p2]) ?_ ?_ ?_;(focus rfl);(focus (intro W' hW;exact run_load_struct (sz:=3) (b:=a2) (off:=o2+t*3) rfl FY (by go_simp) (fun j u hu=>hW.c0 (hc2 j u hu)) rfl;done))));(try simp only [Act.put,zA,zB,zC,zD,zE,zF]))|go_big_quiet_op);go_big_quiet_on))
     refine wpQuiet_nil ?_
     intro wq hxq
     go_wp2_with (first|go_skip|go_guarded)
     go_roundw
     case rel=>(try rw [← HA1.out,← HA2.out]);exact ⟨t+1,HT.out,by go_num,HS,hx.tr hxq⟩
     case measure=>have:=HT.out;simp [intOf];omega
    have HNE:=Lib.hid (show decide (xs=ys)=false from decide_eq_false (fun e=>he (by have h9:=HX.out;rw [e,HY.out] at h9;exact (Option.some.inj h9).symm)))
    have hne:((p0 == q0)=false) ∨ ((p0 == q0)=true∧(p1 == q1)=false) ∨ ((p0 == q0)=true∧(p1 == q1)=true∧(p2 == q2)=false):=by
     cases e0:(p0 == q0) with
     | false=>exact .inl rfl
     | true=>cases e1:(p1 == q1) with
      | false=>exact .inr (.inl ⟨rfl,rfl⟩)
      | true=>cases e2:(p2 == q2) with
       | false=>exact .inr (.inr ⟨rfl,rfl,rfl⟩)
       | true=>exact absurd (by rw [show p0=q0 by simpa using e0,show p1=q1 by simpa using e1,show p2=q2 by simpa using e2]) he
    clear he
    rcases hne with b0|⟨b0,b1⟩|⟨b0,b1,b2⟩
    all_goals (
     go_upto_region 6 with (first|go_skip|go_guarded)
     refine AY (by kernel_rfl) (by kernel_rfl) ?_
     repeat (first|go_big_quiet_skip|(go_big_quiet_want;(first|((refine Bw rfl ?_);(first|(refine Ah (p:=⟨a1,o1+t*3,none⟩) (v:=.agg #[.int .i64 p0,.int .i64 p1,.int .i64 p2]) ?_ ?_ ?_;(focus rfl);(focus (intro W' hW;exact run_load_struct (sz:=3) (b:=a1) (off:=o1+t*3) rfl FY (by go_simp) (fun j u hu=>hW.c0 (hc1 j u hu)) rfl;done)))|(refine Ah (p:=⟨a2,o2+t*3,none⟩) (v:=.agg #[.int .i64 q0,.int .i64 q1,.int .i64 q2]) ?_ ?_ ?_;(focus rfl);(focus (intro W' hW;exact run_load_struct (sz:=3) (b:=a2) (off:=o2+t*3) rfl FY (by go_simp) (fun j u hu=>hW.c0 (hc2 j u hu)) rfl;done))));(try simp only [Act.put,zA,zB,zC,zD,zE,zF]))|go_big_quiet_op);go_big_quiet_on))
     refine wpQuiet_nil ?_
     intro wq hxq
     go_wp2
     go_ret
     exact ⟨by rw [HNE.out];rfl,hx.tr hxq⟩
     )
   have hnl:¬ ((t:Int) < n):=by omega
   have HE:=Lib.hid (show decide (xs=ys)=true from decide_eq_true (by have h9:=hD.out;rwa [List.take_of_length_le (by have:=hl1.out;omega),List.take_of_length_le (by have:=hl2.out;omega)] at h9))
   go_wp2
   go_ret
   exact ⟨by rw [HE.out];rfl,hx⟩
 have HNE:=Lib.hid (show decide (xs=ys)=false from decide_eq_false (fun e=>hnm (hl1.out.trans ((congrArg List.length e).trans hl2.out.symm))))
 have e0:((n:Int) != (m:Int))=true:=by simp;omega
 have e1:¬ ((n:Int)=(m:Int)):=by omega
 go_enter Tryz.func112,Tryz.ntmps112
 go_wp2
 go_ret
 exact ⟨by rw [HNE.out];rfl,Ext.refl _ _⟩
set_option maxRecDepth 20000 in
set_option maxHeartbeats 4000000 in
theorem Oq (a0 a1 a2 a3:Int) (ag:List Ao) (a5:Int) (a6:Bool) (GA:Option Addr) (gn gc:Nat) (b0 b1 b2 b3:Int) (bg:List Ao) (b5:Int) (b6:Bool) (GB:Option Addr) (hn hcap:Nat) (w:World) (h1:Sl w 3 GA gn (ag.map Ao.cells)) (h2:Sl w 3 GB hn (bg.map Ao.cells)) (hn1:gn≤67108864) (hn2:hn≤67108864) :
  Calls Tryz.prog 81 #[.agg #[.int .i64 a0,.int .i64 a1,.int .i64 a2,.int .i64 a3,.slice GA gn gc,.int .i64 a5,.bool a6],.agg #[.int .i64 b0,.int .i64 b1,.int .i64 b2,.int .i64 b3,.slice GB hn hcap,.int .i64 b5,.bool b6]] w fun e w'=>e=.returned (.bool ((a1 == b1) && (a2 == b2) && (a3 == b3) && decide (ag=bg)))∧Ext Nothing w w':=by
 have hxW:Ext Nothing w ((w.alloc (.cells #[.int .i64 a0,.int .i64 a1,.int .i64 a2,.int .i64 a3,.slice GA gn gc,.int .i64 a5,.bool a6] 39)).alloc (.cells #[.int .i64 b0,.int .i64 b1,.int .i64 b2,.int .i64 b3,.slice GB hn hcap,.int .i64 b5,.bool b6] 39)):=Ext.Ay
 have hA:Blk ((w.alloc (.cells #[.int .i64 a0,.int .i64 a1,.int .i64 a2,.int .i64 a3,.slice GA gn gc,.int .i64 a5,.bool a6] 39)).alloc (.cells #[.int .i64 b0,.int .i64 b1,.int .i64 b2,.int .i64 b3,.slice GB hn hcap,.int .i64 b5,.bool b6] 39)) w.heap.size 39 #[.int .i64 a0,.int .i64 a1,.int .i64 a2,.int .i64 a3,.slice GA gn gc,.int .i64 a5,.bool a6]:=(Blk.new w _ _).e0 Ext.Ay
 have hB:Blk ((w.alloc (.cells #[.int .i64 a0,.int .i64 a1,.int .i64 a2,.int .i64 a3,.slice GA gn gc,.int .i64 a5,.bool a6] 39)).alloc (.cells #[.int .i64 b0,.int .i64 b1,.int .i64 b2,.int .i64 b3,.slice GB hn hcap,.int .i64 b5,.bool b6] 39)) (w.heap.size+1) 39 #[.int .i64 b0,.int .i64 b1,.int .i64 b2,.int .i64 b3,.slice GB hn hcap,.int .i64 b5,.bool b6]:=Blk.new' _ _ _ (by simp)
 have hg1:=h1.Al hxW
 have hg2:=h2.Al hxW
 go_enter Tryz.func81,Tryz.ntmps81
 go_upto_region 1 with (first|go_skip|go_guarded)
 generalize w.heap.size=C at hA hB ⊢
 generalize hD:C+1=D at hB ⊢
 clear hD
 generalize ((w.alloc (.cells #[.int .i64 a0,.int .i64 a1,.int .i64 a2,.int .i64 a3,.slice GA gn gc,.int .i64 a5,.bool a6] 39)).alloc (.cells #[.int .i64 b0,.int .i64 b1,.int .i64 b2,.int .i64 b3,.slice GB hn hcap,.int .i64 b5,.bool b6] 39))=W at hxW hA hB hg1 hg2 ⊢
 have f1:W.cell? ⟨C,1,none⟩=some (.int .i64 a1):=hA.cell 1
 have f2:W.cell? ⟨C,2,none⟩=some (.int .i64 a2):=hA.cell 2
 have f3:W.cell? ⟨C,3,none⟩=some (.int .i64 a3):=hA.cell 3
 have f4:W.cell? ⟨C,4,none⟩=some (.slice GA gn gc):=hA.cell 4
 have g1:W.cell? ⟨D,1,none⟩=some (.int .i64 b1):=hB.cell 1
 have g2:W.cell? ⟨D,2,none⟩=some (.int .i64 b2):=hB.cell 2
 have g3:W.cell? ⟨D,3,none⟩=some (.int .i64 b3):=hB.cell 3
 have g4:W.cell? ⟨D,4,none⟩=some (.slice GB hn hcap):=hB.cell 4
 cases e1:(a1 == b1) with
 | false =>
  have E1:=Lib.hid e1
  go_wp2_with (first|go_skip|go_guarded)
  go_ret
  exact ⟨by rw [E1.out];rfl,hxW⟩
 | true =>
  have E1:=Lib.hid e1
  cases e2:(a2 == b2) with
  | false =>
   have E2:=Lib.hid e2
   go_wp2_with (first|go_skip|go_guarded)
   go_ret
   exact ⟨by rw [E1.out,E2.out];rfl,hxW⟩
  | true =>
   have E2:=Lib.hid e2
   cases e3:(a3 == b3) with
   | false =>
    have E3:=Lib.hid e3
    go_wp2_with (first|go_skip|go_guarded)
    go_ret
    exact ⟨by rw [E1.out,E2.out,E3.out];rfl,hxW⟩
   | true =>
    have E3:=Lib.hid e3
    cases e4:decide (ag=bg) with
    | false =>
     have HEQ:=Lib.hid e4
     clear e4
     go_wp2_with (first|go_skip|go_guarded|(go_at_call 112;(with_reducible refine (KW GA gn gc ag GB hn hcap bg W hg1 hg2 hn1 hn2).mono ?_);rintro e w1 ⟨rfl,hx1⟩;(rw [HEQ.out])))
     go_ret
     exact ⟨by rw [E1.out,E2.out,E3.out,HEQ.out];rfl,hxW.tr hx1⟩
    | true =>
     have HEQ:=Lib.hid e4
     clear e4
     go_wp2_with (first|go_skip|go_guarded|(go_at_call 112;(with_reducible refine (KW GA gn gc ag GB hn hcap bg W hg1 hg2 hn1 hn2).mono ?_);rintro e w1 ⟨rfl,hx1⟩;(rw [HEQ.out])))
     go_ret
     exact ⟨by rw [E1.out,E2.out,E3.out,HEQ.out];rfl,hxW.tr hx1⟩
end
section
open Go.RowKit
theorem Rv (base b:Nat) (s:Aa) (cm:Bool) (c:Bl) (w:World) (hM:Az base w b s cm) :
  Calls Tryz.prog 49 #[.pointer (some ⟨b,0,none⟩),.agg c.arr] w fun e w'=>e=.returned (.agg (Au 0 0))∧Az base w' b s cm∧Step w w' b s s:=by
 obtain ⟨hxW,hCW,hRW⟩:=cmd0 w c
 have hzW:=hxW.size
 have hMW:=hM.e0 hxW
 go_enter Tryz.func49,Tryz.ntmps49
 go_upto_region 1 with (first|go_skip|go_guarded)
 generalize hC:w.heap.size=C at hCW hRW hzW ⊢
 have HC:=Lib.hid hC
 clear hC
 generalize ((w.alloc (.cells c.arr 51)).alloc (.cells #[.int .i64 0,.int .i64 0,.slice none 0 0] 34))=W at hxW hCW hRW hzW hMW ⊢
 have hst:=Step.of0 (b:=b) (s:=s) hxW
 go_wp2_with (first|go_skip|go_guarded|((with_reducible refine isW ?_);refine Af rfl 34 _ _ rfl STResult (C+1) rfl (Au 0 0) rfl hRW rfl rfl rfl ?_;intro w9 hR9 hx9))
 exact bodyPost_ret (results_cell rfl STResult (g:=C+1) rfl hR9 rfl) rfl ⟨rfl,hMW.keep hx9 (fun e=>Blk.ne hMW.blk hRW (by decide) e) (Apart.one hRW (by decide)),hst.fresh hx9 (fun q e=>by have:=HC.out;have:q=C+1:=e;omega)⟩
set_option maxRecDepth 20000 in
set_option maxHeartbeats 8000000 in
theorem Ib (base b:Nat) (s:Aa) (cm:Bool) (a:Ac) (w:World) (hM:Az base w b s cm) (hJ:s.jobs.length≤1048576) :
  Calls Tryz.prog 109 #[.pointer (some ⟨b,0,none⟩),.agg #[.int .i64 a.id,.int .i64 a.job,.int .i64 a.ver,.int .i64 a.group,.int .i64 a.index,.int .i64 a.node,.int .i64 a.epoch,.int .i64 a.ask.cpu,.int .i64 a.ask.mem,.bool a.stop,.int .i64 a.state]] w fun e w'=>e=.returned (.bool (!Fsm.Cf s.data.jobs a))∧Ext Nothing w w':=by
 obtain ⟨y0,y1,y2,y3,y4,y5,y6,⟨y7,y8⟩,y9,y10⟩:=a
 have hxW:Ext Nothing w (w.alloc (.cells #[.int .i64 y0,.int .i64 y1,.int .i64 y2,.int .i64 y3,.int .i64 y4,.int .i64 y5,.int .i64 y6,.int .i64 y7,.int .i64 y8,.bool y9,.int .i64 y10] 55)):=Ext.Ay
 have hC:Blk (w.alloc (.cells #[.int .i64 y0,.int .i64 y1,.int .i64 y2,.int .i64 y3,.int .i64 y4,.int .i64 y5,.int .i64 y6,.int .i64 y7,.int .i64 y8,.bool y9,.int .i64 y10] 55)) w.heap.size 55 #[.int .i64 y0,.int .i64 y1,.int .i64 y2,.int .i64 y3,.int .i64 y4,.int .i64 y5,.int .i64 y6,.int .i64 y7,.int .i64 y8,.bool y9,.int .i64 y10]:=Blk.new _ _ _
 have hMW:=hM.e0 hxW
 have hjl:=Lib.hid hM.own.jl
 have hnJ:s.nJ≤67108864:=by have:=hM.own.jl;omega
 cases e1:decide (3≤y10) with
 | false =>
  have H:=Lib.hid (show (!Fsm.Cf s.data.jobs ⟨y0,y1,y2,y3,y4,y5,y6,⟨y7,y8⟩,y9,y10⟩)=false by unfold Fsm.Cf;(try simp only []);rw [show Bv ⟨y0,y1,y2,y3,y4,y5,y6,⟨y7,y8⟩,y9,y10⟩=false from e1];rfl)
  have E1:=Lib.hid e1
  go_enter Tryz.func109,Tryz.ntmps109
  go_upto_region 1 with (first|go_skip|go_guarded)
  generalize w.heap.size=C at hC ⊢
  generalize (w.alloc (.cells #[.int .i64 y0,.int .i64 y1,.int .i64 y2,.int .i64 y3,.int .i64 y4,.int .i64 y5,.int .i64 y6,.int .i64 y7,.int .i64 y8,.bool y9,.int .i64 y10] 55))=W at hxW hC hMW ⊢
  go_wp2_with (first|go_skip|go_guarded|((with_reducible refine isW ?_);refine Ae rfl 55 _ rfl Ba C rfl #[.int .i64 y0,.int .i64 y1,.int .i64 y2,.int .i64 y3,.int .i64 y4,.int .i64 y5,.int .i64 y6,.int .i64 y7,.int .i64 y8,.bool y9,.int .i64 y10] hC rfl ?_)|(go_at_call 74;(with_reducible refine (Bt #[.int .i64 y0,.int .i64 y1,.int .i64 y2,.int .i64 y3,.int .i64 y4,.int .i64 y5,.int .i64 y6,.int .i64 y7,.int .i64 y8,.bool y9,.int .i64 y10] y10 W rfl rfl).mono ?_);rintro e w1 ⟨rfl,hx1⟩;(rw [E1.out])))
  go_ret
  exact ⟨by rw [H.out];rfl,hxW.tr hx1⟩
 | true =>
  have E1:=Lib.hid e1
  rcases AV (fun x:JobV=>x.1.id == y1) s.jobs with ⟨hi,hf,_⟩|⟨i,x,hi,hxi,hp,hf,_⟩
  ·have HJ:=Lib.hid (show s.data.jobs.find? (fun j=>j.id == y1)=none from Ct hf)
   have HI:=Lib.hid hi
   clear hi hf
   go_enter Tryz.func109,Tryz.ntmps109
   go_upto_region 1 with (first|go_skip|go_guarded)
   generalize w.heap.size=C at hC ⊢
   generalize (w.alloc (.cells #[.int .i64 y0,.int .i64 y1,.int .i64 y2,.int .i64 y3,.int .i64 y4,.int .i64 y5,.int .i64 y6,.int .i64 y7,.int .i64 y8,.bool y9,.int .i64 y10] 55))=W at hxW hC hMW ⊢
   go_upto_region 3 with (first|go_skip|go_guarded|((with_reducible refine isW ?_);refine Ae rfl 55 _ rfl Ba C rfl #[.int .i64 y0,.int .i64 y1,.int .i64 y2,.int .i64 y3,.int .i64 y4,.int .i64 y5,.int .i64 y6,.int .i64 y7,.int .i64 y8,.bool y9,.int .i64 y10] hC rfl ?_)|(go_at_call 74;(with_reducible refine (Bt #[.int .i64 y0,.int .i64 y1,.int .i64 y2,.int .i64 y3,.int .i64 y4,.int .i64 y5,.int .i64 y6,.int .i64 y7,.int .i64 y8,.bool y9,.int .i64 y10] y10 W rfl rfl).mono ?_);rintro e w1 ⟨rfl,hx1⟩;(rw [E1.out])))
   have hM1:=hMW.e0 hx1
   have hC1:=hC.e0 hx1
   have hsl:=hM1.own.slJ
   have ck:w1.cell? ⟨C,1,none⟩=some (.int .i64 y1):=hC1.cell 1
   have hd:Ext Nothing w1 w1.drew:=(Ext.refl _ _).drew
   refine zS (S:=fun W'=>Ext Nothing w1 W') (by kernel_rfl) ?_
   generalize w1.drew=Wd at hd ⊢
   refine zV 0 (.pointer (some ⟨b,0,none⟩)) rfl (by kernel_rfl) hd (fun _ _ _ h=>h) (fun W' hS'=>by go_simp) ?_
   refine zV 1 (.pointer (some ⟨b,0,none⟩)) rfl (by kernel_rfl) hd (fun _ _ _ h=>h) (fun W' hS'=>by go_simp) ?_
   refine zV 2 (.pointer (some ⟨b,0,none⟩)) rfl (by kernel_rfl) hd (fun _ _ _ h=>h) (fun W' hS'=>by go_simp) ?_
   refine zV 3 (.agg s.arr) rfl (by kernel_rfl) hd (fun _ _ _ h=>h) (fun W' hS'=>by exact run_load_struct (sz:=9) (b:=b) (off:=0) rfl Aj (by go_simp) (fun j u hu=>hS'.c0 (hM1.at j u hu)) rfl) ?_
   refine zV 4 (.pointer (some ⟨C,1,none⟩)) rfl (by kernel_rfl) hd (fun _ _ _ h=>h) (fun W' hS'=>by go_simp) ?_
   refine zV 5 (.int .i64 y1) rfl (by kernel_rfl) hd (fun _ _ _ h=>h) (fun W' hS'=>by have q:=hS'.c0 ck;go_simp) ?_
   (try simp only [Act.put,zA,zB,zC,zD,zE,zF])
   refine zO 6 (by kernel_rfl) ?_
   refine Ai (f:=61) (args:=#[.agg s.arr,.int .i64 y1]) rfl (by rfl) (by go_simp) ((Bu s.AJ s.nJ s.cJ s.jobs y1 Wd (hsl.Al hd) hnJ _ _ _ _ _ _ _ _ _ rfl).mono ?_)
   rintro e w2 ⟨rfl,hx1⟩
   (rw [HI.out])
   have hxc:=hd.tr hx1
   refine ⟨_,rfl,hxc,?_⟩
   (try simp only [Act.put,zA,zB,zC,zD,zE,zF])
   refine zV 7 (.int .i64 (-1)) rfl (by kernel_rfl) hxc (fun _ _ _ h=>h) (fun W' hS'=>by go_simp) ?_
   (try simp only [Act.put,zA,zB,zC,zD,zE,zF])
   refine wpAnyH_done (by kernel_rfl) ?_ _
   (try simp only [Act.put,zA,zB,zC,zD,zE,zF])
   clear hd hx1
   have hx2:=(hxW.tr hx1).tr hxc
   have hC2:=hC1.e0 hxc
   have f10:w2.cell? ⟨C,10,none⟩=some (.int .i64 y10):=hC2.cell 10
   have f2:w2.cell? ⟨C,2,none⟩=some (.int .i64 y2):=hC2.cell 2
   cases e2:(y10 != 3) with
   | true =>
    have H:=Lib.hid (show (!Fsm.Cf s.data.jobs ⟨y0,y1,y2,y3,y4,y5,y6,⟨y7,y8⟩,y9,y10⟩)=true by unfold Fsm.Cf;(try simp only []);rw [HJ.out,show Bv ⟨y0,y1,y2,y3,y4,y5,y6,⟨y7,y8⟩,y9,y10⟩=true from E1.out];(try simp only []);cases (y10 == 3) <;> rfl)
    go_upto_region 4 with (first|go_skip|go_guarded)
    go_quiet (fail)
    have hdq:=(Ext.refl Nothing w2).drewN nq
    generalize w2.drewN nq=w3 at hdq ⊢
    go_wp2
    go_ret
    exact ⟨by rw [H.out];rfl,hx2.tr hdq⟩
   | false =>
    have H:=Lib.hid (show (!Fsm.Cf s.data.jobs ⟨y0,y1,y2,y3,y4,y5,y6,⟨y7,y8⟩,y9,y10⟩)=true by unfold Fsm.Cf;(try simp only []);rw [HJ.out,show Bv ⟨y0,y1,y2,y3,y4,y5,y6,⟨y7,y8⟩,y9,y10⟩=true from E1.out];(try simp only []);cases (y10 == 3) <;> rfl)
    go_upto_region 4 with (first|go_skip|go_guarded)
    go_quiet (fail)
    have hdq:=(Ext.refl Nothing w2).drewN nq
    generalize w2.drewN nq=w3 at hdq ⊢
    go_wp2
    go_ret
    exact ⟨by rw [H.out];rfl,hx2.tr hdq⟩
  have HJ0:s.data.jobs.find? (fun j=>j.id == y1)=some x.1:=Cs hf
  obtain ⟨hi1,hi2⟩:=List.getElem?_eq_some_iff.1 hxi
  obtain ⟨_,g,off,hAe,hce⟩:=hM.own.slJ.get (Ext.refl Nothing w) (k:=i) (by have:=hjl.out;omega)
  rw [hi2] at hce
  have hk0:(0:Int)≤(i:Int):=by omega
  have hk1:(i:Int) < s.nJ:=by have:=hjl.out;omega
  have hnd:decide ((i:Int) < 0)=false:=by simp
  obtain ⟨⟨x0,x1,x2,x3,xg,x5,x6⟩,xv⟩:=x
  have HJ:=Lib.hid HJ0
  have HI:=Lib.hid hi
  have HA:=Lib.hid hAe
  have j1w:w.cell? ⟨g,off+i*7+1,none⟩=some (.int .i64 x1):=hce 1 _ rfl
  have j5w:w.cell? ⟨g,off+i*7+5,none⟩=some (.int .i64 x5):=hce 5 _ rfl
  clear hi hf hi2 hAe hxi hp hce HJ0
  go_enter Tryz.func109,Tryz.ntmps109
  go_upto_region 1 with (first|go_skip|go_guarded)
  generalize w.heap.size=C at hC ⊢
  generalize (w.alloc (.cells #[.int .i64 y0,.int .i64 y1,.int .i64 y2,.int .i64 y3,.int .i64 y4,.int .i64 y5,.int .i64 y6,.int .i64 y7,.int .i64 y8,.bool y9,.int .i64 y10] 55))=W at hxW hC hMW ⊢
  go_upto_region 3 with (first|go_skip|go_guarded|((with_reducible refine isW ?_);refine Ae rfl 55 _ rfl Ba C rfl #[.int .i64 y0,.int .i64 y1,.int .i64 y2,.int .i64 y3,.int .i64 y4,.int .i64 y5,.int .i64 y6,.int .i64 y7,.int .i64 y8,.bool y9,.int .i64 y10] hC rfl ?_)|(go_at_call 74;(with_reducible refine (Bt #[.int .i64 y0,.int .i64 y1,.int .i64 y2,.int .i64 y3,.int .i64 y4,.int .i64 y5,.int .i64 y6,.int .i64 y7,.int .i64 y8,.bool y9,.int .i64 y10] y10 W rfl rfl).mono ?_);rintro e w1 ⟨rfl,hx1⟩;(rw [E1.out])))
  have hM1:=hMW.e0 hx1
  have hC1:=hC.e0 hx1
  have hsl:=hM1.own.slJ
  have ck:w1.cell? ⟨C,1,none⟩=some (.int .i64 y1):=hC1.cell 1
  have hd:Ext Nothing w1 w1.drew:=(Ext.refl _ _).drew
  refine zS (S:=fun W'=>Ext Nothing w1 W') (by kernel_rfl) ?_
  generalize w1.drew=Wd at hd ⊢
  refine zV 0 (.pointer (some ⟨b,0,none⟩)) rfl (by kernel_rfl) hd (fun _ _ _ h=>h) (fun W' hS'=>by go_simp) ?_
  refine zV 1 (.pointer (some ⟨b,0,none⟩)) rfl (by kernel_rfl) hd (fun _ _ _ h=>h) (fun W' hS'=>by go_simp) ?_
  refine zV 2 (.pointer (some ⟨b,0,none⟩)) rfl (by kernel_rfl) hd (fun _ _ _ h=>h) (fun W' hS'=>by go_simp) ?_
  refine zV 3 (.agg s.arr) rfl (by kernel_rfl) hd (fun _ _ _ h=>h) (fun W' hS'=>by exact run_load_struct (sz:=9) (b:=b) (off:=0) rfl Aj (by go_simp) (fun j u hu=>hS'.c0 (hM1.at j u hu)) rfl) ?_
  refine zV 4 (.pointer (some ⟨C,1,none⟩)) rfl (by kernel_rfl) hd (fun _ _ _ h=>h) (fun W' hS'=>by go_simp) ?_
  refine zV 5 (.int .i64 y1) rfl (by kernel_rfl) hd (fun _ _ _ h=>h) (fun W' hS'=>by have q:=hS'.c0 ck;go_simp) ?_
  (try simp only [Act.put,zA,zB,zC,zD,zE,zF])
  refine zO 6 (by kernel_rfl) ?_
  refine Ai (f:=61) (args:=#[.agg s.arr,.int .i64 y1]) rfl (by rfl) (by go_simp) ((Bu s.AJ s.nJ s.cJ s.jobs y1 Wd (hsl.Al hd) hnJ _ _ _ _ _ _ _ _ _ rfl).mono ?_)
  rintro e w2 ⟨rfl,hx1⟩
  (rw [HI.out])
  have hxc:=hd.tr hx1
  refine ⟨_,rfl,hxc,?_⟩
  (try simp only [Act.put,zA,zB,zC,zD,zE,zF])
  refine zV 7 (.int .i64 (i:Int)) rfl (by kernel_rfl) hxc (fun _ _ _ h=>h) (fun W' hS'=>by go_simp) ?_
  (try simp only [Act.put,zA,zB,zC,zD,zE,zF])
  refine wpAnyH_done (by kernel_rfl) ?_ _
  (try simp only [Act.put,zA,zB,zC,zD,zE,zF])
  clear hd hx1
  have hx2:=(hxW.tr hx1).tr hxc
  have hC2:=hC1.e0 hxc
  have f10:w2.cell? ⟨C,10,none⟩=some (.int .i64 y10):=hC2.cell 10
  have f2:w2.cell? ⟨C,2,none⟩=some (.int .i64 y2):=hC2.cell 2
  have j1:=hx2.c0 j1w
  have j5:=hx2.c0 j5w
  have m2:w2.cell? ⟨b,2,none⟩=some (.slice (some ⟨g,off,none⟩) s.nJ s.cJ):=by rw [← HA.out];exact (hM1.e0 hxc).blk.cell 2
  cases e2:(y10 != 3) with
  | true =>
   have H:=Lib.hid (show (!Fsm.Cf s.data.jobs ⟨y0,y1,y2,y3,y4,y5,y6,⟨y7,y8⟩,y9,y10⟩)=true by unfold Fsm.Cf;(try simp only []);rw [HJ.out,show Bv ⟨y0,y1,y2,y3,y4,y5,y6,⟨y7,y8⟩,y9,y10⟩=true from E1.out];(try simp only []);rw [show (y10 == 3)=false from by simpa using e2];rfl)
   go_upto_region 4 with (first|go_skip|go_guarded)
   go_quiet (fail)
   have hdq:=(Ext.refl Nothing w2).drewN nq
   generalize w2.drewN nq=w3 at hdq ⊢
   go_wp2
   go_ret
   exact ⟨by rw [H.out];rfl,hx2.tr hdq⟩
  | false =>
   have hy3:(y10 == 3)=true:=by simpa using e2
   cases e3:(x1 != 2) with
   | true =>
    have H:=Lib.hid (show (!Fsm.Cf s.data.jobs ⟨y0,y1,y2,y3,y4,y5,y6,⟨y7,y8⟩,y9,y10⟩)=true by unfold Fsm.Cf;(try simp only []);rw [HJ.out,show Bv ⟨y0,y1,y2,y3,y4,y5,y6,⟨y7,y8⟩,y9,y10⟩=true from E1.out];(try simp only []);rw [hy3,show (x1 == 2)=false from by simpa using e3];rfl)
    go_upto_region 4 with (first|go_skip|go_guarded)
    go_quiet (fail)
    have hdq:=(Ext.refl Nothing w2).drewN nq
    generalize w2.drewN nq=w3 at hdq ⊢
    go_wp2
    go_ret
    exact ⟨by rw [H.out];rfl,hx2.tr hdq⟩
   | false =>
    have H:=Lib.hid (show (!Fsm.Cf s.data.jobs ⟨y0,y1,y2,y3,y4,y5,y6,⟨y7,y8⟩,y9,y10⟩)=(x5 != y2) by unfold Fsm.Cf;(try simp only []);rw [HJ.out,show Bv ⟨y0,y1,y2,y3,y4,y5,y6,⟨y7,y8⟩,y9,y10⟩=true from E1.out];(try simp only []);rw [hy3,show (x1 == 2)=true from by simpa using e3];simp [bne])
    go_upto_region 4 with (first|go_skip|go_guarded)
    go_quiet (fail)
    have hdq:=(Ext.refl Nothing w2).drewN nq
    generalize w2.drewN nq=w3 at hdq ⊢
    go_wp2
    go_ret
    exact ⟨by rw [H.out];rfl,hx2.tr hdq⟩
end
section
open Go.RowKit
set_option maxRecDepth 20000 in
set_option maxHeartbeats 4000000 in
theorem Oz (x:SeenV) (bx:Nat) (c:Bl) (w:World) (hb:Blk w bx 51 c.arr) :
  Calls Tryz.prog 35 #[.agg #[.int .i64 x.1.client,.int .i64 x.1.req,.int .i64 x.1.answer.code,.int .i64 x.1.answer.value,x.2],.pointer (some ⟨bx,0,none⟩)] w fun e w'=>e=.returned (.bool (x.1.client == c.client))∧Ext Nothing w w':=by
 have hx0:Ext Nothing w (w.alloc (.cells #[.int .i64 x.1.client,.int .i64 x.1.req,.int .i64 x.1.answer.code,.int .i64 x.1.answer.value,x.2] 89)):=(Ext.refl _ _).alloc _
 have q0:w.cell? ⟨bx,1,none⟩=some (.int .i64 c.client):=hb.cell 1
 have q1:(w.alloc (.cells #[.int .i64 x.1.client,.int .i64 x.1.req,.int .i64 x.1.answer.code,.int .i64 x.1.answer.value,x.2] 89)).cell? ⟨bx,1,none⟩=some (.int .i64 c.client):=hx0.c0 q0
 clear hb q0
 go_enter Tryz.func35,Tryz.ntmps35
 go_wp2
 go_ret
 exact ⟨rfl,hx0⟩
set_option maxRecDepth 20000 in
set_option maxHeartbeats 4000000 in
theorem PV (A:Option Addr) (n cap:Nat) (l:List SeenV) (bx:Nat) (c:Bl) (w:World) (hl:Sl w 5 A n (l.map SeenV.cells)) (hb:Blk w bx 51 c.arr) (hn:n≤67108864) :
  Calls Tryz.prog 34 #[.slice A n cap,.func (.func 35) #[] #[.pointer (some ⟨bx,0,none⟩)]] w fun e w'=>e=.returned (.int .i64 (CO (fun x:SeenV=>x.1.client == c.client) l))∧Ext Nothing w w':=by
 have hlen:=Lib.hid hl.len
 go_enter Tryz.func34,Tryz.ntmps34
 go_wp2
 go_loopw [8] (fun i wr=>∃ k:Nat,k≤n∧i=.int .i64 k∧(∀ i' < k,∀ y,l[i']? = some y→(fun x:SeenV=>x.1.client == c.client) y=false)∧Ext Nothing w wr) (fun i _=>n - (intOf i).toNat)
 case atStart=>exact ⟨0,Nat.zero_le _,rfl,fun j hj=>absurd hj (by omega),Ext.refl _ _⟩
 case round =>
  obtain ⟨k,hk,rfl,hno,hx⟩:=hrel
  by_cases hlt:k < n
  ·obtain ⟨hjn,a,off,hAe,hce⟩:=hl.get hx hlt
   have hy:l[k]? = some l[k]:=List.getElem?_eq_getElem hjn
   have hce:∀ j u,(SeenV.cells l[k])[j]? = some u→wr.cell? ⟨a,off+k*5+j,none⟩=some u:=hce
   generalize l[k]=x at hce hy
   have hce:∀ j u,(#[.int .i64 x.1.client,.int .i64 x.1.req,.int .i64 x.1.answer.code,.int .i64 x.1.answer.value,x.2]:Array Value).toList[j]? = some u→wr.cell? ⟨a,off+k*5+j,none⟩=some u:=hce
   have HA:=Lib.hid (show A=some ⟨a,off,none⟩ from hAe)
   have hk0:(0:Int)≤(k:Int):=by omega
   have hk1:(k:Int) < n:=by omega
   rw [show A=some ⟨a,off,none⟩ from hAe]
   have HT:=Lib.hid hlt
   clear hAe hlt
   cases hp:(fun x:SeenV=>x.1.client == c.client) x with
   | true =>
    have hr:=Lib.hid (Dz (p:=(fun x:SeenV=>x.1.client == c.client)) hno hy hp)
    have hp':=Lib.hid (show (x.1.client == c.client)=true from hp)
    clear hno hy hp
    go_wp2_with (first|go_skip|go_guarded|((with_reducible refine isW ?_);refine Ad rfl 89 _ rfl Df a (off+k*5) rfl #[.int .i64 x.1.client,.int .i64 x.1.req,.int .i64 x.1.answer.code,.int .i64 x.1.answer.value,x.2] hce rfl ?_)|(go_at_call 35;(with_reducible refine (Oz x bx c wr (hb.e0 hx)).mono ?_);rintro e w' ⟨rfl,hx1⟩;(rw [hp'.out])))
    go_ret
    exact ⟨by rw [hr.out];rfl,hx.tr hx1⟩
   | false =>
    have HN:=Lib.hid (show ∀ i' < k+1,∀ y,l[i']? = some y→(fun x:SeenV=>x.1.client == c.client) y=false from fun i hi y hy'=>by
     by_cases h:i=k
     ·subst h;rw [hy] at hy';cases hy';exact hp
     exact hno i (by omega) y hy')
    have hp':=Lib.hid (show (x.1.client == c.client)=false from hp)
    clear hno hy hp
    go_wp2_with (first|go_skip|go_guarded|((with_reducible refine isW ?_);refine Ad rfl 89 _ rfl Df a (off+k*5) rfl #[.int .i64 x.1.client,.int .i64 x.1.req,.int .i64 x.1.answer.code,.int .i64 x.1.answer.value,x.2] hce rfl ?_)|(go_at_call 35;(with_reducible refine (Oz x bx c wr (hb.e0 hx)).mono ?_);rintro e w' ⟨rfl,hx1⟩;(rw [hp'.out])))
    go_roundw
    case rel=>(try rw [← HA.out]);exact ⟨k+1,HT.out,by go_num,HN.out,hx.tr hx1⟩
    case measure=>have:=HT.out;simp [intOf];omega
  have hr:=Lib.hid (CZ (p:=(fun x:SeenV=>x.1.client == c.client)) (l:=l) (fun i hi y hy=>hno i (by have:=hlen.out;omega) y hy))
  have hnl:¬ ((k:Int) < n):=by omega
  clear hno
  go_wp2
  go_ret
  exact ⟨by rw [hr.out];rfl,hx⟩
end
section
open Go.RowKit
structure QC (base b:Nat) (s:Aa) (cm:Bool) (code value:Int) (RA:Option Addr) (rn rc:Nat) (w:World) (e:Ending) (w' : World):Prop where
 out:∃ s',e=.returned (.tuple #[.agg s'.arr,.agg #[.int .i64 code,.int .i64 value,.slice RA rn rc]])∧Az base w' b s' cm∧s'.data=(if cm then Fsm.came s.data else s.data)∧Step w w' b s s'∧Ext (fun q=>(Value.slice s.AE s.nE s.cE).ownBlock=some q) w w'
set_option maxRecDepth 20000 in
set_option maxHeartbeats 8000000 in
theorem Q8 (base b:Nat) (s:Aa) (cm:Bool) (code value:Int) (RA:Option Addr) (rn rc:Nat) (w:World) (hM:Az base w b s cm) (hE:s.evals.length≤33554432) (hw:Fsm.Wf s.data) :
  Calls Tryz.prog 32 #[.pointer (some ⟨b,0,none⟩),.agg #[.int .i64 code,.int .i64 value,.slice RA rn rc]] w fun e w'=>QC base b s cm code value RA rn rc w e w':=by
 have hxW:Ext Nothing w (((w.alloc (.cells #[.int .i64 code,.int .i64 value,.slice RA rn rc] 34)).alloc (.cells #[.int .i64 0,.int .i64 0,.slice none 0 0,.slice none 0 0,.slice none 0 0,.slice none 0 0,.slice none 0 0,.slice none 0 0,.slice none 0 0] 30)).alloc (.cells #[.int .i64 0,.int .i64 0,.slice none 0 0] 34)):=Ext.Ay
 have hCW:Blk (((w.alloc (.cells #[.int .i64 code,.int .i64 value,.slice RA rn rc] 34)).alloc (.cells #[.int .i64 0,.int .i64 0,.slice none 0 0,.slice none 0 0,.slice none 0 0,.slice none 0 0,.slice none 0 0,.slice none 0 0,.slice none 0 0] 30)).alloc (.cells #[.int .i64 0,.int .i64 0,.slice none 0 0] 34)) w.heap.size 34 #[.int .i64 code,.int .i64 value,.slice RA rn rc]:=(Blk.new w _ _).e0 Ext.Ay
 have hPW:Blk (((w.alloc (.cells #[.int .i64 code,.int .i64 value,.slice RA rn rc] 34)).alloc (.cells #[.int .i64 0,.int .i64 0,.slice none 0 0,.slice none 0 0,.slice none 0 0,.slice none 0 0,.slice none 0 0,.slice none 0 0,.slice none 0 0] 30)).alloc (.cells #[.int .i64 0,.int .i64 0,.slice none 0 0] 34)) (w.heap.size+1) 30 #[.int .i64 0,.int .i64 0,.slice none 0 0,.slice none 0 0,.slice none 0 0,.slice none 0 0,.slice none 0 0,.slice none 0 0,.slice none 0 0]:=(Blk.new' (w.alloc (.cells #[.int .i64 code,.int .i64 value,.slice RA rn rc] 34)) _ _ (by simp)).e0 Ext.Ay
 have hQW:Blk (((w.alloc (.cells #[.int .i64 code,.int .i64 value,.slice RA rn rc] 34)).alloc (.cells #[.int .i64 0,.int .i64 0,.slice none 0 0,.slice none 0 0,.slice none 0 0,.slice none 0 0,.slice none 0 0,.slice none 0 0,.slice none 0 0] 30)).alloc (.cells #[.int .i64 0,.int .i64 0,.slice none 0 0] 34)) (w.heap.size+1+1) 34 #[.int .i64 0,.int .i64 0,.slice none 0 0]:=Blk.new' _ _ _ (by simp)
 have hMW:=hM.e0 hxW
 have hbw:=hM.blk.lt
 go_enter Tryz.func32,Tryz.ntmps32
 go_upto_region 1 with (first|go_skip|go_guarded)
 generalize hC:w.heap.size=C at hCW hPW hQW hbw ⊢
 have HC:=Lib.hid (show w.heap.size=C∧b < C from ⟨hC,hbw⟩)
 clear hC hbw
 generalize (((w.alloc (.cells #[.int .i64 code,.int .i64 value,.slice RA rn rc] 34)).alloc (.cells #[.int .i64 0,.int .i64 0,.slice none 0 0,.slice none 0 0,.slice none 0 0,.slice none 0 0,.slice none 0 0,.slice none 0 0,.slice none 0 0] 30)).alloc (.cells #[.int .i64 0,.int .i64 0,.slice none 0 0] 34))=W at hxW hCW hPW hQW hMW ⊢
 cases cm with
 | false =>
  have m10:W.cell? ⟨b,10,none⟩=some (.bool false):=hMW.blk.cell 10
  go_upto_region 8 with (first|go_skip|go_guarded)
  have hbl:=hMW.blk.lt
  have hbP:¬ (b=C+1):=fun e=>by have:=HC.out;omega
  have hbQ:¬ (b=C+1+1):=fun e=>by have:=HC.out;omega
  have hd:Ext Nothing W W.drew:=(Ext.refl _ _).drew
  refine zS (S:=fun W'=>Ext (fun q=>q=C+1 ∨ q=C+1+1) W W') (by kernel_rfl) ?_
  have hS:=hd.any (S:=fun q=>q=C+1 ∨ q=C+1+1)
  generalize W.drew=Wd at hd hS ⊢
  refine zV 0 (.pointer (some ⟨b,0,none⟩)) rfl (by kernel_rfl) hS (fun _ _ _ h=>h) (fun W' hS'=>by go_simp) ?_
  refine zV 1 (.pointer (some ⟨b,0,none⟩)) rfl (by kernel_rfl) hS (fun _ _ _ h=>h) (fun W' hS'=>by go_simp) ?_
  refine zV 2 (.pointer (some ⟨b,0,none⟩)) rfl (by kernel_rfl) hS (fun _ _ _ h=>h) (fun W' hS'=>by go_simp) ?_
  refine zV 3 (.agg s.arr) rfl (by kernel_rfl) hS (fun _ _ _ h=>h) (fun W' hS'=>by exact run_load_struct (sz:=9) (b:=b) (off:=0) rfl Aj (by go_simp) (fun j u hu=>hS'.cell (hMW.at j u hu) (fun e=>e.elim hbP hbQ)) rfl) ?_
  refine zV 4 (.agg #[.int .i64 code,.int .i64 value,.slice RA rn rc]) rfl (by kernel_rfl) hS (fun _ _ _ h=>h) (fun W' hS'=>by exact AB rfl STResult (by go_simp) (hCW.ext hS' (fun e=>by omega)) rfl) ?_
  (try simp only [Act.put,zA,zB,zC,zD,zE,zF])
  refine zO 5 (by kernel_rfl) ?_
  refine Bq (p:=C+1) (cs:=s.arr) rfl (by rfl) rfl (by go_simp) (by go_simp) (hPW.e0 hd) rfl Aj rfl rfl (fun w2 hP2 hx2=>?_)
  have hd2:=hS.trans hx2 (fun q hq e=>.inl e)
  refine ⟨hd2,?_⟩
  (try simp only [Act.put,zA,zB,zC,zD,zE,zF])
  refine zO 6 (by kernel_rfl) ?_
  refine Bq (p:=C+1+1) (cs:=#[.int .i64 code,.int .i64 value,.slice RA rn rc]) rfl (by rfl) rfl (by go_simp) (by go_simp) ((hQW.e0 hd).ext hx2 (fun e=>absurd (show C+1+1=C+1 from e) (by omega))) rfl STResult rfl rfl (fun w3 hQ3 hx3'=>?_)
  have hx3:=hd2.trans hx3' (fun q hq e=>.inr e)
  have hP3:=hP2.ext hx3' (fun e=>absurd (show C+1=C+1+1 from e) (by omega))
  refine ⟨hx3,wpAnyH_done (by kernel_rfl) ?_ _⟩
  (try simp only [Act.put,zA,zB,zC,zD,zE,zF])
  go_wp2
  have hM3:Az base w3 b s false:=(hMW.keep hx3 (fun e=>e.elim hbP hbQ) (fun q e=>by rcases e with rfl|rfl;exact ⟨_,_,hPW,by decide⟩;exact ⟨_,_,hQW,by decide⟩))
  exact bodyPost_ret (BO rfl Aj STResult rfl rfl hP3 rfl hQ3 rfl) rfl ⟨⟨s,rfl,hM3,rfl,(Step.of0 hxW).fresh hx3 (fun q e=>by have:=HC.out;omega),hxW.any.trans hx3 (fun q hq e=>by have h9:q < w.heap.size:=hq;have h8:q=C+1 ∨ q=C+1+1:=e;have:=HC.out;omega)⟩⟩
 | true =>
  have m10:W.cell? ⟨b,10,none⟩=some (.bool true):=hMW.blk.cell 10
  have m6:W.cell? ⟨b,6,none⟩=some (.slice s.AE s.nE s.cE):=hMW.blk.cell 6
  have hel:=Lib.hid hM.own.el
  have hnE:s.nE≤67108864:=by have:=hM.own.el;omega
  go_wp2
  clear m6 m10
  have hnC:¬ MW s b C:=hMW.Cn hCW (by decide)
  have hnP:¬ MW s b (C+1):=hMW.Cn hPW (by decide)
  have hnQ:¬ MW s b (C+1+1):=hMW.Cn hQW (by decide)
  go_loopw [17] (fun i wr=>∃ t:Nat,t≤s.nE∧i=.int .i64 t∧Az base wr b ({ s with evals:=Fsm.upto (Fsm.Br s.index) t s.evals }:Aa) true∧Step W wr b s ({ s with evals:=Fsm.upto (Fsm.Br s.index) t s.evals }:Aa)∧Ext (fun q=>(Value.slice s.AE s.nE s.cE).ownBlock=some q) W wr) (fun i _=>s.nE - (intOf i).toNat)
  case atStart=>exact ⟨0,Nat.zero_le _,rfl,by rw [Fsm.JZ];exact hMW,by rw [Fsm.JZ];exact Step.refl _ _ _,Ext.refl _ _⟩
  case round =>
   obtain ⟨t,ht,rfl,hMr,hx,hxe⟩:=hrel
   by_cases hlt:t < s.nE
   ·have htl:t < s.evals.length:=by have:=hel.out;omega
    have hget:=Fsm.KC (Fsm.Br s.index) htl
    have hnx:=Fsm.JW (Fsm.Br s.index) htl
    have hid:=fun e=>Fsm.P7 (f:=Fsm.Br s.index) htl e
    have hes:=hw.es _ (show s.evals[t]∈s.evals from List.getElem_mem htl)
    generalize s.evals[t]=y at hget hnx hid hes
    obtain ⟨y0,y1,y2,y3⟩:=y
    obtain ⟨g,cur,hAe,hob,hgb,_,hce,_⟩:=hMr.own.Ju (x:=⟨y0,y1,y2,y3⟩) hget
    change s.AE=_ at hAe
    have m6:wr.cell? ⟨b,6,none⟩=some (.slice (some ⟨g,0,none⟩) s.nE s.cE):=by rw [← hAe];exact hMr.blk.cell 6
    have k2:wr.cell? ⟨g,t*4+2,none⟩=some (.int .i64 y2):=hce 2 _ rfl
    have hk0:(0:Int)≤(t:Int):=by omega
    have hk1:(t:Int) < s.nE:=by omega
    have HT:=Lib.hid hlt
    have HA:=Lib.hid hAe
    have HN:=Lib.hid hnx
    have HI:=Lib.hid hid
    have HG:=Lib.hid hget
    clear hAe hnx hid hget hlt hce
    cases e1:(y2 != 3) with
    | false =>
     have h3:y2=3:=by simpa using e1
     have HU:=Lib.hid (HI.out (OA (by rw [h3];rfl)))
     clear h3
     go_wp2_with (first|go_skip|go_guarded)
     go_roundw
     case rel=>exact ⟨t+1,HT.out,by go_num,by rw [HU.out];exact hMr,by rw [HU.out];exact hx,hxe⟩
     case measure=>have:=HT.out;simp [intOf];omega
    | true =>
     have h12:(y2 == 2 || y2 == 1)=true:=by have h9:y2 ≠ 3:=(by simpa using e1);have h8:y2=1 ∨ y2=2 ∨ y2=3:=hes;simp;omega
     have HU:=Lib.hid (HN.out.trans (congrArg (fun z=>(Fsm.upto (Fsm.Br s.index) t s.evals).set t z) (Mc h12)))
     clear h12
     go_upto_region 6 with (first|go_skip|go_guarded)
     have m9:wr.cell? ⟨b,9,none⟩=some (.int .i64 s.index):=hMr.blk.cell 9
     have hbg:¬ (b=g):=fun e=>Blk.ne hMr.blk hgb (by decide) e
     have hd:Ext Nothing wr wr.drew:=(Ext.refl _ _).drew
     refine zS (S:=fun W'=>Ext (fun q=>q=g) wr W') (by kernel_rfl) ?_
     have hS:=hd.any (S:=fun q=>q=g)
     generalize wr.drew=Wd at hd hS ⊢
     refine zV 0 (.pointer (some ⟨b,0,none⟩)) rfl (by kernel_rfl) hS (fun _ _ _ h=>h) (fun W' hS'=>by go_simp) ?_
     refine zV 1 (.pointer (some ⟨b,0,none⟩)) rfl (by kernel_rfl) hS (fun _ _ _ h=>h) (fun W' hS'=>by go_simp) ?_
     refine zV 2 (.pointer (some ⟨b,0,none⟩)) rfl (by kernel_rfl) hS (fun _ _ _ h=>h) (fun W' hS'=>by go_simp) ?_
     refine zV 3 (.pointer (some ⟨b,6,none⟩)) rfl (by kernel_rfl) hS (fun _ _ _ h=>h) (fun W' hS'=>by go_simp) ?_
     refine zV 4 (.slice (some ⟨g,0,none⟩) s.nE s.cE) rfl (by kernel_rfl) hS (fun _ _ _ h=>h) (fun W' hS'=>by have q:=hS'.cell m6 hbg;go_simp) ?_
     refine zV 5 (.int .i64 (t:Int)) rfl (by kernel_rfl) hS (fun _ _ _ h=>h) (fun W' hS'=>by go_simp) ?_
     refine zV 6 (.pointer (some ⟨b,0,none⟩)) rfl (by kernel_rfl) hS (fun _ _ _ h=>h) (fun W' hS'=>by go_simp) ?_
     refine zV 7 (.pointer (some ⟨b,0,none⟩)) rfl (by kernel_rfl) hS (fun _ _ _ h=>h) (fun W' hS'=>by go_simp) ?_
     refine zV 8 (.pointer (some ⟨b,0,none⟩)) rfl (by kernel_rfl) hS (fun _ _ _ h=>h) (fun W' hS'=>by go_simp) ?_
     refine zV 9 (.pointer (some ⟨b,6,none⟩)) rfl (by kernel_rfl) hS (fun _ _ _ h=>h) (fun W' hS'=>by go_simp) ?_
     refine zV 10 (.slice (some ⟨g,0,none⟩) s.nE s.cE) rfl (by kernel_rfl) hS (fun _ _ _ h=>h) (fun W' hS'=>by have q:=hS'.cell m6 hbg;go_simp) ?_
     refine zV 11 (.int .i64 (t:Int)) rfl (by kernel_rfl) hS (fun _ _ _ h=>h) (fun W' hS'=>by go_simp) ?_
     refine zV 12 (.pointer (some ⟨b,0,none⟩)) rfl (by kernel_rfl) hS (fun _ _ _ h=>h) (fun W' hS'=>by go_simp) ?_
     refine zV 13 (.pointer (some ⟨b,0,none⟩)) rfl (by kernel_rfl) hS (fun _ _ _ h=>h) (fun W' hS'=>by go_simp) ?_
     refine zV 14 (.pointer (some ⟨b,9,none⟩)) rfl (by kernel_rfl) hS (fun _ _ _ h=>h) (fun W' hS'=>by go_simp) ?_
     refine zV 15 (.int .i64 s.index) rfl (by kernel_rfl) hS (fun _ _ _ h=>h) (fun W' hS'=>by have q:=hS'.cell m9 hbg;go_simp) ?_
     refine zV 16 (.pointer (some ⟨g,t*4,none⟩)) rfl (by kernel_rfl) hS (fun _ _ _ h=>h) (fun W' hS'=>by go_simp) ?_
     refine zV 17 (.pointer (some ⟨g,t*4+2,none⟩)) rfl (by kernel_rfl) hS (fun _ _ _ h=>h) (fun W' hS'=>by go_simp) ?_
     (try simp only [Act.put,zA,zB,zC,zD,zE,zF])
     refine zO 18 (by kernel_rfl) ?_
     have hMd:=hMr.e0 hd
     obtain ⟨g1,cur1,hA1,hob1,hgb1,_,hce1,hput1⟩:=hMd.own.Ju (x:=⟨y0,y1,y2,y3⟩) HG.out
     have hgg:g=g1:=by have h7:s.AE=some ⟨g1,0,none⟩:=hA1;rw [HA.out] at h7;injection h7 with h7;injection h7
     subst hgg
     have q2:Wd.cell? ⟨g,t*4+2,none⟩=some (.int .i64 y2):=hce1 2 _ rfl
     have f2:Wd.frozen? ⟨g,t*4+2,none⟩=false:=hgb1.frozen _
     have hs1:Ext (fun q=>q=g) Wd (Wd.setCell ⟨g,t*4+2,none⟩ (.int .i64 1)):=Ext.set1 _ _ _ _
     have hO1:Aw base (Wd.setCell ⟨g,t*4+2,none⟩ (.int .i64 1)) ({ s with evals:=(Fsm.upto (Fsm.Br s.index) t s.evals).set t ⟨y0,y1,1,y3⟩ }:Aa):=hput1 2 (.int .i64 1) ⟨y0,y1,1,y3⟩ (by decide) rfl
     have hg1:({ s with evals:=(Fsm.upto (Fsm.Br s.index) t s.evals).set t ⟨y0,y1,1,y3⟩ }:Aa).evals[t]? = some ⟨y0,y1,1,y3⟩:=by show ((Fsm.upto (Fsm.Br s.index) t s.evals).set t _)[t]? = _;rw [List.getElem?_set];simp;exact (List.getElem?_eq_some_iff.1 HG.out).1
     obtain ⟨g2,cur2,hA2,_,hgb2,_,hce2,hput2⟩:=hO1.Ju hg1
     have hgg:g=g2:=by have h7:s.AE=some ⟨g2,0,none⟩:=hA2;rw [HA.out] at h7;injection h7 with h7;injection h7
     subst hgg
     refine AC (w':=(Wd.setCell ⟨g,t*4+2,none⟩ (.int .i64 1))) rfl (by rfl) (by go_simp) ⟨hS.trans hs1 (fun q hq e=>e),?_⟩
     (try simp only [Act.put,zA,zB,zC,zD,zE,zF])
     clear q2 f2
     refine zV 19 (.pointer (some ⟨g,t*4,none⟩)) rfl (by kernel_rfl) (hS.trans hs1 (fun q hq e=>e)) (fun _ _ _ h=>h) (fun W' hS'=>by go_simp) ?_
     refine zV 20 (.pointer (some ⟨g,t*4+3,none⟩)) rfl (by kernel_rfl) (hS.trans hs1 (fun q hq e=>e)) (fun _ _ _ h=>h) (fun W' hS'=>by go_simp) ?_
     (try simp only [Act.put,zA,zB,zC,zD,zE,zF])
     refine zO 21 (by kernel_rfl) ?_
     have q3:(Wd.setCell ⟨g,t*4+2,none⟩ (.int .i64 1)).cell? ⟨g,t*4+3,none⟩=some (.int .i64 y3):=hce2 3 _ rfl
     have f3:(Wd.setCell ⟨g,t*4+2,none⟩ (.int .i64 1)).frozen? ⟨g,t*4+3,none⟩=false:=hgb2.frozen _
     have hs2:Ext (fun q=>q=g) (Wd.setCell ⟨g,t*4+2,none⟩ (.int .i64 1)) ((Wd.setCell ⟨g,t*4+2,none⟩ (.int .i64 1)).setCell ⟨g,t*4+3,none⟩ (.int .i64 s.index)):=Ext.set1 _ _ _ _
     refine AC (w':=((Wd.setCell ⟨g,t*4+2,none⟩ (.int .i64 1)).setCell ⟨g,t*4+3,none⟩ (.int .i64 s.index))) rfl (by rfl) (by go_simp) ⟨(hS.trans hs1 (fun q hq e=>e)).trans hs2 (fun q hq e=>e),?_⟩
     (try simp only [Act.put,zA,zB,zC,zD,zE,zF])
     refine wpAnyH_done (by kernel_rfl) ?_ _
     (try simp only [Act.put,zA,zB,zC,zD,zE,zF])
     have hO2:Aw base ((Wd.setCell ⟨g,t*4+2,none⟩ (.int .i64 1)).setCell ⟨g,t*4+3,none⟩ (.int .i64 s.index)) ({ s with evals:=((Fsm.upto (Fsm.Br s.index) t s.evals).set t ⟨y0,y1,1,y3⟩).set t ⟨y0,y1,1,s.index⟩ }:Aa):=hput2 3 (.int .i64 s.index) ⟨y0,y1,1,s.index⟩ (by decide) rfl
     rw [List.set_set] at hO2
     have hs12:=hs1.tr hs2
     have hM2:Az base ((Wd.setCell ⟨g,t*4+2,none⟩ (.int .i64 1)).setCell ⟨g,t*4+3,none⟩ (.int .i64 s.index)) b ({ s with evals:=(Fsm.upto (Fsm.Br s.index) t s.evals).set t ⟨y0,y1,1,s.index⟩ }:Aa) true:=⟨hMd.blk.ext hs12 hbg,hO2,hMd.lo⟩
     have hst2:Step W ((Wd.setCell ⟨g,t*4+2,none⟩ (.int .i64 1)).setCell ⟨g,t*4+3,none⟩ (.int .i64 s.index)) b s ({ s with evals:=(Fsm.upto (Fsm.Br s.index) t s.evals).set t ⟨y0,y1,1,s.index⟩ }:Aa):=((hx.m0 hd).cell (s2:=({ s with evals:=(Fsm.upto (Fsm.Br s.index) t s.evals).set t ⟨y0,y1,1,y3⟩ }:Aa)) (MW.oE (s:=({ s with evals:=Fsm.upto (Fsm.Br s.index) t s.evals }:Aa)) hob1) (fun q hq=>hq) _).cell (s2:=({ s with evals:=(Fsm.upto (Fsm.Br s.index) t s.evals).set t ⟨y0,y1,1,s.index⟩ }:Aa)) (MW.oE (s:=({ s with evals:=(Fsm.upto (Fsm.Br s.index) t s.evals).set t ⟨y0,y1,1,y3⟩ }:Aa)) hob1) (fun q hq=>hq) _
     have hxe2:Ext (fun q=>(Value.slice s.AE s.nE s.cE).ownBlock=some q) W ((Wd.setCell ⟨g,t*4+2,none⟩ (.int .i64 1)).setCell ⟨g,t*4+3,none⟩ (.int .i64 s.index)):=(hxe.trans hd (fun _ _ e=>e.elim)).trans hs12 (fun q hq e=>by rw [show q=g from e];exact hob)
     generalize ((Wd.setCell ⟨g,t*4+2,none⟩ (.int .i64 1)).setCell ⟨g,t*4+3,none⟩ (.int .i64 s.index))=w5 at hM2 hst2 hxe2 ⊢
     clear q3 f3 hs1 hs2 hs12 hO1 hO2 hput1 hput2 hce1 hce2 hS m6 m9 k2
     go_wp2
     go_roundw
     case rel=>exact ⟨t+1,HT.out,by go_num,by rw [HU.out];exact hM2,by rw [HU.out];exact hst2,hxe2⟩
     case measure=>have:=HT.out;simp [intOf];omega
   have hnl2:¬ ((t:Int) < s.nE):=by omega
   have hxz:=(Step.of0 hxW (b:=b) (s:=s)).trans hx
   have hCr:=hCW.step hx hnC
   have hPr:=hPW.step hx hnP
   have hQr:=hQW.step hx hnQ
   have HS:=Lib.hid (show Fsm.upto (Fsm.Br s.index) t s.evals=s.evals.map (Fsm.Br s.index) from Fsm.Oo _ (by have:=hel.out;omega))
   rw [HS.out] at hMr hxz hx
   go_upto_region 8 with (first|go_skip|go_guarded)
   have hbl:=hMr.blk.lt
   have hbP:¬ (b=C+1):=fun e=>by have:=HC.out;omega
   have hbQ:¬ (b=C+1+1):=fun e=>by have:=HC.out;omega
   have hd:Ext Nothing wr wr.drew:=(Ext.refl _ _).drew
   refine zS (S:=fun W'=>Ext (fun q=>q=C+1 ∨ q=C+1+1) wr W') (by kernel_rfl) ?_
   have hS:=hd.any (S:=fun q=>q=C+1 ∨ q=C+1+1)
   generalize wr.drew=Wd at hd hS ⊢
   refine zV 0 (.pointer (some ⟨b,0,none⟩)) rfl (by kernel_rfl) hS (fun _ _ _ h=>h) (fun W' hS'=>by go_simp) ?_
   refine zV 1 (.pointer (some ⟨b,0,none⟩)) rfl (by kernel_rfl) hS (fun _ _ _ h=>h) (fun W' hS'=>by go_simp) ?_
   refine zV 2 (.pointer (some ⟨b,0,none⟩)) rfl (by kernel_rfl) hS (fun _ _ _ h=>h) (fun W' hS'=>by go_simp) ?_
   refine zV 3 (.agg ({ s with evals:=s.evals.map (Fsm.Br s.index) }:Aa).arr) rfl (by kernel_rfl) hS (fun _ _ _ h=>h) (fun W' hS'=>by exact run_load_struct (sz:=9) (b:=b) (off:=0) rfl Aj (by go_simp) (fun j u hu=>hS'.cell (hMr.at j u hu) (fun e=>e.elim hbP hbQ)) rfl) ?_
   refine zV 4 (.agg #[.int .i64 code,.int .i64 value,.slice RA rn rc]) rfl (by kernel_rfl) hS (fun _ _ _ h=>h) (fun W' hS'=>by exact AB rfl STResult (by go_simp) (hCr.ext hS' (fun e=>by omega)) rfl) ?_
   (try simp only [Act.put,zA,zB,zC,zD,zE,zF])
   refine zO 5 (by kernel_rfl) ?_
   refine Bq (p:=C+1) (cs:=({ s with evals:=s.evals.map (Fsm.Br s.index) }:Aa).arr) rfl (by rfl) rfl (by go_simp) (by go_simp) (hPr.e0 hd) rfl Aj rfl rfl (fun w2 hP2 hx2=>?_)
   have hd2:=hS.trans hx2 (fun q hq e=>.inl e)
   refine ⟨hd2,?_⟩
   (try simp only [Act.put,zA,zB,zC,zD,zE,zF])
   refine zO 6 (by kernel_rfl) ?_
   refine Bq (p:=C+1+1) (cs:=#[.int .i64 code,.int .i64 value,.slice RA rn rc]) rfl (by rfl) rfl (by go_simp) (by go_simp) ((hQr.e0 hd).ext hx2 (fun e=>absurd (show C+1+1=C+1 from e) (by omega))) rfl STResult rfl rfl (fun w3 hQ3 hx3'=>?_)
   have hx3:=hd2.trans hx3' (fun q hq e=>.inr e)
   have hP3:=hP2.ext hx3' (fun e=>absurd (show C+1=C+1+1 from e) (by omega))
   refine ⟨hx3,wpAnyH_done (by kernel_rfl) ?_ _⟩
   (try simp only [Act.put,zA,zB,zC,zD,zE,zF])
   go_wp2
   have hM3:Az base w3 b ({ s with evals:=s.evals.map (Fsm.Br s.index) }:Aa) true:=(hMr.keep hx3 (fun e=>e.elim hbP hbQ) (fun q e=>by rcases e with rfl|rfl;exact ⟨_,_,hPr,by decide⟩;exact ⟨_,_,hQr,by decide⟩))
   exact bodyPost_ret (BO rfl Aj STResult rfl rfl hP3 rfl hQ3 rfl) rfl ⟨⟨({ s with evals:=s.evals.map (Fsm.Br s.index) }:Aa),rfl,hM3,rfl,hxz.fresh hx3 (fun q e=>by have:=HC.out;omega),((hxW.any (S:=(fun q=>(Value.slice s.AE s.nE s.cE).ownBlock=some q))).tr hxe).trans hx3 (fun q hq e=>by have h9:q < w.heap.size:=hq;have h8:q=C+1 ∨ q=C+1+1:=e;have:=HC.out;omega)⟩⟩
end
end Go.Proofs.YtccekmeifanipaaGreat
