/- Parts of the proof: MReport -/
import Derived.Test.YtccekmeifanipaaGreatT16
import Derived.Test.YtccekmeifanipaaGreatT13
import Derived.Test.YtccekmeifanipaaGreatT04
import Derived.Test.YtccekmeifanipaaGreatT07
namespace Go.Proofs.YtccekmeifanipaaGreat
set_option linter.unusedVariables false
set_option linter.unusedSimpArgs false
set_option linter.unusedSectionVars false
open Go.RowKit
structure OG (s s' : Aa):Prop where
 j:s'.jobs=s.jobs
 t:s'.stable=s.stable
 n:s'.nodes=s.nodes
 a:s'.allocs.length=s.allocs.length
 d:s'.deploys.length=s.deploys.length
 e:s'.evals.length≤s.evals.length+1
structure Qy (base b:Nat) (s:Aa) (cm:Bool) (n:NodD) (r0 r1:Int) (w:World) (e:Ending) (w' : World):Prop where
 out:∃ s' cm',e=.returned (.tuple #[])∧Az base w' b s' cm'∧Fsm.report n (s.data,cm) (r0,r1)=(s'.data,cm')∧OG s s'∧Step w w' b s s'
theorem OG.refl (s:Aa):OG s s:=⟨rfl,rfl,rfl,rfl,rfl,Nat.le_add_right _ _⟩
theorem Fsm.Na {n:NodD} {a:Ac} {st:Int} (h:Fsm.takes n a st=true):(a.node != n.id)=false∧(a.epoch != n.epoch)=false∧decide (3≤a.state)=false∧decide (st≤a.state)=false∧inB st 2 5=true∧((st == 5)=false ∨ ((st == 5)=true∧a.stop=true)):=by
 have h2:=Fsm.JC n a st
 rw [h] at h2
 cases hs:a.stop <;> simp [inB,hs] at h2 ⊢ <;> omega
theorem Fsm.Oa {n:NodD} {a:Ac} {st:Int} (h:Fsm.takes n a st=false):(a.node != n.id)=true ∨ ((a.node != n.id)=false∧(a.epoch != n.epoch)=true) ∨ ((a.node != n.id)=false∧(a.epoch != n.epoch)=false∧decide (3≤a.state)=true) ∨ ((a.node != n.id)=false∧(a.epoch != n.epoch)=false∧decide (3≤a.state)=false∧decide (st≤a.state)=true)
  ∨ ((a.node != n.id)=false∧(a.epoch != n.epoch)=false∧decide (3≤a.state)=false∧decide (st≤a.state)=false∧inB st 2 5=false) ∨ ((a.node != n.id)=false∧(a.epoch != n.epoch)=false∧decide (3≤a.state)=false∧decide (st≤a.state)=false∧inB st 2 5=true∧(st == 5)=true∧a.stop=false):=by
 have h2:=Fsm.JC n a st
 rw [h] at h2
 cases hs:a.stop <;> simp [inB,hs] at h2 ⊢ <;> omega
theorem BR (n a b:Int) (w:World):Calls Tryz.prog 33 #[.int .i64 n,.int .i64 a,.int .i64 b] w fun e w'=>e=.returned (.bool (inB n a b))∧Ext Nothing w w':=by
 by_cases h1:a≤n
 ·by_cases h2:n≤b
  ·have H:=Lib.hid (show inB n a b=true by simp [inB,h1,h2])
   go_enter Tryz.func33,Tryz.ntmps33
   go_wp2
   go_ret
   exact ⟨by rw [H.out];rfl,Ext.refl _ _⟩
  have H:=Lib.hid (show inB n a b=false by simp [inB,h2])
  go_enter Tryz.func33,Tryz.ntmps33
  go_wp2
  go_ret
  exact ⟨by rw [H.out];rfl,Ext.refl _ _⟩
 have H:=Lib.hid (show inB n a b=false by simp [inB,h1])
 go_enter Tryz.func33,Tryz.ntmps33
 go_wp2
 go_ret
 exact ⟨by rw [H.out];rfl,Ext.refl _ _⟩
set_option maxRecDepth 20000 in
set_option maxHeartbeats 8000000 in
theorem Qa (base b:Nat) (s:Aa) (cm:Bool) (n:NodD) (r0 r1:Int) (w:World) (hM:Az base w b s cm) (hb:base≤w.heap.size) (hJ:s.jobs.length≤1048576) (hA:s.allocs.length≤1048576) (hDl:s.deploys.length≤1048576) (hE:s.evals.length≤33554432) (hw:Fsm.Wf s.data) :
  Calls Tryz.prog 72 #[.pointer (some ⟨b,0,none⟩),.agg #[.int .i64 n.id,.int .i64 n.cap.cpu,.int .i64 n.cap.mem,.bool n.up,.bool n.drain,.int .i64 n.boot,.int .i64 n.epoch,.int .i64 n.seq],.agg #[.int .i64 r0,.int .i64 r1]] w fun e w'=>Qy base b s cm n r0 r1 w e w':=by
 have hal:=Lib.hid hM.own.al
 have hnA:s.nA≤67108864:=by have:=hM.own.al;omega
 have hjl:=Lib.hid hM.own.jl
 have hnJ:s.nJ≤67108864:=by have:=hM.own.jl;omega
 have hdl:=Lib.hid hM.own.dl
 have hnD:s.nD≤67108864:=by have:=hM.own.dl;omega
 have hxW:Ext Nothing w ((w.alloc (.cells #[.int .i64 n.id,.int .i64 n.cap.cpu,.int .i64 n.cap.mem,.bool n.up,.bool n.drain,.int .i64 n.boot,.int .i64 n.epoch,.int .i64 n.seq] 43)).alloc (.cells #[.int .i64 r0,.int .i64 r1] 97)):=Ext.Ay
 have hCW:Blk ((w.alloc (.cells #[.int .i64 n.id,.int .i64 n.cap.cpu,.int .i64 n.cap.mem,.bool n.up,.bool n.drain,.int .i64 n.boot,.int .i64 n.epoch,.int .i64 n.seq] 43)).alloc (.cells #[.int .i64 r0,.int .i64 r1] 97)) w.heap.size 43 #[.int .i64 n.id,.int .i64 n.cap.cpu,.int .i64 n.cap.mem,.bool n.up,.bool n.drain,.int .i64 n.boot,.int .i64 n.epoch,.int .i64 n.seq]:=(Blk.new w _ _).e0 Ext.Ay
 have hDW:Blk ((w.alloc (.cells #[.int .i64 n.id,.int .i64 n.cap.cpu,.int .i64 n.cap.mem,.bool n.up,.bool n.drain,.int .i64 n.boot,.int .i64 n.epoch,.int .i64 n.seq] 43)).alloc (.cells #[.int .i64 r0,.int .i64 r1] 97)) (w.heap.size+1) 97 #[.int .i64 r0,.int .i64 r1]:=Blk.new' _ _ _ (by simp)
 have hMW:=hM.e0 hxW
 rcases AV (fun x:Ac=>x.id == r0) s.allocs with ⟨hi,hf,_⟩|⟨k,y,hi,hy,hp,hf,hfirst⟩
 ·have HF:=Lib.hid (show Fsm.report n (s.data,cm) (r0,r1)=(s.data,cm) from Fsm.O5 (z:=(s.data,cm)) (r:=(r0,r1)) hf)
  have HI:=Lib.hid hi
  clear hi hf
  go_enter Tryz.func72,Tryz.ntmps72
  go_upto_region 1 with (first|go_skip|go_guarded)
  generalize w.heap.size=C at hCW hDW ⊢
  generalize hDD:C+1=D at hDW ⊢
  clear hDD
  generalize ((w.alloc (.cells #[.int .i64 n.id,.int .i64 n.cap.cpu,.int .i64 n.cap.mem,.bool n.up,.bool n.drain,.int .i64 n.boot,.int .i64 n.epoch,.int .i64 n.seq] 43)).alloc (.cells #[.int .i64 r0,.int .i64 r1] 97))=W at hxW hCW hDW hMW ⊢
  have hsl:=hMW.own.slA
  have ck:W.cell? ⟨D,0,none⟩=some (.int .i64 r0):=hDW.cell 0
  have hd:Ext Nothing W W.drew:=(Ext.refl _ _).drew
  refine zS (S:=fun W'=>Ext Nothing W W') (by kernel_rfl) ?_
  generalize W.drew=Wd at hd ⊢
  refine zV 0 (.pointer (some ⟨b,0,none⟩)) rfl (by kernel_rfl) hd (fun _ _ _ h=>h) (fun W' hS'=>by go_simp) ?_
  refine zV 1 (.pointer (some ⟨b,0,none⟩)) rfl (by kernel_rfl) hd (fun _ _ _ h=>h) (fun W' hS'=>by go_simp) ?_
  refine zV 2 (.pointer (some ⟨b,0,none⟩)) rfl (by kernel_rfl) hd (fun _ _ _ h=>h) (fun W' hS'=>by go_simp) ?_
  refine zV 3 (.agg s.arr) rfl (by kernel_rfl) hd (fun _ _ _ h=>h) (fun W' hS'=>by exact run_load_struct (sz:=9) (b:=b) (off:=0) rfl Aj (by go_simp) (fun j u hu=>hS'.c0 (hMW.at j u hu)) rfl) ?_
  refine zV 4 (.pointer (some ⟨D,0,none⟩)) rfl (by kernel_rfl) hd (fun _ _ _ h=>h) (fun W' hS'=>by go_simp) ?_
  refine zV 5 (.int .i64 r0) rfl (by kernel_rfl) hd (fun _ _ _ h=>h) (fun W' hS'=>by have q:=hS'.c0 ck;go_simp) ?_
  (try simp only [Act.put,zA,zB,zC,zD,zE,zF])
  refine zO 6 (by kernel_rfl) ?_
  refine Ai (f:=76) (args:=#[.agg s.arr,.int .i64 r0]) rfl (by rfl) (by go_simp) ((Fx s.AA s.nA s.cA s.allocs r0 Wd (hsl.Al hd) hnA _ _ _ _ _ _ _ _ _ rfl).mono ?_)
  rintro e w1 ⟨rfl,hx1⟩
  (rw [HI.out])
  have hxc:=hd.tr hx1
  refine ⟨_,rfl,hxc,?_⟩
  (try simp only [Act.put,zA,zB,zC,zD,zE,zF])
  refine zV 7 (.int .i64 (-1)) rfl (by kernel_rfl) hxc (fun _ _ _ h=>h) (fun W' hS'=>by go_simp) ?_
  (try simp only [Act.put,zA,zB,zC,zD,zE,zF])
  refine wpAnyH_done (by kernel_rfl) ?_ _
  (try simp only [Act.put,zA,zB,zC,zD,zE,zF])
  clear hd hx1
  go_wp2
  (first|go_end0|((try simp only [Exit.inBlock,Exit.then]);refine bodyPost_ret (results_none rfl _ _ _) rfl ?_))
  exact ⟨⟨s,cm,rfl,hMW.e0 hxc,HF.out,OG.refl s,Step.of0 (hxW.tr hxc)⟩⟩
 have HFD0:s.data.allocs.find? (fun a=>a.id == r0)=some y:=hf
 have HT0:=Fsm.BF (f:=fun a:Ac=>{ a with state:=r1 }) hy hp hfirst
 have hk1:(k:Int) < s.nA:=by have:=hal.out;have:=(List.getElem?_eq_some_iff.1 hy).1;omega
 have hk0:(0:Int)≤(k:Int):=by omega
 have hng:decide ((k:Int) < 0)=false:=by simp
 obtain ⟨y0,y1,y2,y3,y4,y5,y6,⟨y7,y8⟩,y9,y10⟩:=y
 have HI:=Lib.hid hi
 have HY:=Lib.hid hy
 have HFD:=Lib.hid HFD0
 have HT:=Lib.hid HT0
 clear hi hy hp hf hfirst HFD0 HT0
 go_enter Tryz.func72,Tryz.ntmps72
 go_upto_region 1 with (first|go_skip|go_guarded)
 generalize w.heap.size=C at hCW hDW ⊢
 generalize hDD:C+1=D at hDW ⊢
 clear hDD
 generalize ((w.alloc (.cells #[.int .i64 n.id,.int .i64 n.cap.cpu,.int .i64 n.cap.mem,.bool n.up,.bool n.drain,.int .i64 n.boot,.int .i64 n.epoch,.int .i64 n.seq] 43)).alloc (.cells #[.int .i64 r0,.int .i64 r1] 97))=W at hxW hCW hDW hMW ⊢
 have hsl:=hMW.own.slA
 have ck:W.cell? ⟨D,0,none⟩=some (.int .i64 r0):=hDW.cell 0
 have hd:Ext Nothing W W.drew:=(Ext.refl _ _).drew
 refine zS (S:=fun W'=>Ext Nothing W W') (by kernel_rfl) ?_
 generalize W.drew=Wd at hd ⊢
 refine zV 0 (.pointer (some ⟨b,0,none⟩)) rfl (by kernel_rfl) hd (fun _ _ _ h=>h) (fun W' hS'=>by go_simp) ?_
 refine zV 1 (.pointer (some ⟨b,0,none⟩)) rfl (by kernel_rfl) hd (fun _ _ _ h=>h) (fun W' hS'=>by go_simp) ?_
 refine zV 2 (.pointer (some ⟨b,0,none⟩)) rfl (by kernel_rfl) hd (fun _ _ _ h=>h) (fun W' hS'=>by go_simp) ?_
 refine zV 3 (.agg s.arr) rfl (by kernel_rfl) hd (fun _ _ _ h=>h) (fun W' hS'=>by exact run_load_struct (sz:=9) (b:=b) (off:=0) rfl Aj (by go_simp) (fun j u hu=>hS'.c0 (hMW.at j u hu)) rfl) ?_
 refine zV 4 (.pointer (some ⟨D,0,none⟩)) rfl (by kernel_rfl) hd (fun _ _ _ h=>h) (fun W' hS'=>by go_simp) ?_
 refine zV 5 (.int .i64 r0) rfl (by kernel_rfl) hd (fun _ _ _ h=>h) (fun W' hS'=>by have q:=hS'.c0 ck;go_simp) ?_
 (try simp only [Act.put,zA,zB,zC,zD,zE,zF])
 refine zO 6 (by kernel_rfl) ?_
 refine Ai (f:=76) (args:=#[.agg s.arr,.int .i64 r0]) rfl (by rfl) (by go_simp) ((Fx s.AA s.nA s.cA s.allocs r0 Wd (hsl.Al hd) hnA _ _ _ _ _ _ _ _ _ rfl).mono ?_)
 rintro e w1 ⟨rfl,hx1⟩
 (rw [HI.out])
 have hxc:=hd.tr hx1
 refine ⟨_,rfl,hxc,?_⟩
 (try simp only [Act.put,zA,zB,zC,zD,zE,zF])
 refine zV 7 (.int .i64 (k:Int)) rfl (by kernel_rfl) hxc (fun _ _ _ h=>h) (fun W' hS'=>by go_simp) ?_
 (try simp only [Act.put,zA,zB,zC,zD,zE,zF])
 refine wpAnyH_done (by kernel_rfl) ?_ _
 (try simp only [Act.put,zA,zB,zC,zD,zE,zF])
 clear hd hx1
 have hM1:=hMW.e0 hxc
 have hC1:=hCW.e0 hxc
 have hD1:=hDW.e0 hxc
 have hx1:=hxW.tr hxc
 clear ck hsl hMW hCW hDW hxc hxW
 obtain ⟨g,cur,hAe,hob,hgb,_,hce,_⟩:=hM1.own.LB HY.out
 change s.AA=_ at hAe
 have m5:w1.cell? ⟨b,5,none⟩=some (.slice (some ⟨g,0,none⟩) s.nA s.cA):=by rw [← hAe];exact hM1.blk.cell 5
 have HA:=Lib.hid hAe
 clear hAe
 go_upto_region 4 with (first|go_skip|go_guarded)
 clear m5
 have f5:w1.cell? ⟨g,k*11+5,none⟩=some (.int .i64 y5):=hce 5 _ rfl
 have f6:w1.cell? ⟨g,k*11+6,none⟩=some (.int .i64 y6):=hce 6 _ rfl
 have f9:w1.cell? ⟨g,k*11+9,none⟩=some (.bool y9):=hce 9 _ rfl
 have f10:w1.cell? ⟨g,k*11+10,none⟩=some (.int .i64 y10):=hce 10 _ rfl
 have n0:w1.cell? ⟨C,0,none⟩=some (.int .i64 n.id):=hC1.cell 0
 have n6:w1.cell? ⟨C,6,none⟩=some (.int .i64 n.epoch):=hC1.cell 6
 have d1:w1.cell? ⟨D,1,none⟩=some (.int .i64 r1):=hD1.cell 1
 skip
 go_cut [74] from 26 to 73 (fun e wx=>e=.bool (!Fsm.takes n ⟨y0,y1,y2,y3,y4,y5,y6,⟨y7,y8⟩,y9,y10⟩ r1)∧Ext Nothing w1 wx)
 case first =>
  cases ht:Fsm.takes n ⟨y0,y1,y2,y3,y4,y5,y6,⟨y7,y8⟩,y9,y10⟩ r1 with
  | false =>
   have HTT:=Lib.hid ht
   have hh:=Fsm.Oa ht
   dsimp only at hh
   clear ht
   rcases hh with p1|⟨p1,p2⟩|⟨p1,p2,p3⟩|⟨p1,p2,p3,p4⟩|⟨p1,p2,p3,p4,p5⟩|⟨p1,p2,p3,p4,p5,p6,p7⟩
   all_goals (
    refine AY (by kernel_rfl) (by kernel_rfl) ?_
    repeat (first|go_big_quiet_skip|(go_big_quiet_want;(first|((refine Bw rfl ?_);(first|(refine Ah (p:=⟨g,k*11+5,none⟩) (v:=.int .i64 y5) ?_ ?_ ?_;(focus rfl);(focus (intro W' hW;have q:=hW.c0 f5;go_simp;done)))|(refine Ah (p:=⟨g,k*11+6,none⟩) (v:=.int .i64 y6) ?_ ?_ ?_;(focus rfl);(focus (intro W' hW;have q:=hW.c0 f6;go_simp;done)))|(refine Ah (p:=⟨g,k*11+10,none⟩) (v:=.int .i64 y10) ?_ ?_ ?_;(focus rfl);(focus (intro W' hW;have q:=hW.c0 f10;go_simp;done)))|(refine Ah (p:=⟨g,k*11+9,none⟩) (v:=.bool y9) ?_ ?_ ?_;(focus rfl);(focus (intro W' hW;have q:=hW.c0 f9;go_simp;done)))|(refine Ah (p:=⟨C,0,none⟩) (v:=.int .i64 n.id) ?_ ?_ ?_;(focus rfl);(focus (intro W' hW;have q:=hW.c0 n0;go_simp;done)))|(refine Ah (p:=⟨C,6,none⟩) (v:=.int .i64 n.epoch) ?_ ?_ ?_;(focus rfl);(focus (intro W' hW;have q:=hW.c0 n6;go_simp;done)))|(refine Ah (p:=⟨D,1,none⟩) (v:=.int .i64 r1) ?_ ?_ ?_;(focus rfl);(focus (intro W' hW;have q:=hW.c0 d1;go_simp;done)))|(refine Ah (p:=⟨g,k*11,none⟩) (v:=.agg #[.int .i64 y0,.int .i64 y1,.int .i64 y2,.int .i64 y3,.int .i64 y4,.int .i64 y5,.int .i64 y6,.int .i64 y7,.int .i64 y8,.bool y9,.int .i64 y10]) ?_ ?_ ?_;(focus rfl);(focus (intro W' hW;exact run_load_struct (sz:=11) (b:=g) (off:=k*11) rfl Ba (by go_simp) (fun j u hu=>hW.c0 (hce j u hu)) rfl;done))));(try simp only [Act.put,zA,zB,zC,zD,zE,zF]);(try simp only [p3]);(try simp only [p5]);(try simp only [p7]))|((refine BH rfl ?_);(first|(refine Ar (f:=74) (args:=#[.agg #[.int .i64 y0,.int .i64 y1,.int .i64 y2,.int .i64 y3,.int .i64 y4,.int .i64 y5,.int .i64 y6,.int .i64 y7,.int .i64 y8,.bool y9,.int .i64 y10]]) (v:=.bool (decide (3≤y10))) ?_ ?_ ?_;(focus (intro W' hW;go_simp;done));(focus (intro W' hW;refine (Bt #[.int .i64 y0,.int .i64 y1,.int .i64 y2,.int .i64 y3,.int .i64 y4,.int .i64 y5,.int .i64 y6,.int .i64 y7,.int .i64 y8,.bool y9,.int .i64 y10] y10 W' rfl rfl).mono ?_;intro e w' hcc;obtain ⟨he,hxu⟩:=hcc;refine ⟨?_,hxu⟩;exact he;done)))|(refine Ar (f:=33) (args:=#[.int .i64 r1,.int .i64 2,.int .i64 5]) (v:=.bool (inB r1 2 5)) ?_ ?_ ?_;(focus (intro W' hW;go_simp;done));(focus (intro W' hW;refine (BR r1 2 5 W').mono ?_;intro e w' hcc;obtain ⟨he,hxu⟩:=hcc;refine ⟨?_,hxu⟩;exact he;done))));(try simp only [Act.put,zA,zB,zC,zD,zE,zF]);(try simp only [p3]);(try simp only [p5]);(try simp only [p7]))|go_big_quiet_op);go_big_quiet_on))
    refine wpQuiet_nil ?_
    intro w2 hx2
    go_wp2
    go_meet
    exact ⟨by rw [HTT.out];rfl,hx2⟩
    )
  | true =>
   have HTT:=Lib.hid ht
   have hh:=Fsm.Na ht
   dsimp only at hh
   obtain ⟨p1,p2,p3,p4,p5,p67⟩:=hh
   clear ht
   rcases p67 with p6|⟨p6,p7⟩
   all_goals (
    refine AY (by kernel_rfl) (by kernel_rfl) ?_
    repeat (first|go_big_quiet_skip|(go_big_quiet_want;(first|((refine Bw rfl ?_);(first|(refine Ah (p:=⟨g,k*11+5,none⟩) (v:=.int .i64 y5) ?_ ?_ ?_;(focus rfl);(focus (intro W' hW;have q:=hW.c0 f5;go_simp;done)))|(refine Ah (p:=⟨g,k*11+6,none⟩) (v:=.int .i64 y6) ?_ ?_ ?_;(focus rfl);(focus (intro W' hW;have q:=hW.c0 f6;go_simp;done)))|(refine Ah (p:=⟨g,k*11+10,none⟩) (v:=.int .i64 y10) ?_ ?_ ?_;(focus rfl);(focus (intro W' hW;have q:=hW.c0 f10;go_simp;done)))|(refine Ah (p:=⟨g,k*11+9,none⟩) (v:=.bool y9) ?_ ?_ ?_;(focus rfl);(focus (intro W' hW;have q:=hW.c0 f9;go_simp;done)))|(refine Ah (p:=⟨C,0,none⟩) (v:=.int .i64 n.id) ?_ ?_ ?_;(focus rfl);(focus (intro W' hW;have q:=hW.c0 n0;go_simp;done)))|(refine Ah (p:=⟨C,6,none⟩) (v:=.int .i64 n.epoch) ?_ ?_ ?_;(focus rfl);(focus (intro W' hW;have q:=hW.c0 n6;go_simp;done)))|(refine Ah (p:=⟨D,1,none⟩) (v:=.int .i64 r1) ?_ ?_ ?_;(focus rfl);(focus (intro W' hW;have q:=hW.c0 d1;go_simp;done)))|(refine Ah (p:=⟨g,k*11,none⟩) (v:=.agg #[.int .i64 y0,.int .i64 y1,.int .i64 y2,.int .i64 y3,.int .i64 y4,.int .i64 y5,.int .i64 y6,.int .i64 y7,.int .i64 y8,.bool y9,.int .i64 y10]) ?_ ?_ ?_;(focus rfl);(focus (intro W' hW;exact run_load_struct (sz:=11) (b:=g) (off:=k*11) rfl Ba (by go_simp) (fun j u hu=>hW.c0 (hce j u hu)) rfl;done))));(try simp only [Act.put,zA,zB,zC,zD,zE,zF]);(try simp only [p3]);(try simp only [p5]);(try simp only [p7]))|((refine BH rfl ?_);(first|(refine Ar (f:=74) (args:=#[.agg #[.int .i64 y0,.int .i64 y1,.int .i64 y2,.int .i64 y3,.int .i64 y4,.int .i64 y5,.int .i64 y6,.int .i64 y7,.int .i64 y8,.bool y9,.int .i64 y10]]) (v:=.bool (decide (3≤y10))) ?_ ?_ ?_;(focus (intro W' hW;go_simp;done));(focus (intro W' hW;refine (Bt #[.int .i64 y0,.int .i64 y1,.int .i64 y2,.int .i64 y3,.int .i64 y4,.int .i64 y5,.int .i64 y6,.int .i64 y7,.int .i64 y8,.bool y9,.int .i64 y10] y10 W' rfl rfl).mono ?_;intro e w' hcc;obtain ⟨he,hxu⟩:=hcc;refine ⟨?_,hxu⟩;exact he;done)))|(refine Ar (f:=33) (args:=#[.int .i64 r1,.int .i64 2,.int .i64 5]) (v:=.bool (inB r1 2 5)) ?_ ?_ ?_;(focus (intro W' hW;go_simp;done));(focus (intro W' hW;refine (BR r1 2 5 W').mono ?_;intro e w' hcc;obtain ⟨he,hxu⟩:=hcc;refine ⟨?_,hxu⟩;exact he;done))));(try simp only [Act.put,zA,zB,zC,zD,zE,zF]);(try simp only [p3]);(try simp only [p5]);(try simp only [p7]))|go_big_quiet_op);go_big_quiet_on))
    refine wpQuiet_nil ?_
    intro w2 hx2
    go_wp2
    go_meet
    exact ⟨by rw [HTT.out];rfl,hx2⟩
    )
 case rest =>
  obtain ⟨rfl,hx2⟩:=hcut
  obtain ⟨w2,rfl⟩ : ∃ w2:World,w2=wc:=⟨_,rfl⟩
  cases ht:Fsm.takes n ⟨y0,y1,y2,y3,y4,y5,y6,⟨y7,y8⟩,y9,y10⟩ r1 with
  | false =>
   have HF:=Lib.hid (show Fsm.report n (s.data,cm) (r0,r1)=(s.data,cm) from Fsm.Pq (z:=(s.data,cm)) (r:=(r0,r1)) HFD.out ht)
   clear ht
   go_wp2
   (first|go_end0|((try simp only [Exit.inBlock,Exit.then]);refine bodyPost_ret (results_none rfl _ _ _) rfl ?_))
   exact ⟨⟨s,cm,rfl,hM1.e0 hx2,HF.out,OG.refl s,Step.of0 (hx1.tr hx2)⟩⟩
  | true =>
   have HTK:=Lib.hid ht
   clear ht
   have hM2:=hM1.e0 hx2
   have hD2:=hD1.e0 hx2
   have hst2:=Step.of0 (b:=b) (s:=s) (hx1.tr hx2)
   clear n0 n6 d1 f5 f6 f9 f10 hce hgb
   have d1:w2.cell? ⟨D,1,none⟩=some (.int .i64 r1):=hD2.cell 1
   obtain ⟨g2,cur2,hAe2,hob2,hgb2,_,hce2,hput2⟩:=hM2.own.LB HY.out
   have hgg:g2=g:=by have h7:s.AA=some ⟨g2,0,none⟩:=hAe2;rw [HA.out] at h7;injection h7 with h7;injection h7 with h7;exact h7.symm
   subst hgg
   clear hAe2
   have f10:w2.cell? ⟨g2,k*11+10,none⟩=some (.int .i64 y10):=hce2 10 _ rfl
   have f10f:w2.frozen? ⟨g2,k*11+10,none⟩=false:=hgb2.frozen _
   go_upto_region 6 with (first|go_skip|go_guarded)
   have hs3:Ext (fun q=>q=g2) w2 (w2.setCell ⟨g2,k*11+10,none⟩ (.int .i64 r1)):=Ext.set1 _ _ _ _
   have hO3:Aw base (w2.setCell ⟨g2,k*11+10,none⟩ (.int .i64 r1)) ({ s with allocs:=s.allocs.set k ⟨y0,y1,y2,y3,y4,y5,y6,⟨y7,y8⟩,y9,r1⟩ }:Aa):=hput2 10 _ ⟨y0,y1,y2,y3,y4,y5,y6,⟨y7,y8⟩,y9,r1⟩ (by decide) rfl
   have hgb3:¬ (b=g2):=fun e=>Blk.ne hM2.blk hgb2 (by decide) e
   have hM3:Az base (w2.setCell ⟨g2,k*11+10,none⟩ (.int .i64 r1)) b ({ s with allocs:=s.allocs.set k ⟨y0,y1,y2,y3,y4,y5,y6,⟨y7,y8⟩,y9,r1⟩ }:Aa) cm:=⟨hM2.blk.ext hs3 hgb3,hO3,hM2.lo⟩
   have hst3:Step w (w2.setCell ⟨g2,k*11+10,none⟩ (.int .i64 r1)) b s ({ s with allocs:=s.allocs.set k ⟨y0,y1,y2,y3,y4,y5,y6,⟨y7,y8⟩,y9,r1⟩ }:Aa):=hst2.cell (s2:=({ s with allocs:=s.allocs.set k ⟨y0,y1,y2,y3,y4,y5,y6,⟨y7,y8⟩,y9,r1⟩ }:Aa)) (MW.oA (s:=s) hob2) (fun q hq=>hq) _
   clear hs3 hO3 hput2 hce2 f10 f10f d1
   generalize (w2.setCell ⟨g2,k*11+10,none⟩ (.int .i64 r1))=w3 at hM3 hst3 ⊢
   have HY3:(s.allocs.set k ⟨y0,y1,y2,y3,y4,y5,y6,⟨y7,y8⟩,y9,r1⟩)[k]? = some ⟨y0,y1,y2,y3,y4,y5,y6,⟨y7,y8⟩,y9,r1⟩:=by rw [List.getElem?_set];simp;exact (List.getElem?_eq_some_iff.1 HY.out).1
   obtain ⟨g,cur,hAe,hob3,hgb4,_,hce3,hput3⟩:=hM3.own.LB HY3
   have hgg:g2=g:=by have h7:s.AA=some ⟨g,0,none⟩:=hAe;rw [HA.out] at h7;injection h7 with h7;injection h7
   subst hgg
   clear hAe hput3
   have hz3:=hst3.size
   have hce3:∀ j u,(#[.int .i64 y0,.int .i64 y1,.int .i64 y2,.int .i64 y3,.int .i64 y4,.int .i64 y5,.int .i64 y6,.int .i64 y7,.int .i64 y8,.bool y9,.int .i64 r1]:Array Value).toList[j]? = some u→w3.cell? ⟨g2,k*11+j,none⟩=some u:=hce3
   cases e3:decide (3≤r1) with
   | true =>
    go_upto_region 7 with (first|go_skip|go_guarded|((with_reducible refine isW ?_);refine Ad rfl 55 _ rfl Ba g2 (k*11) rfl #[.int .i64 y0,.int .i64 y1,.int .i64 y2,.int .i64 y3,.int .i64 y4,.int .i64 y5,.int .i64 y6,.int .i64 y7,.int .i64 y8,.bool y9,.int .i64 r1] hce3 rfl ?_)|(go_at_call 74;(with_reducible refine (Bt #[.int .i64 y0,.int .i64 y1,.int .i64 y2,.int .i64 y3,.int .i64 y4,.int .i64 y5,.int .i64 y6,.int .i64 y7,.int .i64 y8,.bool y9,.int .i64 r1] r1 w3 rfl rfl).mono ?_);rintro e w4 ⟨rfl,hx4⟩;(rw [e3])))
    have hM4:=hM3.e0 hx4
    have hst4:=hst3.m0 hx4
    have f1:w4.cell? ⟨g2,k*11+1,none⟩=some (.int .i64 y1):=hx4.c0 (hce3 1 _ rfl)
    have hz4:=hx4.size
    have hq4:base≤w4.heap.size:=by omega
    have hq1:({ s with allocs:=s.allocs.set k ⟨y0,y1,y2,y3,y4,y5,y6,⟨y7,y8⟩,y9,r1⟩ }:Aa).jobs.length≤67108864:=by show s.jobs.length≤_;omega
    have hq2:({ s with allocs:=s.allocs.set k ⟨y0,y1,y2,y3,y4,y5,y6,⟨y7,y8⟩,y9,r1⟩ }:Aa).evals.length≤67108862:=by show s.evals.length≤_;omega
    have hq3:Fsm.Up EvalD.job ({ s with allocs:=s.allocs.set k ⟨y0,y1,y2,y3,y4,y5,y6,⟨y7,y8⟩,y9,r1⟩ }:Aa).evals:=hw.e
    go_upto_region 8 with (first|go_skip|go_guarded|(go_at_call 64;(with_reducible refine (Ef base b ({ s with allocs:=s.allocs.set k ⟨y0,y1,y2,y3,y4,y5,y6,⟨y7,y8⟩,y9,r1⟩ }:Aa) cm y1 w4 hM4 hq4 hq1 hq2 hq3).mono ?_);rintro e w5 ⟨A2,c2,l2,rfl,hM5,hD5,hx5⟩))
    have hlen:l2.length≤s.evals.length+1:=by
     have e3:l2.length=(Fsm.eval ({ s with allocs:=s.allocs.set k ⟨y0,y1,y2,y3,y4,y5,y6,⟨y7,y8⟩,y9,r1⟩ }:Aa).data y1).evals.length:=congrArg (fun z:Ab=>z.evals.length) hD5
     have e4:=Fsm.Eg ({ s with allocs:=s.allocs.set k ⟨y0,y1,y2,y3,y4,y5,y6,⟨y7,y8⟩,y9,r1⟩ }:Aa).data y1
     have e5:({ s with allocs:=s.allocs.set k ⟨y0,y1,y2,y3,y4,y5,y6,⟨y7,y8⟩,y9,r1⟩ }:Aa).data.evals.length=s.evals.length:=rfl
     omega
    have hst5:=hst4.trans hx5
    have m10:w5.cell? ⟨b,10,none⟩=some (.bool cm):=hM5.blk.cell 10
    have m10f:w5.frozen? ⟨b,10,none⟩=false:=hM5.blk.frozen 10
    go_wp2
    have hMx:Az base (w5.setCell ⟨b,10,none⟩ (.bool true)) b (({ s with allocs:=s.allocs.set k ⟨y0,y1,y2,y3,y4,y5,y6,⟨y7,y8⟩,y9,r1⟩ }:Aa).Bf A2 c2 l2) true:=hM5.put 10 _ hM5.own rfl
    (first|go_end0|((try simp only [Exit.inBlock,Exit.then]);refine bodyPost_ret (results_none rfl _ _ _) rfl ?_))
    exact ⟨⟨(({ s with allocs:=s.allocs.set k ⟨y0,y1,y2,y3,y4,y5,y6,⟨y7,y8⟩,y9,r1⟩ }:Aa).Bf A2 c2 l2),true,rfl,hMx,by rw [hD5];exact Fsm.Ou (z:=(s.data,cm)) (r:=(r0,r1)) HFD.out HTK.out HT.out (by simpa using e3),⟨rfl,rfl,rfl,List.length_set,rfl,hlen⟩,hst5.cell (s2:=(({ s with allocs:=s.allocs.set k ⟨y0,y1,y2,y3,y4,y5,y6,⟨y7,y8⟩,y9,r1⟩ }:Aa).Bf A2 c2 l2)) (.inl rfl) (fun q hq=>hq) _⟩⟩
   | false =>
    go_upto_region 9 with (first|go_skip|go_guarded|((with_reducible refine isW ?_);refine Ad rfl 55 _ rfl Ba g2 (k*11) rfl #[.int .i64 y0,.int .i64 y1,.int .i64 y2,.int .i64 y3,.int .i64 y4,.int .i64 y5,.int .i64 y6,.int .i64 y7,.int .i64 y8,.bool y9,.int .i64 r1] hce3 rfl ?_)|(go_at_call 74;(with_reducible refine (Bt #[.int .i64 y0,.int .i64 y1,.int .i64 y2,.int .i64 y3,.int .i64 y4,.int .i64 y5,.int .i64 y6,.int .i64 y7,.int .i64 y8,.bool y9,.int .i64 r1] r1 w3 rfl rfl).mono ?_);rintro e w4 ⟨rfl,hx4⟩;(rw [e3])))
    have hM4:=hM3.e0 hx4
    have hst4:=hst3.m0 hx4
    have f1:w4.cell? ⟨g2,k*11+1,none⟩=some (.int .i64 y1):=hx4.c0 (hce3 1 _ rfl)
    have f2:w4.cell? ⟨g2,k*11+2,none⟩=some (.int .i64 y2):=hx4.c0 (hce3 2 _ rfl)
    have hgb5:=hgb4.e0 hx4
    have hz4:=hx4.size
    have hsj:=hM4.own.slJ
    have HE3:=Lib.hid (show ¬ 3≤r1 by simpa using e3)
    clear e3 hce3 HI
    rcases AV (fun y:JobV=>y.1.id == y1) s.jobs with ⟨hi,hf,_⟩|⟨i,x,hi,hxi,hp,hf,_⟩
    ·have HI:=Lib.hid hi
     have HJ:=Lib.hid (show Fsm.AU ({ s with allocs:=s.allocs.set k ⟨y0,y1,y2,y3,y4,y5,y6,⟨y7,y8⟩,y9,r1⟩ }:Aa).data y1=none from Ct hf)
     clear hi hf
     have hd:Ext Nothing w4 w4.drew:=(Ext.refl _ _).drew
     refine zS (S:=fun W'=>Ext Nothing w4 W') (by kernel_rfl) ?_
     generalize w4.drew=Wd at hd ⊢
     refine zV 0 (.pointer (some ⟨b,0,none⟩)) rfl (by kernel_rfl) hd (fun _ _ _ h=>h) (fun W' hS'=>by go_simp) ?_
     refine zV 1 (.pointer (some ⟨b,0,none⟩)) rfl (by kernel_rfl) hd (fun _ _ _ h=>h) (fun W' hS'=>by go_simp) ?_
     refine zV 2 (.pointer (some ⟨b,0,none⟩)) rfl (by kernel_rfl) hd (fun _ _ _ h=>h) (fun W' hS'=>by go_simp) ?_
     refine zV 3 (.agg ({ s with allocs:=s.allocs.set k ⟨y0,y1,y2,y3,y4,y5,y6,⟨y7,y8⟩,y9,r1⟩ }:Aa).arr) rfl (by kernel_rfl) hd (fun _ _ _ h=>h) (fun W' hS'=>by exact run_load_struct (sz:=9) (b:=b) (off:=0) rfl Aj (by go_simp) (fun j u hu=>hS'.c0 (hM4.at j u hu)) rfl) ?_
     refine zV 4 (.pointer (some ⟨g2,k*11,none⟩)) rfl (by kernel_rfl) hd (fun _ _ _ h=>h) (fun W' hS'=>by go_simp) ?_
     refine zV 5 (.pointer (some ⟨g2,k*11,none⟩)) rfl (by kernel_rfl) hd (fun _ _ _ h=>h) (fun W' hS'=>by go_simp) ?_
     refine zV 6 (.pointer (some ⟨g2,k*11+1,none⟩)) rfl (by kernel_rfl) hd (fun _ _ _ h=>h) (fun W' hS'=>by go_simp) ?_
     refine zV 7 (.int .i64 y1) rfl (by kernel_rfl) hd (fun _ _ _ h=>h) (fun W' hS'=>by have q:=hS'.c0 f1;go_simp) ?_
     (try simp only [Act.put,zA,zB,zC,zD,zE,zF])
     refine zO 8 (by kernel_rfl) ?_
     refine Ai (f:=61) (args:=#[.agg ({ s with allocs:=s.allocs.set k ⟨y0,y1,y2,y3,y4,y5,y6,⟨y7,y8⟩,y9,r1⟩ }:Aa).arr,.int .i64 y1]) rfl (by rfl) (by go_simp) ((Bu s.AJ s.nJ s.cJ s.jobs y1 Wd (hsj.Al hd) hnJ _ _ _ _ _ _ _ _ _ rfl).mono ?_)
     rintro e w5 ⟨rfl,hx1⟩
     (rw [HI.out])
     have hxc:=hd.tr hx1
     refine ⟨_,rfl,hxc,?_⟩
     (try simp only [Act.put,zA,zB,zC,zD,zE,zF])
     refine zV 9 (.int .i64 (-1)) rfl (by kernel_rfl) hxc (fun _ _ _ h=>h) (fun W' hS'=>by go_simp) ?_
     (try simp only [Act.put,zA,zB,zC,zD,zE,zF])
     refine wpAnyH_done (by kernel_rfl) ?_ _
     (try simp only [Act.put,zA,zB,zC,zD,zE,zF])
     clear hd hx1
     go_wp2
     (first|go_end0|((try simp only [Exit.inBlock,Exit.then]);refine bodyPost_ret (results_none rfl _ _ _) rfl ?_))
     exact ⟨⟨({ s with allocs:=s.allocs.set k ⟨y0,y1,y2,y3,y4,y5,y6,⟨y7,y8⟩,y9,r1⟩ }:Aa),cm,rfl,hM4.e0 hxc,Fsm.Nl (z:=(s.data,cm)) (r:=(r0,r1)) HFD.out HTK.out HT.out (by have h9:=HE3.out;show ¬ (3≤r1);omega) HJ.out,⟨rfl,rfl,rfl,List.length_set,rfl,Nat.le_add_right _ _⟩,hst4.m0 hxc⟩⟩
    have HJ0:=Cs (s:=({ s with allocs:=s.allocs.set k ⟨y0,y1,y2,y3,y4,y5,y6,⟨y7,y8⟩,y9,r1⟩ }:Aa)) hf
    obtain ⟨hi1,hi2⟩:=List.getElem?_eq_some_iff.1 hxi
    obtain ⟨_,gj,oj,hAj,hcj⟩:=hsj.get (Ext.refl Nothing w4) (k:=i) (by have:=hjl.out;show i < s.nJ;omega)
    change s.AJ=_ at hAj
    change ∀ j u,(JobV.cells (s.jobs[i]))[j]? = some u→_ at hcj
    rw [hi2] at hcj
    have hi0:(0:Int)≤(i:Int):=by omega
    have hi1n:(i:Int) < s.nJ:=by have:=hjl.out;omega
    have hig:decide ((0:Int)≤(i:Int))=true:=by simp
    obtain ⟨⟨x0,x1,x2,x3,xg,x5,x6⟩,xv⟩:=x
    have j1:w4.cell? ⟨gj,oj+i*7+1,none⟩=some (.int .i64 x1):=hcj 1 _ rfl
    have HI:=Lib.hid hi
    have HAJ:=Lib.hid hAj
    have HJ:=Lib.hid (show Fsm.AU ({ s with allocs:=s.allocs.set k ⟨y0,y1,y2,y3,y4,y5,y6,⟨y7,y8⟩,y9,r1⟩ }:Aa).data y1=some ⟨x0,x1,x2,x3,xg,x5,x6⟩ from HJ0)
    clear hi hf hxi hi2 hAj hp hcj HJ0
    have hd:Ext Nothing w4 w4.drew:=(Ext.refl _ _).drew
    refine zS (S:=fun W'=>Ext Nothing w4 W') (by kernel_rfl) ?_
    generalize w4.drew=Wd at hd ⊢
    refine zV 0 (.pointer (some ⟨b,0,none⟩)) rfl (by kernel_rfl) hd (fun _ _ _ h=>h) (fun W' hS'=>by go_simp) ?_
    refine zV 1 (.pointer (some ⟨b,0,none⟩)) rfl (by kernel_rfl) hd (fun _ _ _ h=>h) (fun W' hS'=>by go_simp) ?_
    refine zV 2 (.pointer (some ⟨b,0,none⟩)) rfl (by kernel_rfl) hd (fun _ _ _ h=>h) (fun W' hS'=>by go_simp) ?_
    refine zV 3 (.agg ({ s with allocs:=s.allocs.set k ⟨y0,y1,y2,y3,y4,y5,y6,⟨y7,y8⟩,y9,r1⟩ }:Aa).arr) rfl (by kernel_rfl) hd (fun _ _ _ h=>h) (fun W' hS'=>by exact run_load_struct (sz:=9) (b:=b) (off:=0) rfl Aj (by go_simp) (fun j u hu=>hS'.c0 (hM4.at j u hu)) rfl) ?_
    refine zV 4 (.pointer (some ⟨g2,k*11,none⟩)) rfl (by kernel_rfl) hd (fun _ _ _ h=>h) (fun W' hS'=>by go_simp) ?_
    refine zV 5 (.pointer (some ⟨g2,k*11,none⟩)) rfl (by kernel_rfl) hd (fun _ _ _ h=>h) (fun W' hS'=>by go_simp) ?_
    refine zV 6 (.pointer (some ⟨g2,k*11+1,none⟩)) rfl (by kernel_rfl) hd (fun _ _ _ h=>h) (fun W' hS'=>by go_simp) ?_
    refine zV 7 (.int .i64 y1) rfl (by kernel_rfl) hd (fun _ _ _ h=>h) (fun W' hS'=>by have q:=hS'.c0 f1;go_simp) ?_
    (try simp only [Act.put,zA,zB,zC,zD,zE,zF])
    refine zO 8 (by kernel_rfl) ?_
    refine Ai (f:=61) (args:=#[.agg ({ s with allocs:=s.allocs.set k ⟨y0,y1,y2,y3,y4,y5,y6,⟨y7,y8⟩,y9,r1⟩ }:Aa).arr,.int .i64 y1]) rfl (by rfl) (by go_simp) ((Bu s.AJ s.nJ s.cJ s.jobs y1 Wd (hsj.Al hd) hnJ _ _ _ _ _ _ _ _ _ rfl).mono ?_)
    rintro e w6 ⟨rfl,hx1⟩
    (rw [HI.out])
    have hxc:=hd.tr hx1
    refine ⟨_,rfl,hxc,?_⟩
    (try simp only [Act.put,zA,zB,zC,zD,zE,zF])
    refine zV 9 (.int .i64 (i:Int)) rfl (by kernel_rfl) hxc (fun _ _ _ h=>h) (fun W' hS'=>by go_simp) ?_
    (try simp only [Act.put,zA,zB,zC,zD,zE,zF])
    refine wpAnyH_done (by kernel_rfl) ?_ _
    (try simp only [Act.put,zA,zB,zC,zD,zE,zF])
    clear hd hx1
    have hM6:=hM4.e0 hxc
    have hst6:=hst4.m0 hxc
    have f1:=hxc.c0 f1
    have f2:=hxc.c0 f2
    have j1:=hxc.c0 j1
    have hgb6:=hgb5.e0 hxc
    have hz6:=hxc.size
    have m2:w6.cell? ⟨b,2,none⟩=some (.slice (some ⟨gj,oj,none⟩) s.nJ s.cJ):=by rw [← HAJ.out];exact hM6.blk.cell 2
    clear hsj hgb5 hxc HI
    cases e5:(x1 == 1) with
    | false =>
     go_wp2_with (first|go_skip|go_guarded)
     (first|go_end0|((try simp only [Exit.inBlock,Exit.then]);refine bodyPost_ret (results_none rfl _ _ _) rfl ?_))
     exact ⟨⟨({ s with allocs:=s.allocs.set k ⟨y0,y1,y2,y3,y4,y5,y6,⟨y7,y8⟩,y9,r1⟩ }:Aa),cm,rfl,hM6,Fsm.OH (z:=(s.data,cm)) (r:=(r0,r1)) HFD.out HTK.out HT.out (by have h9:=HE3.out;show ¬ (3≤r1);omega) HJ.out e5,⟨rfl,rfl,rfl,List.length_set,rfl,Nat.le_add_right _ _⟩,hst6⟩⟩
    | true =>
     have HE5:=Lib.hid e5
     go_upto_region 11 with (first|go_skip|go_guarded)
     clear e5 j1 m2
     have hq4:base≤w6.heap.size:=by omega
     have hq1:({ s with allocs:=s.allocs.set k ⟨y0,y1,y2,y3,y4,y5,y6,⟨y7,y8⟩,y9,r1⟩ }:Aa).jobs.length≤67108864:=by show s.jobs.length≤_;omega
     have hq2:({ s with allocs:=s.allocs.set k ⟨y0,y1,y2,y3,y4,y5,y6,⟨y7,y8⟩,y9,r1⟩ }:Aa).evals.length≤67108862:=by show s.evals.length≤_;omega
     have hq3:Fsm.Up EvalD.job ({ s with allocs:=s.allocs.set k ⟨y0,y1,y2,y3,y4,y5,y6,⟨y7,y8⟩,y9,r1⟩ }:Aa).evals:=hw.e
     go_upto_region 12 with (first|go_skip|go_guarded|(go_at_call 64;(with_reducible refine (Ef base b ({ s with allocs:=s.allocs.set k ⟨y0,y1,y2,y3,y4,y5,y6,⟨y7,y8⟩,y9,r1⟩ }:Aa) cm y1 w6 hM6 hq4 hq1 hq2 hq3).mono ?_);rintro e w5 ⟨A2,c2,l2,rfl,hM5,hD5,hx5⟩))
     have hlen:l2.length≤s.evals.length+1:=by
      have e3:l2.length=(Fsm.eval ({ s with allocs:=s.allocs.set k ⟨y0,y1,y2,y3,y4,y5,y6,⟨y7,y8⟩,y9,r1⟩ }:Aa).data y1).evals.length:=congrArg (fun z:Ab=>z.evals.length) hD5
      have e4:=Fsm.Eg ({ s with allocs:=s.allocs.set k ⟨y0,y1,y2,y3,y4,y5,y6,⟨y7,y8⟩,y9,r1⟩ }:Aa).data y1
      have e5:({ s with allocs:=s.allocs.set k ⟨y0,y1,y2,y3,y4,y5,y6,⟨y7,y8⟩,y9,r1⟩ }:Aa).data.evals.length=s.evals.length:=rfl
      omega
     have hnE:¬ ((Value.slice s.AE s.nE s.cE).ownBlock=some g2):=fun e=>own_ne hM6.own.e hgb6 (by decide) e
     have HD5:=Lib.hid hD5
     clear hD5 hq1 hq2 hq3 hq4
     have hst7:=hst6.trans hx5
     have hsd:Sl w5 4 s.AD s.nD (s.deploys.map DepD.cells):=hM5.own.slD
     have HY5:(({ s with allocs:=s.allocs.set k ⟨y0,y1,y2,y3,y4,y5,y6,⟨y7,y8⟩,y9,r1⟩ }:Aa).Bf A2 c2 l2).allocs[k]? = some ⟨y0,y1,y2,y3,y4,y5,y6,⟨y7,y8⟩,y9,r1⟩:=HY3
     obtain ⟨g5,cur5,hAe5,_,hgb5,_,hce5,_⟩:=hM5.own.LB HY5
     have hgg5:g5=g2:=by have h7:s.AA=some ⟨g5,0,none⟩:=hAe5;rw [HA.out] at h7;injection h7 with h7;injection h7 with h7;exact h7.symm
     subst hgg5
     clear hAe5
     have f1:w5.cell? ⟨g5,k*11+1,none⟩=some (.int .i64 y1):=hce5 1 _ rfl
     have f2:w5.cell? ⟨g5,k*11+2,none⟩=some (.int .i64 y2):=hce5 2 _ rfl
     clear hce5
     rcases AV (fun x:DepD=>x.job == y1) s.deploys with ⟨hk,hkf,_⟩|⟨m,d,hk,hxk,hkp,hkf,hkfirst⟩
     ·have HI:=Lib.hid hk
      have HTD:=Lib.hid (Fsm.Ew (f:=fun d:DepD=>if d.state == 1 && d.ver == y2 then { d with index:=s.index } else d) hkf)
      clear hk hkf
      have hd:Ext Nothing w5 w5.drew:=(Ext.refl _ _).drew
      refine zS (S:=fun W'=>Ext Nothing w5 W') (by kernel_rfl) ?_
      generalize w5.drew=Wd at hd ⊢
      refine zV 0 (.pointer (some ⟨b,0,none⟩)) rfl (by kernel_rfl) hd (fun _ _ _ h=>h) (fun W' hS'=>by go_simp) ?_
      refine zV 1 (.pointer (some ⟨b,0,none⟩)) rfl (by kernel_rfl) hd (fun _ _ _ h=>h) (fun W' hS'=>by go_simp) ?_
      refine zV 2 (.pointer (some ⟨b,0,none⟩)) rfl (by kernel_rfl) hd (fun _ _ _ h=>h) (fun W' hS'=>by go_simp) ?_
      refine zV 3 (.agg (({ s with allocs:=s.allocs.set k ⟨y0,y1,y2,y3,y4,y5,y6,⟨y7,y8⟩,y9,r1⟩ }:Aa).Bf A2 c2 l2).arr) rfl (by kernel_rfl) hd (fun _ _ _ h=>h) (fun W' hS'=>by exact run_load_struct (sz:=9) (b:=b) (off:=0) rfl Aj (by go_simp) (fun j u hu=>hS'.c0 (hM5.at j u hu)) rfl) ?_
      refine zV 4 (.pointer (some ⟨g5,k*11,none⟩)) rfl (by kernel_rfl) hd (fun _ _ _ h=>h) (fun W' hS'=>by go_simp) ?_
      refine zV 5 (.pointer (some ⟨g5,k*11,none⟩)) rfl (by kernel_rfl) hd (fun _ _ _ h=>h) (fun W' hS'=>by go_simp) ?_
      refine zV 6 (.pointer (some ⟨g5,k*11+1,none⟩)) rfl (by kernel_rfl) hd (fun _ _ _ h=>h) (fun W' hS'=>by go_simp) ?_
      refine zV 7 (.int .i64 y1) rfl (by kernel_rfl) hd (fun _ _ _ h=>h) (fun W' hS'=>by have q:=hS'.c0 f1;go_simp) ?_
      (try simp only [Act.put,zA,zB,zC,zD,zE,zF])
      refine zO 8 (by kernel_rfl) ?_
      refine Ai (f:=63) (args:=#[.agg (({ s with allocs:=s.allocs.set k ⟨y0,y1,y2,y3,y4,y5,y6,⟨y7,y8⟩,y9,r1⟩ }:Aa).Bf A2 c2 l2).arr,.int .i64 y1]) rfl (by rfl) (by go_simp) ((Dm s.AD s.nD s.cD s.deploys y1 Wd (hsd.Al hd) hnD _ _ _ _ _ _ _ _ _ rfl).mono ?_)
      rintro e w7 ⟨rfl,hx1⟩
      (rw [HI.out])
      have hxc:=hd.tr hx1
      refine ⟨_,rfl,hxc,?_⟩
      (try simp only [Act.put,zA,zB,zC,zD,zE,zF])
      refine zV 9 (.int .i64 (-1)) rfl (by kernel_rfl) hxc (fun _ _ _ h=>h) (fun W' hS'=>by go_simp) ?_
      (try simp only [Act.put,zA,zB,zC,zD,zE,zF])
      refine wpAnyH_done (by kernel_rfl) ?_ _
      (try simp only [Act.put,zA,zB,zC,zD,zE,zF])
      clear hd hx1
      go_upto_region 13 with (first|go_skip|go_guarded)
      go_quiet (fail)
      have hdq:=(Ext.refl Nothing w7).drewN nq
      generalize w7.drewN nq=w8 at hdq ⊢
      go_wp2
      (first|go_end0|((try simp only [Exit.inBlock,Exit.then]);refine bodyPost_ret (results_none rfl _ _ _) rfl ?_))
      exact ⟨⟨(({ s with allocs:=s.allocs.set k ⟨y0,y1,y2,y3,y4,y5,y6,⟨y7,y8⟩,y9,r1⟩ }:Aa).Bf A2 c2 l2),cm,rfl,(hM5.e0 hxc).e0 hdq,(by have h9:=Fsm.H6 (n:=n) (z:=(s.data,cm)) (r:=(r0,r1)) HFD.out HTK.out HT.out (by have h9:=HE3.out;show ¬ (3≤r1);omega) HJ.out HE5.out (t:=(({ s with allocs:=s.allocs.set k ⟨y0,y1,y2,y3,y4,y5,y6,⟨y7,y8⟩,y9,r1⟩ }:Aa).Bf A2 c2 l2).data) HD5.out (q:=_) HTD.out;exact h9),⟨rfl,rfl,rfl,List.length_set,rfl,hlen⟩,(hst7.m0 hxc).m0 hdq⟩⟩
     obtain ⟨d0,d1,d2,d3⟩:=d
     have HI:=Lib.hid hk
     have hmlt:(m:Int) < s.nD:=by have:=hdl.out;have:=(List.getElem?_eq_some_iff.1 hxk).1;omega
     have hm0:(0:Int)≤(m:Int):=by omega
     have hmg:decide ((0:Int)≤(m:Int))=true:=by simp
     have HTD:=Lib.hid (Fsm.BF (f:=fun d:DepD=>if d.state == 1 && d.ver == y2 then { d with index:=s.index } else d) hxk hkp hkfirst)
     have HXM:=Lib.hid hxk
     clear hk hkf hkp hkfirst hxk
     have hd:Ext Nothing w5 w5.drew:=(Ext.refl _ _).drew
     refine zS (S:=fun W'=>Ext Nothing w5 W') (by kernel_rfl) ?_
     generalize w5.drew=Wd at hd ⊢
     refine zV 0 (.pointer (some ⟨b,0,none⟩)) rfl (by kernel_rfl) hd (fun _ _ _ h=>h) (fun W' hS'=>by go_simp) ?_
     refine zV 1 (.pointer (some ⟨b,0,none⟩)) rfl (by kernel_rfl) hd (fun _ _ _ h=>h) (fun W' hS'=>by go_simp) ?_
     refine zV 2 (.pointer (some ⟨b,0,none⟩)) rfl (by kernel_rfl) hd (fun _ _ _ h=>h) (fun W' hS'=>by go_simp) ?_
     refine zV 3 (.agg (({ s with allocs:=s.allocs.set k ⟨y0,y1,y2,y3,y4,y5,y6,⟨y7,y8⟩,y9,r1⟩ }:Aa).Bf A2 c2 l2).arr) rfl (by kernel_rfl) hd (fun _ _ _ h=>h) (fun W' hS'=>by exact run_load_struct (sz:=9) (b:=b) (off:=0) rfl Aj (by go_simp) (fun j u hu=>hS'.c0 (hM5.at j u hu)) rfl) ?_
     refine zV 4 (.pointer (some ⟨g5,k*11,none⟩)) rfl (by kernel_rfl) hd (fun _ _ _ h=>h) (fun W' hS'=>by go_simp) ?_
     refine zV 5 (.pointer (some ⟨g5,k*11,none⟩)) rfl (by kernel_rfl) hd (fun _ _ _ h=>h) (fun W' hS'=>by go_simp) ?_
     refine zV 6 (.pointer (some ⟨g5,k*11+1,none⟩)) rfl (by kernel_rfl) hd (fun _ _ _ h=>h) (fun W' hS'=>by go_simp) ?_
     refine zV 7 (.int .i64 y1) rfl (by kernel_rfl) hd (fun _ _ _ h=>h) (fun W' hS'=>by have q:=hS'.c0 f1;go_simp) ?_
     (try simp only [Act.put,zA,zB,zC,zD,zE,zF])
     refine zO 8 (by kernel_rfl) ?_
     refine Ai (f:=63) (args:=#[.agg (({ s with allocs:=s.allocs.set k ⟨y0,y1,y2,y3,y4,y5,y6,⟨y7,y8⟩,y9,r1⟩ }:Aa).Bf A2 c2 l2).arr,.int .i64 y1]) rfl (by rfl) (by go_simp) ((Dm s.AD s.nD s.cD s.deploys y1 Wd (hsd.Al hd) hnD _ _ _ _ _ _ _ _ _ rfl).mono ?_)
     rintro e w7 ⟨rfl,hx1⟩
     (rw [HI.out])
     have hxc:=hd.tr hx1
     refine ⟨_,rfl,hxc,?_⟩
     (try simp only [Act.put,zA,zB,zC,zD,zE,zF])
     refine zV 9 (.int .i64 (m:Int)) rfl (by kernel_rfl) hxc (fun _ _ _ h=>h) (fun W' hS'=>by go_simp) ?_
     (try simp only [Act.put,zA,zB,zC,zD,zE,zF])
     refine wpAnyH_done (by kernel_rfl) ?_ _
     (try simp only [Act.put,zA,zB,zC,zD,zE,zF])
     clear hd hx1
     have hM7:=hM5.e0 hxc
     have hst8:=hst7.m0 hxc
     have f2:=hxc.c0 f2
     clear f1 hsd
     obtain ⟨gd,curd,hAd,hobd,hgbd,_,hced,_⟩:=hM7.own.Js HXM.out
     change s.AD=_ at hAd
     have m7:w7.cell? ⟨b,7,none⟩=some (.slice (some ⟨gd,0,none⟩) s.nD s.cD):=by rw [← hAd];exact hM7.blk.cell 7
     have HAD:=Lib.hid hAd
     clear hAd
     have q2:w7.cell? ⟨gd,m*4+2,none⟩=some (.int .i64 d2):=hced 2 _ rfl
     have q1:w7.cell? ⟨gd,m*4+1,none⟩=some (.int .i64 d1):=hced 1 _ rfl
     clear hced
     go_upto_region 13 with (first|go_skip|go_guarded)
     cases e6:(d2 == 1) with
     | false =>
      have HTD2:=Lib.hid (HTD.out.trans (show s.deploys.set m (if (d2 == 1 && d1 == y2) then _ else (⟨d0,d1,d2,d3⟩ : DepD))=s.deploys by rw [show (d2 == 1 && d1 == y2)=false by rw [e6];rfl];simp only [Bool.false_eq_true,if_false];exact set_self HXM.out))
      go_quiet (fail)
      have hdq:=(Ext.refl Nothing w7).drewN nq
      generalize w7.drewN nq=w8 at hdq ⊢
      go_wp2
      (first|go_end0|((try simp only [Exit.inBlock,Exit.then]);refine bodyPost_ret (results_none rfl _ _ _) rfl ?_))
      exact ⟨⟨(({ s with allocs:=s.allocs.set k ⟨y0,y1,y2,y3,y4,y5,y6,⟨y7,y8⟩,y9,r1⟩ }:Aa).Bf A2 c2 l2),cm,rfl,hM7.e0 hdq,(by have h9:=Fsm.H6 (n:=n) (z:=(s.data,cm)) (r:=(r0,r1)) HFD.out HTK.out HT.out (by have h9:=HE3.out;show ¬ (3≤r1);omega) HJ.out HE5.out (t:=(({ s with allocs:=s.allocs.set k ⟨y0,y1,y2,y3,y4,y5,y6,⟨y7,y8⟩,y9,r1⟩ }:Aa).Bf A2 c2 l2).data) HD5.out (q:=_) HTD2.out;exact h9),⟨rfl,rfl,rfl,List.length_set,rfl,hlen⟩,hst8.m0 hdq⟩⟩
     | true =>
      cases e7:(d1 == y2) with
      | false =>
       have HTD2:=Lib.hid (HTD.out.trans (show s.deploys.set m (if (d2 == 1 && d1 == y2) then _ else (⟨d0,d1,d2,d3⟩ : DepD))=s.deploys by rw [show (d2 == 1 && d1 == y2)=false by rw [e6,e7];rfl];simp only [Bool.false_eq_true,if_false];exact set_self HXM.out))
       go_quiet (fail)
       have hdq:=(Ext.refl Nothing w7).drewN nq
       generalize w7.drewN nq=w8 at hdq ⊢
       go_wp2
       (first|go_end0|((try simp only [Exit.inBlock,Exit.then]);refine bodyPost_ret (results_none rfl _ _ _) rfl ?_))
       exact ⟨⟨(({ s with allocs:=s.allocs.set k ⟨y0,y1,y2,y3,y4,y5,y6,⟨y7,y8⟩,y9,r1⟩ }:Aa).Bf A2 c2 l2),cm,rfl,hM7.e0 hdq,(by have h9:=Fsm.H6 (n:=n) (z:=(s.data,cm)) (r:=(r0,r1)) HFD.out HTK.out HT.out (by have h9:=HE3.out;show ¬ (3≤r1);omega) HJ.out HE5.out (t:=(({ s with allocs:=s.allocs.set k ⟨y0,y1,y2,y3,y4,y5,y6,⟨y7,y8⟩,y9,r1⟩ }:Aa).Bf A2 c2 l2).data) HD5.out (q:=_) HTD2.out;exact h9),⟨rfl,rfl,rfl,List.length_set,rfl,hlen⟩,hst8.m0 hdq⟩⟩
      | true =>
       have HTD2:=Lib.hid (HTD.out.trans (show s.deploys.set m (if (d2 == 1 && d1 == y2) then (⟨d0,d1,d2,s.index⟩ : DepD) else _)=s.deploys.set m ⟨d0,d1,d2,s.index⟩ by rw [show (d2 == 1 && d1 == y2)=true by rw [e6,e7];rfl];rfl))
       go_quiet (fail)
       have hdq:=(Ext.refl Nothing w7).drewN nq
       generalize w7.drewN nq=w8 at hdq ⊢
       go_upto_region 14 with (first|go_skip)
       have m7:=hdq.c0 m7
       have hM8:=hM7.e0 hdq
       have hst9:=hst8.m0 hdq
       have m9:w8.cell? ⟨b,9,none⟩=some (.int .i64 s.index):=hM8.blk.cell 9
       clear q1 q2 f2 hgbd
       have hd:Ext Nothing w8 w8.drew:=(Ext.refl _ _).drew
       obtain ⟨csd,hBd⟩:=CY hM8.own.d hobd
       have hbg:¬ (b=gd):=fun e=>Blk.ne hM8.blk hBd (by decide) e
       refine zS (S:=fun W'=>Ext (fun q=>q=gd) w8 W') (by kernel_rfl) ?_
       have hS:=hd.any (S:=fun q=>q=gd)
       generalize w8.drew=Wd at hd hS ⊢
       refine zV 0 (.pointer (some ⟨b,0,none⟩)) rfl (by kernel_rfl) hS (fun _ _ _ h=>h) (fun W' hS'=>by go_simp) ?_
       refine zV 1 (.pointer (some ⟨b,0,none⟩)) rfl (by kernel_rfl) hS (fun _ _ _ h=>h) (fun W' hS'=>by go_simp) ?_
       refine zV 2 (.pointer (some ⟨b,0,none⟩)) rfl (by kernel_rfl) hS (fun _ _ _ h=>h) (fun W' hS'=>by go_simp) ?_
       refine zV 3 (.pointer (some ⟨b,7,none⟩)) rfl (by kernel_rfl) hS (fun _ _ _ h=>h) (fun W' hS'=>by go_simp) ?_
       refine zV 4 (.slice (some ⟨gd,0,none⟩) s.nD s.cD) rfl (by kernel_rfl) hS (fun _ _ _ h=>h) (fun W' hS'=>by have q:=hS'.cell m7 hbg;go_simp) ?_
       refine zV 5 (.int .i64 (m:Int)) rfl (by kernel_rfl) hS (fun _ _ _ h=>h) (fun W' hS'=>by go_simp) ?_
       refine zV 6 (.pointer (some ⟨b,0,none⟩)) rfl (by kernel_rfl) hS (fun _ _ _ h=>h) (fun W' hS'=>by go_simp) ?_
       refine zV 7 (.pointer (some ⟨b,0,none⟩)) rfl (by kernel_rfl) hS (fun _ _ _ h=>h) (fun W' hS'=>by go_simp) ?_
       refine zV 8 (.pointer (some ⟨b,9,none⟩)) rfl (by kernel_rfl) hS (fun _ _ _ h=>h) (fun W' hS'=>by go_simp) ?_
       refine zV 9 (.int .i64 s.index) rfl (by kernel_rfl) hS (fun _ _ _ h=>h) (fun W' hS'=>by have q:=hS'.cell m9 hbg;go_simp) ?_
       refine zV 10 (.pointer (some ⟨gd,m*4,none⟩)) rfl (by kernel_rfl) hS (fun _ _ _ h=>h) (fun W' hS'=>by go_simp) ?_
       refine zV 11 (.pointer (some ⟨gd,m*4+3,none⟩)) rfl (by kernel_rfl) hS (fun _ _ _ h=>h) (fun W' hS'=>by go_simp) ?_
       (try simp only [Act.put,zA,zB,zC,zD,zE,zF])
       refine zO 12 (by kernel_rfl) ?_
       have hMd:=hM8.e0 hd
       obtain ⟨gd2,curd2,hAd2,hobd2,hgbd2,_,hced2,hputd2⟩:=hMd.own.Js HXM.out
       have hgd:gd=gd2:=by have h7:s.AD=some ⟨gd2,0,none⟩:=hAd2;rw [HAD.out] at h7;injection h7 with h7;injection h7
       subst hgd
       clear hAd2
       have k3:Wd.cell? ⟨gd,m*4+3,none⟩=some (.int .i64 d3):=hced2 3 _ rfl
       have f3:Wd.frozen? ⟨gd,m*4+3,none⟩=false:=hgbd2.frozen _
       have hs4:Ext (fun q=>q=gd) Wd (Wd.setCell ⟨gd,m*4+3,none⟩ (.int .i64 s.index)):=Ext.set1 _ _ _ _
       refine AC (w':=(Wd.setCell ⟨gd,m*4+3,none⟩ (.int .i64 s.index))) rfl (by rfl) (by go_simp) ⟨hS.trans hs4 (fun q hq e=>e),?_⟩
       (try simp only [Act.put,zA,zB,zC,zD,zE,zF])
       refine wpAnyH_done (by kernel_rfl) ?_ _
       (try simp only [Act.put,zA,zB,zC,zD,zE,zF])
       have hO9:Aw base (Wd.setCell ⟨gd,m*4+3,none⟩ (.int .i64 s.index)) ({ (({ s with allocs:=s.allocs.set k ⟨y0,y1,y2,y3,y4,y5,y6,⟨y7,y8⟩,y9,r1⟩ }:Aa).Bf A2 c2 l2) with deploys:=s.deploys.set m ⟨d0,d1,d2,s.index⟩ }:Aa):=hputd2 3 (.int .i64 s.index) ⟨d0,d1,d2,s.index⟩ (by decide) rfl
       have hM9:Az base (Wd.setCell ⟨gd,m*4+3,none⟩ (.int .i64 s.index)) b ({ (({ s with allocs:=s.allocs.set k ⟨y0,y1,y2,y3,y4,y5,y6,⟨y7,y8⟩,y9,r1⟩ }:Aa).Bf A2 c2 l2) with deploys:=s.deploys.set m ⟨d0,d1,d2,s.index⟩ }:Aa) cm:=⟨hMd.blk.ext hs4 hbg,hO9,hMd.lo⟩
       have hstz:Step w (Wd.setCell ⟨gd,m*4+3,none⟩ (.int .i64 s.index)) b s ({ (({ s with allocs:=s.allocs.set k ⟨y0,y1,y2,y3,y4,y5,y6,⟨y7,y8⟩,y9,r1⟩ }:Aa).Bf A2 c2 l2) with deploys:=s.deploys.set m ⟨d0,d1,d2,s.index⟩ }:Aa):=(hst9.m0 hd).cell (s2:=({ (({ s with allocs:=s.allocs.set k ⟨y0,y1,y2,y3,y4,y5,y6,⟨y7,y8⟩,y9,r1⟩ }:Aa).Bf A2 c2 l2) with deploys:=s.deploys.set m ⟨d0,d1,d2,s.index⟩ }:Aa)) (MW.oD (s:=(({ s with allocs:=s.allocs.set k ⟨y0,y1,y2,y3,y4,y5,y6,⟨y7,y8⟩,y9,r1⟩ }:Aa).Bf A2 c2 l2)) hobd2) (fun q hq=>hq) _
       go_wp2
       (first|go_end0|((try simp only [Exit.inBlock,Exit.then]);refine bodyPost_ret (results_none rfl _ _ _) rfl ?_))
       exact ⟨⟨({ (({ s with allocs:=s.allocs.set k ⟨y0,y1,y2,y3,y4,y5,y6,⟨y7,y8⟩,y9,r1⟩ }:Aa).Bf A2 c2 l2) with deploys:=s.deploys.set m ⟨d0,d1,d2,s.index⟩ }:Aa),cm,rfl,hM9,(by have h9:=Fsm.H6 (n:=n) (z:=(s.data,cm)) (r:=(r0,r1)) HFD.out HTK.out HT.out (by have h9:=HE3.out;show ¬ (3≤r1);omega) HJ.out HE5.out (t:=(({ s with allocs:=s.allocs.set k ⟨y0,y1,y2,y3,y4,y5,y6,⟨y7,y8⟩,y9,r1⟩ }:Aa).Bf A2 c2 l2).data) HD5.out (q:=_) HTD2.out;exact h9),⟨rfl,rfl,rfl,List.length_set,List.length_set,hlen⟩,hstz⟩⟩
end Go.Proofs.YtccekmeifanipaaGreat
