/- Parts of the proof: MReg -/
import Derived.Test.YtccekmeifanipaaGreatT16
import Derived.Test.YtccekmeifanipaaGreatT13
import Derived.Test.YtccekmeifanipaaGreatT12
namespace Go.Proofs.YtccekmeifanipaaGreat
set_option linter.unusedVariables false
set_option linter.unusedSimpArgs false
set_option linter.unusedSectionVars false
open Go.RowKit
theorem DY:Bb Tryz.prog 41 2:=.of (by kernel_rfl)
theorem E9 {P:Program} {ops:Array Oper} {Q:Exit→Act→World→Prop} {i:Nat} {o:Oper} {a:Act} {w:World} {K:Act→World→Prop} {t ty:TypeId} {sz g off:Nat} {x y:Operand} {cs0 cs:Array Value} (hi:ops[i]? = some o) (hw:Region.wanted o (yielded ops a.tmps)=true) (ho:o.op=.store ty x y)
  (E:Bb P ty sz) (hp:a.eval x=.pointer (some ⟨g,off,none⟩)) (hx:a.eval y=.agg cs) (hB:Blk w g t cs0) (h0:off+sz≤cs0.size) (hcs:cs.size=sz) (h1:cs.toList.all Value.oneCell' = true)
  (h:∀ w',Blk w' g t (cs0.toList.take off ++ cs.toList ++ cs0.toList.drop (off+sz)).toArray→Ext (fun q=>q=g) w w'→K (a.put o.dst undef) w'):wpOp P ops Q i K a w:=by
 obtain ⟨w',hr,h2,h3⟩:=FD hB h0 E hcs h1
 exact AC hi hw (Dy ho hp hx hr) (h w' h2 h3)
set_option maxRecDepth 20000 in
set_option maxHeartbeats 8000000 in
theorem NJ (base b:Nat) (s:Aa) (c:Bl) (w:World) (hM:Az base w b s false) (hb:base≤w.heap.size) (hJ:s.jobs.length≤1048576) (hN:s.nodes.length≤1048575) (hA:s.allocs.length≤1048576) (hE:s.evals.length≤16777216) (hw:Fsm.Wf s.data) :
  Calls Tryz.prog 52 #[.pointer (some ⟨b,0,none⟩),.agg c.arr] w fun e w'=>∃ s' cm' r,e=.returned (.agg (Au r.code r.value))∧Az base w' b s' cm'∧Fsm.register s.data c.d=((if cm' then Fsm.came s'.data else s'.data),r)∧r.allocs=[]∧Step w w' b s s':=by
 have hnl:=Lib.hid hM.own.nl
 have hnN:s.nN≤67108864:=by have:=hM.own.nl;omega
 cases hok:Fsm.DL c.node with
 | false =>
  have HF:=Lib.hid (show Fsm.register s.data c.d=(s.data,⟨31,0,[]⟩) by unfold Fsm.register;rw [show Fsm.DL c.d.node=false from hok];rfl)
  have HER:=Lib.hid (show Dh c.node=31 from Et hok)
  clear hok
  obtain ⟨hxW,hCW,hRW⟩:=cmd0 w c
  have hzW:=hxW.size
  have hMW:=hM.e0 hxW
  go_enter Tryz.func52,Tryz.ntmps52
  go_upto_region 1 with (first|go_skip|go_guarded)
  generalize hC:w.heap.size=C at hCW hRW hzW ⊢
  have HC:=Lib.hid hC
  clear hC
  generalize ((w.alloc (.cells c.arr 51)).alloc (.cells #[.int .i64 0,.int .i64 0,.slice none 0 0] 34))=W at hxW hCW hRW hzW hMW ⊢
  have hcn:∀ j u,c.EN.toList[j]? = some u→W.cell? ⟨C,10+j,none⟩=some u:=fun j u hu=>by rw [hCW.cell];exact c.Ha j u hu
  go_upto_region 3 with (first|go_skip|((with_reducible refine isW ?_);refine Ad rfl 43 _ rfl Bz C 10 rfl c.EN hcn rfl ?_)|(go_at_call 65;(with_reducible refine (Lm c.node W).mono ?_);rintro e w1 ⟨rfl,hx1⟩;(rw [HER.out])))
  have hM1:=hMW.e0 hx1
  have hR1:=hRW.e0 hx1
  have hst:=Step.of0 (b:=b) (s:=s) (hxW.tr hx1)
  go_wp2_with (first|go_skip|go_guarded|(go_at_call 31;(with_reducible refine (mNo 31 w1).mono ?_);rintro e w8 ⟨rfl,hx8⟩;have hR8:=hR1.e0 hx8)|((with_reducible refine isW ?_);refine Af rfl 34 _ _ rfl STResult (C+1) rfl (Au 31 0) rfl hR8 rfl rfl rfl ?_;intro w9 hR9 hx9))
  have hb9:=(hM1.e0 hx8).blk.lt
  exact bodyPost_ret (results_cell rfl STResult (g:=C+1) rfl hR9 rfl) rfl ⟨s,false,⟨31,0,[]⟩,rfl,(hM1.e0 hx8).keep hx9 (fun e=>Blk.ne (hM1.e0 hx8).blk hR8 (by decide) e) (Apart.one hR8 (by decide)),HF.out,rfl,(hst.m0 hx8).fresh hx9 (fun q e=>by have:=HC.out;have:q=C+1:=e;omega)⟩
 | true =>
  have HER:=Lib.hid (show Dh c.node=0 from IX hok)
  have HOK:=Lib.hid hok
  clear hok
  obtain ⟨hxW,hCW,hRW⟩:=cmd0 w c
  have hzW:=hxW.size
  have hMW:=hM.e0 hxW
  go_enter Tryz.func52,Tryz.ntmps52
  go_upto_region 1 with (first|go_skip|go_guarded)
  generalize hC:w.heap.size=C at hCW hRW hzW ⊢
  have HC:=Lib.hid hC
  clear hC
  generalize ((w.alloc (.cells c.arr 51)).alloc (.cells #[.int .i64 0,.int .i64 0,.slice none 0 0] 34))=W at hxW hCW hRW hzW hMW ⊢
  have hcn:∀ j u,c.EN.toList[j]? = some u→W.cell? ⟨C,10+j,none⟩=some u:=fun j u hu=>by rw [hCW.cell];exact c.Ha j u hu
  go_upto_region 5 with (first|go_skip|((with_reducible refine isW ?_);refine Ad rfl 43 _ rfl Bz C 10 rfl c.EN hcn rfl ?_)|(go_at_call 65;(with_reducible refine (Lm c.node W).mono ?_);rintro e w1 ⟨rfl,hx1⟩;(rw [HER.out]);have c10:w1.cell? ⟨C,10,none⟩=some (.int .i64 c.node.id):=(hCW.e0 hx1).cell 10))
  have hJj:Blk (w1.alloc (.cells #[.int .i64 c.node.id,.int .i64 0,.int .i64 0,.bool false,.bool false,.int .i64 0,.int .i64 0,.int .i64 0] 43)) w1.heap.size 43 #[.int .i64 c.node.id,.int .i64 0,.int .i64 0,.bool false,.bool false,.int .i64 0,.int .i64 0,.int .i64 0]:=Blk.new _ _ _
  have hxj1:Ext Nothing w1 (w1.alloc (.cells #[.int .i64 c.node.id,.int .i64 0,.int .i64 0,.bool false,.bool false,.int .i64 0,.int .i64 0,.int .i64 0] 43)):=Ext.Ay
  have hxj:Ext Nothing w (w1.alloc (.cells #[.int .i64 c.node.id,.int .i64 0,.int .i64 0,.bool false,.bool false,.int .i64 0,.int .i64 0,.int .i64 0] 43)):=(hxW.tr hx1).tr hxj1
  have hMj:=(hMW.e0 hx1).e0 hxj1
  have hRj:=(hRW.e0 hx1).e0 hxj1
  have hCj:=(hCW.e0 hx1).e0 hxj1
  have hz1:C+1 < w1.heap.size:=(hRW.e0 hx1).lt
  clear hcn c10 hxj1
  generalize w1.heap.size=J at hJj hz1 ⊢
  generalize (w1.alloc (.cells #[.int .i64 c.node.id,.int .i64 0,.int .i64 0,.bool false,.bool false,.int .i64 0,.int .i64 0,.int .i64 0] 43))=wj at hJj hxj hMj hRj hCj ⊢
  have hsl:=hMj.own.slN
  rcases AV (fun x:NodD=>x.id == c.node.id) s.nodes with ⟨hi,hf,_⟩|⟨i,x,hi,hxi,hp,hf,_⟩
  ·have HFR:=Lib.hid (show Fsm.register s.data c.d=(Fsm.joins s.data ⟨c.node.id,c.node.cap,true,false,c.node.boot,1,0⟩,⟨0,1,[]⟩) by unfold Fsm.register;rw [show Fsm.DL c.d.node=true from HOK.out,show Fsm.nodeAt s.data c.d.node.id=none from hf];rfl)
   have HI:=Lib.hid hi
   clear hi hf
   have ck:wj.cell? ⟨J,0,none⟩=some (.int .i64 c.node.id):=hJj.cell 0
   have hd:Ext Nothing wj wj.drew:=(Ext.refl _ _).drew
   refine zS (S:=fun W'=>Ext Nothing wj W') (by kernel_rfl) ?_
   generalize wj.drew=Wd at hd ⊢
   refine zV 0 (.pointer (some ⟨b,0,none⟩)) rfl (by kernel_rfl) hd (fun _ _ _ h=>h) (fun W' hS'=>by go_simp) ?_
   refine zV 1 (.pointer (some ⟨b,0,none⟩)) rfl (by kernel_rfl) hd (fun _ _ _ h=>h) (fun W' hS'=>by go_simp) ?_
   refine zV 2 (.pointer (some ⟨b,0,none⟩)) rfl (by kernel_rfl) hd (fun _ _ _ h=>h) (fun W' hS'=>by go_simp) ?_
   refine zV 3 (.agg s.arr) rfl (by kernel_rfl) hd (fun _ _ _ h=>h) (fun W' hS'=>by exact run_load_struct (sz:=9) (b:=b) (off:=0) rfl Aj (by go_simp) (fun j u hu=>hS'.c0 (hMj.at j u hu)) rfl) ?_
   refine zV 4 (.pointer (some ⟨J,0,none⟩)) rfl (by kernel_rfl) hd (fun _ _ _ h=>h) (fun W' hS'=>by go_simp) ?_
   refine zV 5 (.int .i64 c.node.id) rfl (by kernel_rfl) hd (fun _ _ _ h=>h) (fun W' hS'=>by have q:=hS'.c0 ck;go_simp) ?_
   (try simp only [Act.put,zA,zB,zC,zD,zE,zF])
   refine zO 6 (by kernel_rfl) ?_
   refine Ai (f:=66) (args:=#[.agg s.arr,.int .i64 c.node.id]) rfl (by rfl) (by go_simp) ((Dq s.AN s.nN s.cN s.nodes c.node.id Wd (hsl.Al hd) hnN _ _ _ _ _ _ _ _ _ rfl).mono ?_)
   rintro e w4 ⟨rfl,hx1⟩
   (rw [HI.out])
   have hxc:=hd.tr hx1
   refine ⟨_,rfl,hxc,?_⟩
   (try simp only [Act.put,zA,zB,zC,zD,zE,zF])
   refine zV 7 (.int .i64 (-1)) rfl (by kernel_rfl) hxc (fun _ _ _ h=>h) (fun W' hS'=>by go_simp) ?_
   (try simp only [Act.put,zA,zB,zC,zD,zE,zF])
   refine wpAnyH_done (by kernel_rfl) ?_ _
   (try simp only [Act.put,zA,zB,zC,zD,zE,zF])
   clear hd hx1
   have hM4:=hMj.e0 hxc
   have hR4:=hRj.e0 hxc
   have hJ4:=hJj.e0 hxc
   have hC4:=hCj.e0 hxc
   have hx4:=hxj.tr hxc
   clear hxc ck
   go_upto_region 12 with (first|go_skip|go_guarded)
   have hnqJ:¬ MW s b J:=fun e=>by have:=hM.FL e;have:=HC.out;omega
   have hnR:¬ MW s b (C+1):=hM4.Cn hR4 (by decide)
   have hCJ:¬ (C=J):=by omega
   have hRJ:¬ (C+1=J):=by omega
   have hd:Ext Nothing w4 w4.drew:=(Ext.refl _ _).drew
   have c15:w4.cell? ⟨C,15,none⟩=some (.int .i64 c.node.boot):=hC4.cell 15
   have c11:∀ j u,(#[Value.int .i64 c.node.cap.cpu,.int .i64 c.node.cap.mem]:Array Value).toList[j]? = some u→w4.cell? ⟨C,11+j,none⟩=some u:=fun j u hu=>by rw [hC4.cell];match j,hu with|0,hu=>exact hu|1,hu=>exact hu|(k+2),hu=>simp at hu
   refine zS (S:=fun W'=>Ext (fun q=>q=J) w4 W') (by kernel_rfl) ?_
   have hS:=hd.any (S:=fun q=>q=J)
   have hJd:=hJ4.e0 hd
   generalize w4.drew=Wd at hd hS hJd ⊢
   refine zV 0 (.pointer (some ⟨C,10,none⟩)) rfl (by kernel_rfl) hS (fun _ _ _ h=>h) (fun W' hS'=>by go_simp) ?_
   refine zV 1 (.pointer (some ⟨C,11,none⟩)) rfl (by kernel_rfl) hS (fun _ _ _ h=>h) (fun W' hS'=>by go_simp) ?_
   refine zV 2 (.agg #[.int .i64 c.node.cap.cpu,.int .i64 c.node.cap.mem]) rfl (by kernel_rfl) hS (fun _ _ _ h=>h) (fun W' hS'=>by exact run_load_struct (sz:=2) (b:=C) (off:=11) rfl DY (by go_simp) (fun j u hu=>hS'.cell (c11 j u hu) hCJ) rfl) ?_
   refine zV 3 (.pointer (some ⟨C,10,none⟩)) rfl (by kernel_rfl) hS (fun _ _ _ h=>h) (fun W' hS'=>by go_simp) ?_
   refine zV 4 (.pointer (some ⟨C,15,none⟩)) rfl (by kernel_rfl) hS (fun _ _ _ h=>h) (fun W' hS'=>by go_simp) ?_
   refine zV 5 (.int .i64 c.node.boot) rfl (by kernel_rfl) hS (fun _ _ _ h=>h) (fun W' hS'=>by have q:=hS'.cell c15 hCJ;go_simp) ?_
   refine zV 6 (.pointer (some ⟨J,1,none⟩)) rfl (by kernel_rfl) hS (fun _ _ _ h=>h) (fun W' hS'=>by go_simp) ?_
   (try simp only [Act.put,zA,zB,zC,zD,zE,zF])
   refine zO 7 (by kernel_rfl) ?_
   refine E9 (g:=J) (off:=1) (cs:=#[.int .i64 c.node.cap.cpu,.int .i64 c.node.cap.mem]) rfl (by rfl) rfl DY (by go_simp) (by go_simp) hJd (show 1+2≤8 by decide) rfl rfl (fun w5 hJ5 hx5=>?_)
   replace hJ5:Blk w5 J 43 #[.int .i64 c.node.id,.int .i64 c.node.cap.cpu,.int .i64 c.node.cap.mem,.bool false,.bool false,.int .i64 0,.int .i64 0,.int .i64 0]:=hJ5
   have hS5:=hS.tr hx5
   refine ⟨hS5,?_⟩
   (try simp only [Act.put,zA,zB,zC,zD,zE,zF])
   refine zV 8 (.pointer (some ⟨J,5,none⟩)) rfl (by kernel_rfl) hS5 (fun _ _ _ h=>h) (fun W' hS'=>by go_simp) ?_
   (try simp only [Act.put,zA,zB,zC,zD,zE,zF])
   refine zO 9 (by kernel_rfl) ?_
   have q9:w5.cell? ⟨J,5,none⟩=some (.int .i64 0):=(hJ5).cell 5
   have p9:w5.frozen? ⟨J,5,none⟩=false:=(hJ5).frozen 5
   have hS9:=hS5.setCell (p:=⟨J,5,none⟩) (.inr rfl) (.int .i64 c.node.boot)
   refine AC (w':=(w5.setCell ⟨J,5,none⟩ (.int .i64 c.node.boot))) rfl (by rfl) (by go_simp) ⟨hS9,?_⟩
   (try simp only [Act.put,zA,zB,zC,zD,zE,zF])
   clear q9 p9
   refine zV 10 (.pointer (some ⟨J,3,none⟩)) rfl (by kernel_rfl) hS9 (fun _ _ _ h=>h) (fun W' hS'=>by go_simp) ?_
   (try simp only [Act.put,zA,zB,zC,zD,zE,zF])
   refine zO 11 (by kernel_rfl) ?_
   have q11:(w5.setCell ⟨J,5,none⟩ (.int .i64 c.node.boot)).cell? ⟨J,3,none⟩=some (.bool false):=((hJ5.Bi 5 (.int .i64 c.node.boot))).cell 3
   have p11:(w5.setCell ⟨J,5,none⟩ (.int .i64 c.node.boot)).frozen? ⟨J,3,none⟩=false:=((hJ5.Bi 5 (.int .i64 c.node.boot))).frozen 3
   have hS11:=hS9.setCell (p:=⟨J,3,none⟩) (.inr rfl) (.bool true)
   refine AC (w':=((w5.setCell ⟨J,5,none⟩ (.int .i64 c.node.boot)).setCell ⟨J,3,none⟩ (.bool true))) rfl (by rfl) (by go_simp) ⟨hS11,?_⟩
   (try simp only [Act.put,zA,zB,zC,zD,zE,zF])
   clear q11 p11
   refine zV 12 (.pointer (some ⟨J,7,none⟩)) rfl (by kernel_rfl) hS11 (fun _ _ _ h=>h) (fun W' hS'=>by go_simp) ?_
   (try simp only [Act.put,zA,zB,zC,zD,zE,zF])
   refine zO 13 (by kernel_rfl) ?_
   have q13:((w5.setCell ⟨J,5,none⟩ (.int .i64 c.node.boot)).setCell ⟨J,3,none⟩ (.bool true)).cell? ⟨J,7,none⟩=some (.int .i64 0):=(((hJ5.Bi 5 (.int .i64 c.node.boot)).Bi 3 (.bool true))).cell 7
   have p13:((w5.setCell ⟨J,5,none⟩ (.int .i64 c.node.boot)).setCell ⟨J,3,none⟩ (.bool true)).frozen? ⟨J,7,none⟩=false:=(((hJ5.Bi 5 (.int .i64 c.node.boot)).Bi 3 (.bool true))).frozen 7
   have hS13:=hS11.setCell (p:=⟨J,7,none⟩) (.inr rfl) (.int .i64 0)
   refine AC (w':=(((w5.setCell ⟨J,5,none⟩ (.int .i64 c.node.boot)).setCell ⟨J,3,none⟩ (.bool true)).setCell ⟨J,7,none⟩ (.int .i64 0))) rfl (by rfl) (by go_simp) ⟨hS13,?_⟩
   (try simp only [Act.put,zA,zB,zC,zD,zE,zF])
   clear q13 p13
   have hJ6:Blk (((w5.setCell ⟨J,5,none⟩ (.int .i64 c.node.boot)).setCell ⟨J,3,none⟩ (.bool true)).setCell ⟨J,7,none⟩ (.int .i64 0)) J 43 #[.int .i64 c.node.id,.int .i64 c.node.cap.cpu,.int .i64 c.node.cap.mem,.bool true,.bool false,.int .i64 c.node.boot,.int .i64 0,.int .i64 0]:=(((hJ5.Bi 5 (.int .i64 c.node.boot)).Bi 3 (.bool true)).Bi 7 (.int .i64 0))
   refine wpAnyH_done (by kernel_rfl) ?_ _
   (try simp only [Act.put,zA,zB,zC,zD,zE,zF])
   generalize (((w5.setCell ⟨J,5,none⟩ (.int .i64 c.node.boot)).setCell ⟨J,3,none⟩ (.bool true)).setCell ⟨J,7,none⟩ (.int .i64 0))=w6 at hJ6 hS13 ⊢
   have q6:w6.cell? ⟨J,6,none⟩=some (.int .i64 0):=hJ6.cell 6
   have f6:w6.frozen? ⟨J,6,none⟩=false:=hJ6.frozen 6
   go_upto_region 14 with (first|go_skip|go_guarded)
   have hS14:=hS13.setCell (p:=⟨J,6,none⟩) (.inr rfl) (.int .i64 1)
   have hJ7:Blk (w6.setCell ⟨J,6,none⟩ (.int .i64 1)) J 43 #[.int .i64 c.node.id,.int .i64 c.node.cap.cpu,.int .i64 c.node.cap.mem,.bool true,.bool false,.int .i64 c.node.boot,.int .i64 1,.int .i64 0]:=hJ6.Bi 6 _
   have hR7:=hR4.ext hS14 hRJ
   have hx7:Ext Nothing w (w6.setCell ⟨J,6,none⟩ (.int .i64 1)):=hx4.trans hS14 (fun q hq e=>absurd (show q=J from e) (by have:=HC.out;omega))
   have hM7:=hM.e0 hx7
   have hz7:=hx7.size
   clear q6 f6 hS hS5 hS9 hS11 hS13 hJ5 hJ6 hJd c15 c11 hd
   generalize (w6.setCell ⟨J,6,none⟩ (.int .i64 1))=w7 at hS14 hJ7 hR7 hx7 hM7 hz7 ⊢
   have hln:=Lib.hid hM.own.nl
   have hbl:=hM7.blk.lt
   have hoe:=hM7.own.n
   rw [hln.out] at hoe
   have hd:Ext Nothing w7 w7.drew:=(Ext.refl _ _).drew
   refine zS (S:=fun W'=>Ext (fun q=>q=b ∨ (Value.slice s.AN s.nodes.length s.cN).ownBlock=some q) w7 W') (by kernel_rfl) ?_
   have hS:=hd.any (S:=fun q=>q=b ∨ (Value.slice s.AN s.nodes.length s.cN).ownBlock=some q)
   generalize w7.drew=W at hd hS ⊢
   have hMW:=hM7.e0 hd
   have hoW:=Am hoe hd (fun _ _ e=>e)
   have hdw:=hd.size
   refine zV 0 (.pointer (some ⟨b,0,none⟩)) rfl (by kernel_rfl) hS (fun _ _ _ h=>h) (fun W' hS'=>by go_simp) ?_
   refine zV 1 (.pointer (some ⟨b,0,none⟩)) rfl (by kernel_rfl) hS (fun _ _ _ h=>h) (fun W' hS'=>by go_simp) ?_
   refine zV 2 (.pointer (some ⟨b,0,none⟩)) rfl (by kernel_rfl) hS (fun _ _ _ h=>h) (fun W' hS'=>by go_simp) ?_
   refine zV 3 (.pointer (some ⟨b,0,none⟩)) rfl (by kernel_rfl) hS (fun _ _ _ h=>h) (fun W' hS'=>by go_simp) ?_
   refine zV 4 (.pointer (some ⟨b,4,none⟩)) rfl (by kernel_rfl) hS (fun _ _ _ h=>h) (fun W' hS'=>by go_simp) ?_
   refine zV 6 (.agg #[.int .i64 c.node.id,.int .i64 c.node.cap.cpu,.int .i64 c.node.cap.mem,.bool true,.bool false,.int .i64 c.node.boot,.int .i64 1,.int .i64 0]) rfl (by kernel_rfl) hS (fun _ _ _ h=>h) (fun W' hS'=>by exact AB rfl Bz (by go_simp) (hJ7.ext hS' (fun e=>e.elim (fun e=>hnqJ (.inl e)) (fun e=>hnqJ (MW.oN (by exact e))))) rfl) ?_
   (try simp only [Act.put,zA,zB,zC,zD,zE,zF])
   refine zO 5 (by kernel_rfl) ?_
   refine wpOp_val (v:=.slice s.AN s.nodes.length s.cN) (w':=W) rfl (by rfl) (by rw [← hln.out];have q6:=hMW.blk.cell 4;go_simp) ⟨hS,?_⟩
   (try simp only [Act.put,zA,zB,zC,zD,zE,zF])
   refine zO 7 (by kernel_rfl) ?_
   refine Ai (f:=67) (args:=#[.slice s.AN s.nodes.length s.cN,.agg #[.int .i64 c.node.id,.int .i64 c.node.cap.cpu,.int .i64 c.node.cap.mem,.bool true,.bool false,.int .i64 c.node.boot,.int .i64 1,.int .i64 0],.func (.func 68) #[] #[]]) rfl (by rfl) (by go_simp) ((MP base s.AN s.cN s.nodes (⟨c.node.id,⟨c.node.cap.cpu,c.node.cap.mem⟩,true,false,c.node.boot,1,0⟩ : NodD) W hoW (by omega) (by omega) hw.n).mono ?_)
   rintro e w3 ⟨A',c',rfl,ho3,hq3,hx3⟩
   have hnb:¬ ((Value.slice s.AN s.nodes.length s.cN).ownBlock=some b):=fun e=>own_ne hoW hMW.blk (by decide) e
   have hS3:=hS.trans hx3 (fun q hq e=>.inr e)
   refine ⟨_,rfl,hS3,?_⟩
   (try simp only [Act.put,zA,zB,zC,zD,zE,zF])
   refine zV 8 (.pointer (some ⟨b,0,none⟩)) rfl (by kernel_rfl) hS3 (fun _ _ _ h=>h) (fun W' hS'=>by go_simp) ?_
   refine zV 9 (.pointer (some ⟨b,0,none⟩)) rfl (by kernel_rfl) hS3 (fun _ _ _ h=>h) (fun W' hS'=>by go_simp) ?_
   refine zV 10 (.pointer (some ⟨b,4,none⟩)) rfl (by kernel_rfl) hS3 (fun _ _ _ h=>h) (fun W' hS'=>by go_simp) ?_
   (try simp only [Act.put,zA,zB,zC,zD,zE,zF])
   refine zO 11 (by kernel_rfl) ?_
   have hB3:=hMW.blk.ext hx3 hnb
   have m6:w3.cell? ⟨b,4,none⟩=some (.slice s.AN s.nN s.cN):=hB3.cell 4
   have m6f:w3.frozen? ⟨b,4,none⟩=false:=hB3.frozen 4
   have hs6:Ext (fun q=>q=b) w3 (w3.setCell ⟨b,4,none⟩ (.slice A' (Fsm.Ak NodD.id (⟨c.node.id,⟨c.node.cap.cpu,c.node.cap.mem⟩,true,false,c.node.boot,1,0⟩ : NodD) s.nodes).length c')):=Ext.set1 _ _ _ _
   refine AC (w':=w3.setCell ⟨b,4,none⟩ (.slice A' (Fsm.Ak NodD.id (⟨c.node.id,⟨c.node.cap.cpu,c.node.cap.mem⟩,true,false,c.node.boot,1,0⟩ : NodD) s.nodes).length c')) rfl (by rfl) (by go_simp) ⟨hS3.trans hs6 (fun q hq e=>.inl e),?_⟩
   (try simp only [Act.put,zA,zB,zC,zD,zE,zF])
   refine wpAnyH_done (by kernel_rfl) ?_ _
   (try simp only [Act.put,zA,zB,zC,zD,zE,zF])
   have hO3:Aw base w3 (s.BP A' c' (Fsm.Ak NodD.id (⟨c.node.id,⟨c.node.cap.cpu,c.node.cap.mem⟩,true,false,c.node.boot,1,0⟩ : NodD) s.nodes)):=hMW.own.wN hx3 (Apart.row hoW (by decide)) ho3
   have hM5:Az base (w3.setCell ⟨b,4,none⟩ (.slice A' (Fsm.Ak NodD.id (⟨c.node.id,⟨c.node.cap.cpu,c.node.cap.mem⟩,true,false,c.node.boot,1,0⟩ : NodD) s.nodes).length c')) b (s.BP A' c' (Fsm.Ak NodD.id (⟨c.node.id,⟨c.node.cap.cpu,c.node.cap.mem⟩,true,false,c.node.boot,1,0⟩ : NodD) s.nodes)) false:=⟨hB3.Bi 4 _,hO3.keep hs6 (Apart.one hB3 (by decide)),hMW.lo⟩
   have hx5:Step w7 (w3.setCell ⟨b,4,none⟩ (.slice A' (Fsm.Ak NodD.id (⟨c.node.id,⟨c.node.cap.cpu,c.node.cap.mem⟩,true,false,c.node.boot,1,0⟩ : NodD) s.nodes).length c')) b s (s.BP A' c' (Fsm.Ak NodD.id (⟨c.node.id,⟨c.node.cap.cpu,c.node.cap.mem⟩,true,false,c.node.boot,1,0⟩ : NodD) s.nodes)):=((Step.of0 hd).put hx3 (fun q hq=>MW.oN (s:=s) hq) (MW.BP (s:=s) hq3)).cell (.inl rfl) (fun q hq=>hq) _
   have hJ9:=(((hJ7.e0 hd).ext hx3 (fun e=>hnqJ (MW.oN e))).ext hs6 (fun e=>hnqJ (.inl e)))
   have hR9:=(((hR7.e0 hd).ext hx3 (fun e=>hnR (MW.oN e))).ext hs6 (fun e=>hnR (.inl e)))
   clear hO3 hs6 m6 m6f hB3 hS3 hS
   generalize (w3.setCell ⟨b,4,none⟩ (.slice A' (Fsm.Ak NodD.id (⟨c.node.id,⟨c.node.cap.cpu,c.node.cap.mem⟩,true,false,c.node.boot,1,0⟩ : NodD) s.nodes).length c'))=w5 at hM5 hx5 hJ9 hR9 ⊢
   have hst5:=(Step.of0 hx7 (b:=b) (s:=s)).trans hx5
   have hz5:=hst5.size
   clear hoW hoe hd hdw hx3 ho3 hq3 hnb
   have hdat:(s.BP A' c' (Fsm.Ak NodD.id (⟨c.node.id,⟨c.node.cap.cpu,c.node.cap.mem⟩,true,false,c.node.boot,1,0⟩ : NodD) s.nodes)).data=({ s.data with nodes:=(Fsm.Ak NodD.id (⟨c.node.id,⟨c.node.cap.cpu,c.node.cap.mem⟩,true,false,c.node.boot,1,0⟩ : NodD) s.nodes) }:Ab):=rfl
   have hW5:Fsm.Wf (s.BP A' c' (Fsm.Ak NodD.id (⟨c.node.id,⟨c.node.cap.cpu,c.node.cap.mem⟩,true,false,c.node.boot,1,0⟩ : NodD) s.nodes)).data:=Fsm.IV hw (⟨c.node.id,⟨c.node.cap.cpu,c.node.cap.mem⟩,true,false,c.node.boot,1,0⟩ : NodD)
   have HDAT:=Lib.hid hdat
   clear hdat
   have hJ7lt:J < w7.heap.size:=hJ7.lt
   have hR7lt:C+1 < w7.heap.size:=hR7.lt
   have hnJ5:¬ MW (s.BP A' c' (Fsm.Ak NodD.id (⟨c.node.id,⟨c.node.cap.cpu,c.node.cap.mem⟩,true,false,c.node.boot,1,0⟩ : NodD) s.nodes)) b J:=hx5.not hnqJ hJ7lt
   have hnR5:¬ MW (s.BP A' c' (Fsm.Ak NodD.id (⟨c.node.id,⟨c.node.cap.cpu,c.node.cap.mem⟩,true,false,c.node.boot,1,0⟩ : NodD) s.nodes)) b (C+1):=hx5.not hnR hR7lt
   have j0:w5.cell? ⟨J,0,none⟩=some (.int .i64 c.node.id):=hJ9.cell 0
   have hq4:base≤w5.heap.size:=by omega
   have hq1:(s.BP A' c' (Fsm.Ak NodD.id (⟨c.node.id,⟨c.node.cap.cpu,c.node.cap.mem⟩,true,false,c.node.boot,1,0⟩ : NodD) s.nodes)).jobs.length≤1048576:=hJ
   have hqa:(s.BP A' c' (Fsm.Ak NodD.id (⟨c.node.id,⟨c.node.cap.cpu,c.node.cap.mem⟩,true,false,c.node.boot,1,0⟩ : NodD) s.nodes)).allocs.length≤1048576:=hA
   have hq2:(s.BP A' c' (Fsm.Ak NodD.id (⟨c.node.id,⟨c.node.cap.cpu,c.node.cap.mem⟩,true,false,c.node.boot,1,0⟩ : NodD) s.nodes)).evals.length≤33554432:=by show s.evals.length≤_;omega
   go_upto_region 16 with (first|go_skip|(go_at_call 69;(with_reducible refine (O6 base b (s.BP A' c' (Fsm.Ak NodD.id (⟨c.node.id,⟨c.node.cap.cpu,c.node.cap.mem⟩,true,false,c.node.boot,1,0⟩ : NodD) s.nodes)) false c.node.id w5 hM5 hq4 hq1 hqa hq2 hW5).mono ?_);rintro e wl ⟨aL,AL,nL,cL,lL,rfl,hML,hDL,haL,hlL,hxL⟩))
   replace hML:Az base wl b ({ (s.BP A' c' (Fsm.Ak NodD.id (⟨c.node.id,⟨c.node.cap.cpu,c.node.cap.mem⟩,true,false,c.node.boot,1,0⟩ : NodD) s.nodes)) with allocs:=aL,AE:=AL,nE:=nL,cE:=cL,evals:=lL }:Aa) false:=hML
   have hRl:=hR9.step hxL hnR5
   have hJl:=hJ9.step hxL hnJ5
   have hWL:Fsm.Wf ({ (s.BP A' c' (Fsm.Ak NodD.id (⟨c.node.id,⟨c.node.cap.cpu,c.node.cap.mem⟩,true,false,c.node.boot,1,0⟩ : NodD) s.nodes)) with allocs:=aL,AE:=AL,nE:=nL,cE:=cL,evals:=lL }:Aa).data:=by have h9:=Fsm.F4 hW5 c.node.id;rw [← hDL] at h9;exact h9
   have hstl:Step w wl b s ({ (s.BP A' c' (Fsm.Ak NodD.id (⟨c.node.id,⟨c.node.cap.cpu,c.node.cap.mem⟩,true,false,c.node.boot,1,0⟩ : NodD) s.nodes)) with allocs:=aL,AE:=AL,nE:=nL,cE:=cL,evals:=lL }:Aa):=hst5.trans hxL
   have hql4:base≤wl.heap.size:=by have:=hstl.size;omega
   have hql1:({ (s.BP A' c' (Fsm.Ak NodD.id (⟨c.node.id,⟨c.node.cap.cpu,c.node.cap.mem⟩,true,false,c.node.boot,1,0⟩ : NodD) s.nodes)) with allocs:=aL,AE:=AL,nE:=nL,cE:=cL,evals:=lL }:Aa).jobs.length≤1048576:=hJ
   have hlL2:lL.length≤s.evals.length+s.allocs.length:=hlL
   have hql2:({ (s.BP A' c' (Fsm.Ak NodD.id (⟨c.node.id,⟨c.node.cap.cpu,c.node.cap.mem⟩,true,false,c.node.boot,1,0⟩ : NodD) s.nodes)) with allocs:=aL,AE:=AL,nE:=nL,cE:=cL,evals:=lL }:Aa).evals.length≤33554432:=by show lL.length≤_;omega
   have hnRl:¬ MW ({ (s.BP A' c' (Fsm.Ak NodD.id (⟨c.node.id,⟨c.node.cap.cpu,c.node.cap.mem⟩,true,false,c.node.boot,1,0⟩ : NodD) s.nodes)) with allocs:=aL,AE:=AL,nE:=nL,cE:=cL,evals:=lL }:Aa) b (C+1):=hML.Cn hRl (by decide)
   have hnJl:¬ MW ({ (s.BP A' c' (Fsm.Ak NodD.id (⟨c.node.id,⟨c.node.cap.cpu,c.node.cap.mem⟩,true,false,c.node.boot,1,0⟩ : NodD) s.nodes)) with allocs:=aL,AE:=AL,nE:=nL,cE:=cL,evals:=lL }:Aa) b J:=hxL.not hnJ5 hJ9.lt
   go_upto_region 17 with (first|go_skip|(go_at_call 70;(with_reducible refine (Hu base b ({ (s.BP A' c' (Fsm.Ak NodD.id (⟨c.node.id,⟨c.node.cap.cpu,c.node.cap.mem⟩,true,false,c.node.boot,1,0⟩ : NodD) s.nodes)) with allocs:=aL,AE:=AL,nE:=nL,cE:=cL,evals:=lL }:Aa) false wl hML hql4 hql1 hql2 hWL).mono ?_);rintro e w8 ⟨A8,c8,l8,rfl,hM8,hD8,hl8,hx8⟩))
   have hR8:=hRl.step hx8 hnRl
   have hJ8:=hJl.step hx8 hnJl
   have hst8:=hstl.trans hx8
   have HD8:=Lib.hid hD8
   have HDL:=Lib.hid hDL
   clear hD8 hDL j0
   generalize hV8:(({ (s.BP A' c' (Fsm.Ak NodD.id (⟨c.node.id,⟨c.node.cap.cpu,c.node.cap.mem⟩,true,false,c.node.boot,1,0⟩ : NodD) s.nodes)) with allocs:=aL,AE:=AL,nE:=nL,cE:=cL,evals:=lL }:Aa).Bf A8 c8 l8)=V8 at hM8 HD8 hst8 hx8
   clear hV8
   have m10:w8.cell? ⟨b,10,none⟩=some (.bool false):=hM8.blk.cell 10
   have m10f:w8.frozen? ⟨b,10,none⟩=false:=hM8.blk.frozen 10
   go_upto_region 18 with (first|go_skip)
   have hMx:Az base (w8.setCell ⟨b,10,none⟩ (.bool true)) b V8 true:=hM8.put 10 _ hM8.own rfl
   have hsx:Ext (fun q=>q=b) w8 (w8.setCell ⟨b,10,none⟩ (.bool true)):=Ext.set1 _ _ _ _
   have hRx:=hR8.ext hsx (fun e=>Blk.ne hR8 hM8.blk (by decide) e)
   have hJx:=hJ8.ext hsx (fun e=>Blk.ne hJ8 hM8.blk (by decide) e)
   have hstx:Step w (w8.setCell ⟨b,10,none⟩ (.bool true)) b s V8:=hst8.cell (s2:=V8) (.inl rfl) (fun q hq=>hq) _
   clear m10 m10f hsx
   generalize (w8.setCell ⟨b,10,none⟩ (.bool true))=wx at hMx hRx hJx hstx ⊢
   have jx:wx.cell? ⟨J,6,none⟩=some (.int .i64 1):=hJx.cell 6
   go_wp2_with (first|go_skip|go_guarded|((with_reducible refine isW ?_);refine Af rfl 34 _ _ rfl STResult (C+1) rfl (Au 0 1) rfl hRx rfl rfl rfl ?_;intro w9 hR9 hx9))
   exact bodyPost_ret (results_cell rfl STResult (g:=C+1) rfl hR9 rfl) rfl ⟨V8,true,⟨0,1,[]⟩,rfl,hMx.keep hx9 (fun e=>Blk.ne hMx.blk hRx (by decide) e) (Apart.one hRx (by decide)),by rw [HFR.out];refine congrArg (fun z=>(z,(⟨0,1,[]⟩ : AQ))) ?_;show Fsm.joins s.data (⟨c.node.id,⟨c.node.cap.cpu,c.node.cap.mem⟩,true,false,c.node.boot,1,0⟩ : NodD)=Fsm.came V8.data;rw [HD8.out,HDL.out];rfl,rfl,hstx.fresh hx9 (fun q e=>by have:=HC.out;have:q=C+1:=e;omega)⟩
  have hna' : Fsm.nodeAt s.data c.d.node.id=some x:=hf
  obtain ⟨hi1,hi2⟩:=List.getElem?_eq_some_iff.1 hxi
  obtain ⟨_,g,off,hAe,hce⟩:=hsl.get (Ext.refl Nothing wj) (k:=i) (by have:=hnl.out;omega)
  rw [hi2] at hce
  have hk0:(0:Int)≤(i:Int):=by omega
  have hk1:(i:Int) < s.nN:=by have:=hnl.out;omega
  have hkg:decide ((0:Int)≤(i:Int))=true:=by simp
  have HID:=Lib.hid (show x.id=c.node.id by simpa using hp)
  obtain ⟨x0,⟨x1,x2⟩,x3,x4,x5,x6,x7⟩:=x
  have hid:x0=c.node.id:=HID.out
  have HX0:=Lib.hid hid
  clear hid
  have HI:=Lib.hid hi
  have HA:=Lib.hid hAe
  have HNA:=Lib.hid hna'
  have HCE:=Lib.hid (show ∀ j u,(#[.int .i64 x0,.int .i64 x1,.int .i64 x2,.bool x3,.bool x4,.int .i64 x5,.int .i64 x6,.int .i64 x7]:Array Value).toList[j]? = some u→wj.cell? ⟨g,off+i*8+j,none⟩=some u from hce)
  have HH:=Lib.hid (show Fsm.register s.data c.d=(if c.node.boot < x5 then Fsm.no s.data 33 else if (x5 == c.node.boot)=true then (if x3=true then (s.data,⟨0,x6,[]⟩) else Fsm.no s.data 33) else (Fsm.joins s.data ⟨c.node.id,c.node.cap,true,x4,c.node.boot,wrap64 (x6+1),0⟩,⟨0,wrap64 (x6+1),[]⟩)) by unfold Fsm.register;rw [show Fsm.DL c.d.node=true from HOK.out,HNA.out];rfl)
  clear hi hf hi2 hAe hxi hp hna' hce
  have ck:wj.cell? ⟨J,0,none⟩=some (.int .i64 c.node.id):=hJj.cell 0
  have hd:Ext Nothing wj wj.drew:=(Ext.refl _ _).drew
  refine zS (S:=fun W'=>Ext Nothing wj W') (by kernel_rfl) ?_
  generalize wj.drew=Wd at hd ⊢
  refine zV 0 (.pointer (some ⟨b,0,none⟩)) rfl (by kernel_rfl) hd (fun _ _ _ h=>h) (fun W' hS'=>by go_simp) ?_
  refine zV 1 (.pointer (some ⟨b,0,none⟩)) rfl (by kernel_rfl) hd (fun _ _ _ h=>h) (fun W' hS'=>by go_simp) ?_
  refine zV 2 (.pointer (some ⟨b,0,none⟩)) rfl (by kernel_rfl) hd (fun _ _ _ h=>h) (fun W' hS'=>by go_simp) ?_
  refine zV 3 (.agg s.arr) rfl (by kernel_rfl) hd (fun _ _ _ h=>h) (fun W' hS'=>by exact run_load_struct (sz:=9) (b:=b) (off:=0) rfl Aj (by go_simp) (fun j u hu=>hS'.c0 (hMj.at j u hu)) rfl) ?_
  refine zV 4 (.pointer (some ⟨J,0,none⟩)) rfl (by kernel_rfl) hd (fun _ _ _ h=>h) (fun W' hS'=>by go_simp) ?_
  refine zV 5 (.int .i64 c.node.id) rfl (by kernel_rfl) hd (fun _ _ _ h=>h) (fun W' hS'=>by have q:=hS'.c0 ck;go_simp) ?_
  (try simp only [Act.put,zA,zB,zC,zD,zE,zF])
  refine zO 6 (by kernel_rfl) ?_
  refine Ai (f:=66) (args:=#[.agg s.arr,.int .i64 c.node.id]) rfl (by rfl) (by go_simp) ((Dq s.AN s.nN s.cN s.nodes c.node.id Wd (hsl.Al hd) hnN _ _ _ _ _ _ _ _ _ rfl).mono ?_)
  rintro e w4 ⟨rfl,hx1⟩
  (rw [HI.out])
  have hxc:=hd.tr hx1
  refine ⟨_,rfl,hxc,?_⟩
  (try simp only [Act.put,zA,zB,zC,zD,zE,zF])
  refine zV 7 (.int .i64 (i:Int)) rfl (by kernel_rfl) hxc (fun _ _ _ h=>h) (fun W' hS'=>by go_simp) ?_
  (try simp only [Act.put,zA,zB,zC,zD,zE,zF])
  refine wpAnyH_done (by kernel_rfl) ?_ _
  (try simp only [Act.put,zA,zB,zC,zD,zE,zF])
  clear hd hx1
  have hM4:=hMj.e0 hxc
  have hR4:=hRj.e0 hxc
  have hJ4:=hJj.e0 hxc
  have hC4:=hCj.e0 hxc
  have hx4:=hxj.tr hxc
  clear ck
  have hce4:∀ j u,(#[.int .i64 x0,.int .i64 x1,.int .i64 x2,.bool x3,.bool x4,.int .i64 x5,.int .i64 x6,.int .i64 x7]:Array Value).toList[j]? = some u→w4.cell? ⟨g,off+i*8+j,none⟩=some u:=fun j u hu=>hxc.c0 (HCE.out j u hu)
  clear hxc
  have m4:w4.cell? ⟨b,4,none⟩=some (.slice (some ⟨g,off,none⟩) s.nN s.cN):=by rw [← HA.out];exact hM4.blk.cell 4
  go_upto_region 8 with (first|go_skip|go_guarded|((with_reducible refine isW ?_);refine Ad rfl 43 _ rfl Bz g (off+i*8) rfl #[.int .i64 x0,.int .i64 x1,.int .i64 x2,.bool x3,.bool x4,.int .i64 x5,.int .i64 x6,.int .i64 x7] hce4 rfl ?_)|((with_reducible refine isW ?_);refine Af rfl 43 _ _ rfl Bz J rfl #[.int .i64 x0,.int .i64 x1,.int .i64 x2,.bool x3,.bool x4,.int .i64 x5,.int .i64 x6,.int .i64 x7] rfl hJ4 rfl rfl rfl ?_;intro wh hJh hxh))
  have hxwh:Ext Nothing w wh:=hx4.trans hxh (fun q hq e=>absurd (show q=J from e) (by have:=HC.out;omega))
  have hMh:Az base wh b s false:=hM.e0 hxwh
  have hRh:=hR4.ext hxh (fun e=>absurd (show C+1=J from e) (by omega))
  have hCh:=hC4.ext hxh (fun e=>absurd (show C=J from e) (by omega))
  clear m4 hce4
  replace hJh:Blk wh J 43 #[.int .i64 c.node.id,.int .i64 x1,.int .i64 x2,.bool x3,.bool x4,.int .i64 x5,.int .i64 x6,.int .i64 x7]:=by have h9:=hJh;rw [HX0.out] at h9;exact h9
  have k5:wh.cell? ⟨J,5,none⟩=some (.int .i64 x5):=hJh.cell 5
  have k3:wh.cell? ⟨J,3,none⟩=some (.bool x3):=hJh.cell 3
  have k6:wh.cell? ⟨J,6,none⟩=some (.int .i64 x6):=hJh.cell 6
  have c15:wh.cell? ⟨C,15,none⟩=some (.int .i64 c.node.boot):=hCh.cell 15
  have hst:=Step.of0 (b:=b) (s:=s) hxwh
  by_cases hlt:c.node.boot < x5
  ·have hlt' : decide (c.node.boot < x5)=true:=by simpa using hlt
   have HF:=Lib.hid (HH.out.trans (if_pos hlt))
   go_upto_region 9 with (first|go_skip|go_guarded)
   clear k5 k3 k6 c15
   go_wp2_with (first|go_skip|go_guarded|(go_at_call 31;(with_reducible refine (mNo 33 wh).mono ?_);rintro e w8 ⟨rfl,hx8⟩;have hR8:=hRh.e0 hx8)|((with_reducible refine isW ?_);refine Af rfl 34 _ _ rfl STResult (C+1) rfl (Au 33 0) rfl hR8 rfl rfl rfl ?_;intro w9 hR9 hx9))
   have hb9:=(hMh.e0 hx8).blk.lt
   exact bodyPost_ret (results_cell rfl STResult (g:=C+1) rfl hR9 rfl) rfl ⟨s,false,⟨33,0,[]⟩,rfl,(hMh.e0 hx8).keep hx9 (fun e=>Blk.ne (hMh.e0 hx8).blk hR8 (by decide) e) (Apart.one hR8 (by decide)),HF.out,rfl,(hst.m0 hx8).fresh hx9 (fun q e=>by have:=HC.out;have:q=C+1:=e;omega)⟩
  have hlt' : decide (c.node.boot < x5)=false:=by simpa using hlt
  have HH2:=Lib.hid (HH.out.trans (if_neg hlt))
  cases heq:(x5 == c.node.boot) with
  | true =>
   have HH3:=Lib.hid (HH2.out.trans (if_pos heq))
   cases x3 with
   | true =>
    have HF:=Lib.hid (HH3.out.trans (if_pos rfl))
    go_upto_region 11 with (first|go_skip|go_guarded)
    go_wp2_with (first|go_skip|go_guarded|((with_reducible refine isW ?_);refine Af rfl 34 _ _ rfl STResult (C+1) rfl (Au 0 x6) rfl hRh rfl rfl rfl ?_;intro w9 hR9 hx9))
    exact bodyPost_ret (results_cell rfl STResult (g:=C+1) rfl hR9 rfl) rfl ⟨s,.inl ⟨⟨0,x6,[]⟩,rfl,hMh.keep hx9 (fun e=>Blk.ne hMh.blk hRh (by decide) e) (Apart.one hRh (by decide)),HF.out,rfl,hst.fresh hx9 (fun q e=>by have:=HC.out;have:q=C+1:=e;omega)⟩⟩
   | false =>
    have HF:=Lib.hid (HH3.out.trans (if_neg Bool.false_ne_true))
    go_upto_region 9 with (first|go_skip|go_guarded)
    clear k5 k3 k6 c15
    go_wp2_with (first|go_skip|go_guarded|(go_at_call 31;(with_reducible refine (mNo 33 wh).mono ?_);rintro e w8 ⟨rfl,hx8⟩;have hR8:=hRh.e0 hx8)|((with_reducible refine isW ?_);refine Af rfl 34 _ _ rfl STResult (C+1) rfl (Au 33 0) rfl hR8 rfl rfl rfl ?_;intro w9 hR9 hx9))
    have hb9:=(hMh.e0 hx8).blk.lt
    exact bodyPost_ret (results_cell rfl STResult (g:=C+1) rfl hR9 rfl) rfl ⟨s,false,⟨33,0,[]⟩,rfl,(hMh.e0 hx8).keep hx9 (fun e=>Blk.ne (hMh.e0 hx8).blk hR8 (by decide) e) (Apart.one hR8 (by decide)),HF.out,rfl,(hst.m0 hx8).fresh hx9 (fun q e=>by have:=HC.out;have:q=C+1:=e;omega)⟩
  | false =>
   have HFR:=Lib.hid (HH2.out.trans (if_neg (by rw [heq];exact Bool.false_ne_true)))
   go_upto_region 12 with (first|go_skip|go_guarded)
   clear k5 k3 k6 c15 hst
   clear hM4 hR4 hC4 hJ4 hx4 hxh
   have hM4:=hMh
   have hR4:=hRh
   have hC4:=hCh
   have hJ4:=hJh
   have hx4:=hxwh
   clear hMh hRh hCh hJh hxwh
   have hnqJ:¬ MW s b J:=fun e=>by have:=hM.FL e;have:=HC.out;omega
   have hnR:¬ MW s b (C+1):=hM4.Cn hR4 (by decide)
   have hCJ:¬ (C=J):=by omega
   have hRJ:¬ (C+1=J):=by omega
   have hd:Ext Nothing wh wh.drew:=(Ext.refl _ _).drew
   have c15:wh.cell? ⟨C,15,none⟩=some (.int .i64 c.node.boot):=hC4.cell 15
   have c11:∀ j u,(#[Value.int .i64 c.node.cap.cpu,.int .i64 c.node.cap.mem]:Array Value).toList[j]? = some u→wh.cell? ⟨C,11+j,none⟩=some u:=fun j u hu=>by rw [hC4.cell];match j,hu with|0,hu=>exact hu|1,hu=>exact hu|(k+2),hu=>simp at hu
   refine zS (S:=fun W'=>Ext (fun q=>q=J) wh W') (by kernel_rfl) ?_
   have hS:=hd.any (S:=fun q=>q=J)
   have hJd:=hJ4.e0 hd
   generalize wh.drew=Wd at hd hS hJd ⊢
   refine zV 0 (.pointer (some ⟨C,10,none⟩)) rfl (by kernel_rfl) hS (fun _ _ _ h=>h) (fun W' hS'=>by go_simp) ?_
   refine zV 1 (.pointer (some ⟨C,11,none⟩)) rfl (by kernel_rfl) hS (fun _ _ _ h=>h) (fun W' hS'=>by go_simp) ?_
   refine zV 2 (.agg #[.int .i64 c.node.cap.cpu,.int .i64 c.node.cap.mem]) rfl (by kernel_rfl) hS (fun _ _ _ h=>h) (fun W' hS'=>by exact run_load_struct (sz:=2) (b:=C) (off:=11) rfl DY (by go_simp) (fun j u hu=>hS'.cell (c11 j u hu) hCJ) rfl) ?_
   refine zV 3 (.pointer (some ⟨C,10,none⟩)) rfl (by kernel_rfl) hS (fun _ _ _ h=>h) (fun W' hS'=>by go_simp) ?_
   refine zV 4 (.pointer (some ⟨C,15,none⟩)) rfl (by kernel_rfl) hS (fun _ _ _ h=>h) (fun W' hS'=>by go_simp) ?_
   refine zV 5 (.int .i64 c.node.boot) rfl (by kernel_rfl) hS (fun _ _ _ h=>h) (fun W' hS'=>by have q:=hS'.cell c15 hCJ;go_simp) ?_
   refine zV 6 (.pointer (some ⟨J,1,none⟩)) rfl (by kernel_rfl) hS (fun _ _ _ h=>h) (fun W' hS'=>by go_simp) ?_
   (try simp only [Act.put,zA,zB,zC,zD,zE,zF])
   refine zO 7 (by kernel_rfl) ?_
   refine E9 (g:=J) (off:=1) (cs:=#[.int .i64 c.node.cap.cpu,.int .i64 c.node.cap.mem]) rfl (by rfl) rfl DY (by go_simp) (by go_simp) hJd (show 1+2≤8 by decide) rfl rfl (fun w5 hJ5 hx5=>?_)
   replace hJ5:Blk w5 J 43 #[.int .i64 c.node.id,.int .i64 c.node.cap.cpu,.int .i64 c.node.cap.mem,.bool x3,.bool x4,.int .i64 x5,.int .i64 x6,.int .i64 x7]:=hJ5
   have hS5:=hS.tr hx5
   refine ⟨hS5,?_⟩
   (try simp only [Act.put,zA,zB,zC,zD,zE,zF])
   refine zV 8 (.pointer (some ⟨J,5,none⟩)) rfl (by kernel_rfl) hS5 (fun _ _ _ h=>h) (fun W' hS'=>by go_simp) ?_
   (try simp only [Act.put,zA,zB,zC,zD,zE,zF])
   refine zO 9 (by kernel_rfl) ?_
   have q9:w5.cell? ⟨J,5,none⟩=some (.int .i64 x5):=(hJ5).cell 5
   have p9:w5.frozen? ⟨J,5,none⟩=false:=(hJ5).frozen 5
   have hS9:=hS5.setCell (p:=⟨J,5,none⟩) (.inr rfl) (.int .i64 c.node.boot)
   refine AC (w':=(w5.setCell ⟨J,5,none⟩ (.int .i64 c.node.boot))) rfl (by rfl) (by go_simp) ⟨hS9,?_⟩
   (try simp only [Act.put,zA,zB,zC,zD,zE,zF])
   clear q9 p9
   refine zV 10 (.pointer (some ⟨J,3,none⟩)) rfl (by kernel_rfl) hS9 (fun _ _ _ h=>h) (fun W' hS'=>by go_simp) ?_
   (try simp only [Act.put,zA,zB,zC,zD,zE,zF])
   refine zO 11 (by kernel_rfl) ?_
   have q11:(w5.setCell ⟨J,5,none⟩ (.int .i64 c.node.boot)).cell? ⟨J,3,none⟩=some (.bool x3):=((hJ5.Bi 5 (.int .i64 c.node.boot))).cell 3
   have p11:(w5.setCell ⟨J,5,none⟩ (.int .i64 c.node.boot)).frozen? ⟨J,3,none⟩=false:=((hJ5.Bi 5 (.int .i64 c.node.boot))).frozen 3
   have hS11:=hS9.setCell (p:=⟨J,3,none⟩) (.inr rfl) (.bool true)
   refine AC (w':=((w5.setCell ⟨J,5,none⟩ (.int .i64 c.node.boot)).setCell ⟨J,3,none⟩ (.bool true))) rfl (by rfl) (by go_simp) ⟨hS11,?_⟩
   (try simp only [Act.put,zA,zB,zC,zD,zE,zF])
   clear q11 p11
   refine zV 12 (.pointer (some ⟨J,7,none⟩)) rfl (by kernel_rfl) hS11 (fun _ _ _ h=>h) (fun W' hS'=>by go_simp) ?_
   (try simp only [Act.put,zA,zB,zC,zD,zE,zF])
   refine zO 13 (by kernel_rfl) ?_
   have q13:((w5.setCell ⟨J,5,none⟩ (.int .i64 c.node.boot)).setCell ⟨J,3,none⟩ (.bool true)).cell? ⟨J,7,none⟩=some (.int .i64 x7):=(((hJ5.Bi 5 (.int .i64 c.node.boot)).Bi 3 (.bool true))).cell 7
   have p13:((w5.setCell ⟨J,5,none⟩ (.int .i64 c.node.boot)).setCell ⟨J,3,none⟩ (.bool true)).frozen? ⟨J,7,none⟩=false:=(((hJ5.Bi 5 (.int .i64 c.node.boot)).Bi 3 (.bool true))).frozen 7
   have hS13:=hS11.setCell (p:=⟨J,7,none⟩) (.inr rfl) (.int .i64 0)
   refine AC (w':=(((w5.setCell ⟨J,5,none⟩ (.int .i64 c.node.boot)).setCell ⟨J,3,none⟩ (.bool true)).setCell ⟨J,7,none⟩ (.int .i64 0))) rfl (by rfl) (by go_simp) ⟨hS13,?_⟩
   (try simp only [Act.put,zA,zB,zC,zD,zE,zF])
   clear q13 p13
   have hJ6:Blk (((w5.setCell ⟨J,5,none⟩ (.int .i64 c.node.boot)).setCell ⟨J,3,none⟩ (.bool true)).setCell ⟨J,7,none⟩ (.int .i64 0)) J 43 #[.int .i64 c.node.id,.int .i64 c.node.cap.cpu,.int .i64 c.node.cap.mem,.bool true,.bool x4,.int .i64 c.node.boot,.int .i64 x6,.int .i64 0]:=(((hJ5.Bi 5 (.int .i64 c.node.boot)).Bi 3 (.bool true)).Bi 7 (.int .i64 0))
   refine wpAnyH_done (by kernel_rfl) ?_ _
   (try simp only [Act.put,zA,zB,zC,zD,zE,zF])
   generalize (((w5.setCell ⟨J,5,none⟩ (.int .i64 c.node.boot)).setCell ⟨J,3,none⟩ (.bool true)).setCell ⟨J,7,none⟩ (.int .i64 0))=w6 at hJ6 hS13 ⊢
   have q6:w6.cell? ⟨J,6,none⟩=some (.int .i64 x6):=hJ6.cell 6
   have f6:w6.frozen? ⟨J,6,none⟩=false:=hJ6.frozen 6
   go_upto_region 14 with (first|go_skip|go_guarded)
   have hS14:=hS13.setCell (p:=⟨J,6,none⟩) (.inr rfl) (.int .i64 (wrap64 (x6+1)))
   have hJ7:Blk (w6.setCell ⟨J,6,none⟩ (.int .i64 (wrap64 (x6+1)))) J 43 #[.int .i64 c.node.id,.int .i64 c.node.cap.cpu,.int .i64 c.node.cap.mem,.bool true,.bool x4,.int .i64 c.node.boot,.int .i64 (wrap64 (x6+1)),.int .i64 0]:=hJ6.Bi 6 _
   have hR7:=hR4.ext hS14 hRJ
   have hx7:Ext Nothing w (w6.setCell ⟨J,6,none⟩ (.int .i64 (wrap64 (x6+1)))):=hx4.trans hS14 (fun q hq e=>absurd (show q=J from e) (by have:=HC.out;omega))
   have hM7:=hM.e0 hx7
   have hz7:=hx7.size
   clear q6 f6 hS hS5 hS9 hS11 hS13 hJ5 hJ6 hJd c15 c11 hd
   generalize (w6.setCell ⟨J,6,none⟩ (.int .i64 (wrap64 (x6+1))))=w7 at hS14 hJ7 hR7 hx7 hM7 hz7 ⊢
   have hln:=Lib.hid hM.own.nl
   have hbl:=hM7.blk.lt
   have hoe:=hM7.own.n
   rw [hln.out] at hoe
   have hd:Ext Nothing w7 w7.drew:=(Ext.refl _ _).drew
   refine zS (S:=fun W'=>Ext (fun q=>q=b ∨ (Value.slice s.AN s.nodes.length s.cN).ownBlock=some q) w7 W') (by kernel_rfl) ?_
   have hS:=hd.any (S:=fun q=>q=b ∨ (Value.slice s.AN s.nodes.length s.cN).ownBlock=some q)
   generalize w7.drew=W at hd hS ⊢
   have hMW:=hM7.e0 hd
   have hoW:=Am hoe hd (fun _ _ e=>e)
   have hdw:=hd.size
   refine zV 0 (.pointer (some ⟨b,0,none⟩)) rfl (by kernel_rfl) hS (fun _ _ _ h=>h) (fun W' hS'=>by go_simp) ?_
   refine zV 1 (.pointer (some ⟨b,0,none⟩)) rfl (by kernel_rfl) hS (fun _ _ _ h=>h) (fun W' hS'=>by go_simp) ?_
   refine zV 2 (.pointer (some ⟨b,0,none⟩)) rfl (by kernel_rfl) hS (fun _ _ _ h=>h) (fun W' hS'=>by go_simp) ?_
   refine zV 3 (.pointer (some ⟨b,0,none⟩)) rfl (by kernel_rfl) hS (fun _ _ _ h=>h) (fun W' hS'=>by go_simp) ?_
   refine zV 4 (.pointer (some ⟨b,4,none⟩)) rfl (by kernel_rfl) hS (fun _ _ _ h=>h) (fun W' hS'=>by go_simp) ?_
   refine zV 6 (.agg #[.int .i64 c.node.id,.int .i64 c.node.cap.cpu,.int .i64 c.node.cap.mem,.bool true,.bool x4,.int .i64 c.node.boot,.int .i64 (wrap64 (x6+1)),.int .i64 0]) rfl (by kernel_rfl) hS (fun _ _ _ h=>h) (fun W' hS'=>by exact AB rfl Bz (by go_simp) (hJ7.ext hS' (fun e=>e.elim (fun e=>hnqJ (.inl e)) (fun e=>hnqJ (MW.oN (by exact e))))) rfl) ?_
   (try simp only [Act.put,zA,zB,zC,zD,zE,zF])
   refine zO 5 (by kernel_rfl) ?_
   refine wpOp_val (v:=.slice s.AN s.nodes.length s.cN) (w':=W) rfl (by rfl) (by rw [← hln.out];have q6:=hMW.blk.cell 4;go_simp) ⟨hS,?_⟩
   (try simp only [Act.put,zA,zB,zC,zD,zE,zF])
   refine zO 7 (by kernel_rfl) ?_
   refine Ai (f:=67) (args:=#[.slice s.AN s.nodes.length s.cN,.agg #[.int .i64 c.node.id,.int .i64 c.node.cap.cpu,.int .i64 c.node.cap.mem,.bool true,.bool x4,.int .i64 c.node.boot,.int .i64 (wrap64 (x6+1)),.int .i64 0],.func (.func 68) #[] #[]]) rfl (by rfl) (by go_simp) ((MP base s.AN s.cN s.nodes (⟨c.node.id,⟨c.node.cap.cpu,c.node.cap.mem⟩,true,x4,c.node.boot,(wrap64 (x6+1)),0⟩ : NodD) W hoW (by omega) (by omega) hw.n).mono ?_)
   rintro e w3 ⟨A',c',rfl,ho3,hq3,hx3⟩
   have hnb:¬ ((Value.slice s.AN s.nodes.length s.cN).ownBlock=some b):=fun e=>own_ne hoW hMW.blk (by decide) e
   have hS3:=hS.trans hx3 (fun q hq e=>.inr e)
   refine ⟨_,rfl,hS3,?_⟩
   (try simp only [Act.put,zA,zB,zC,zD,zE,zF])
   refine zV 8 (.pointer (some ⟨b,0,none⟩)) rfl (by kernel_rfl) hS3 (fun _ _ _ h=>h) (fun W' hS'=>by go_simp) ?_
   refine zV 9 (.pointer (some ⟨b,0,none⟩)) rfl (by kernel_rfl) hS3 (fun _ _ _ h=>h) (fun W' hS'=>by go_simp) ?_
   refine zV 10 (.pointer (some ⟨b,4,none⟩)) rfl (by kernel_rfl) hS3 (fun _ _ _ h=>h) (fun W' hS'=>by go_simp) ?_
   (try simp only [Act.put,zA,zB,zC,zD,zE,zF])
   refine zO 11 (by kernel_rfl) ?_
   have hB3:=hMW.blk.ext hx3 hnb
   have m6:w3.cell? ⟨b,4,none⟩=some (.slice s.AN s.nN s.cN):=hB3.cell 4
   have m6f:w3.frozen? ⟨b,4,none⟩=false:=hB3.frozen 4
   have hs6:Ext (fun q=>q=b) w3 (w3.setCell ⟨b,4,none⟩ (.slice A' (Fsm.Ak NodD.id (⟨c.node.id,⟨c.node.cap.cpu,c.node.cap.mem⟩,true,x4,c.node.boot,(wrap64 (x6+1)),0⟩ : NodD) s.nodes).length c')):=Ext.set1 _ _ _ _
   refine AC (w':=w3.setCell ⟨b,4,none⟩ (.slice A' (Fsm.Ak NodD.id (⟨c.node.id,⟨c.node.cap.cpu,c.node.cap.mem⟩,true,x4,c.node.boot,(wrap64 (x6+1)),0⟩ : NodD) s.nodes).length c')) rfl (by rfl) (by go_simp) ⟨hS3.trans hs6 (fun q hq e=>.inl e),?_⟩
   (try simp only [Act.put,zA,zB,zC,zD,zE,zF])
   refine wpAnyH_done (by kernel_rfl) ?_ _
   (try simp only [Act.put,zA,zB,zC,zD,zE,zF])
   have hO3:Aw base w3 (s.BP A' c' (Fsm.Ak NodD.id (⟨c.node.id,⟨c.node.cap.cpu,c.node.cap.mem⟩,true,x4,c.node.boot,(wrap64 (x6+1)),0⟩ : NodD) s.nodes)):=hMW.own.wN hx3 (Apart.row hoW (by decide)) ho3
   have hM5:Az base (w3.setCell ⟨b,4,none⟩ (.slice A' (Fsm.Ak NodD.id (⟨c.node.id,⟨c.node.cap.cpu,c.node.cap.mem⟩,true,x4,c.node.boot,(wrap64 (x6+1)),0⟩ : NodD) s.nodes).length c')) b (s.BP A' c' (Fsm.Ak NodD.id (⟨c.node.id,⟨c.node.cap.cpu,c.node.cap.mem⟩,true,x4,c.node.boot,(wrap64 (x6+1)),0⟩ : NodD) s.nodes)) false:=⟨hB3.Bi 4 _,hO3.keep hs6 (Apart.one hB3 (by decide)),hMW.lo⟩
   have hx5:Step w7 (w3.setCell ⟨b,4,none⟩ (.slice A' (Fsm.Ak NodD.id (⟨c.node.id,⟨c.node.cap.cpu,c.node.cap.mem⟩,true,x4,c.node.boot,(wrap64 (x6+1)),0⟩ : NodD) s.nodes).length c')) b s (s.BP A' c' (Fsm.Ak NodD.id (⟨c.node.id,⟨c.node.cap.cpu,c.node.cap.mem⟩,true,x4,c.node.boot,(wrap64 (x6+1)),0⟩ : NodD) s.nodes)):=((Step.of0 hd).put hx3 (fun q hq=>MW.oN (s:=s) hq) (MW.BP (s:=s) hq3)).cell (.inl rfl) (fun q hq=>hq) _
   have hJ9:=(((hJ7.e0 hd).ext hx3 (fun e=>hnqJ (MW.oN e))).ext hs6 (fun e=>hnqJ (.inl e)))
   have hR9:=(((hR7.e0 hd).ext hx3 (fun e=>hnR (MW.oN e))).ext hs6 (fun e=>hnR (.inl e)))
   clear hO3 hs6 m6 m6f hB3 hS3 hS
   generalize (w3.setCell ⟨b,4,none⟩ (.slice A' (Fsm.Ak NodD.id (⟨c.node.id,⟨c.node.cap.cpu,c.node.cap.mem⟩,true,x4,c.node.boot,(wrap64 (x6+1)),0⟩ : NodD) s.nodes).length c'))=w5 at hM5 hx5 hJ9 hR9 ⊢
   have hst5:=(Step.of0 hx7 (b:=b) (s:=s)).trans hx5
   have hz5:=hst5.size
   clear hoW hoe hd hdw hx3 ho3 hq3 hnb
   have hdat:(s.BP A' c' (Fsm.Ak NodD.id (⟨c.node.id,⟨c.node.cap.cpu,c.node.cap.mem⟩,true,x4,c.node.boot,(wrap64 (x6+1)),0⟩ : NodD) s.nodes)).data=({ s.data with nodes:=(Fsm.Ak NodD.id (⟨c.node.id,⟨c.node.cap.cpu,c.node.cap.mem⟩,true,x4,c.node.boot,(wrap64 (x6+1)),0⟩ : NodD) s.nodes) }:Ab):=rfl
   have hW5:Fsm.Wf (s.BP A' c' (Fsm.Ak NodD.id (⟨c.node.id,⟨c.node.cap.cpu,c.node.cap.mem⟩,true,x4,c.node.boot,(wrap64 (x6+1)),0⟩ : NodD) s.nodes)).data:=Fsm.IV hw (⟨c.node.id,⟨c.node.cap.cpu,c.node.cap.mem⟩,true,x4,c.node.boot,(wrap64 (x6+1)),0⟩ : NodD)
   have HDAT:=Lib.hid hdat
   clear hdat
   have hJ7lt:J < w7.heap.size:=hJ7.lt
   have hR7lt:C+1 < w7.heap.size:=hR7.lt
   have hnJ5:¬ MW (s.BP A' c' (Fsm.Ak NodD.id (⟨c.node.id,⟨c.node.cap.cpu,c.node.cap.mem⟩,true,x4,c.node.boot,(wrap64 (x6+1)),0⟩ : NodD) s.nodes)) b J:=hx5.not hnqJ hJ7lt
   have hnR5:¬ MW (s.BP A' c' (Fsm.Ak NodD.id (⟨c.node.id,⟨c.node.cap.cpu,c.node.cap.mem⟩,true,x4,c.node.boot,(wrap64 (x6+1)),0⟩ : NodD) s.nodes)) b (C+1):=hx5.not hnR hR7lt
   have j0:w5.cell? ⟨J,0,none⟩=some (.int .i64 c.node.id):=hJ9.cell 0
   have hq4:base≤w5.heap.size:=by omega
   have hq1:(s.BP A' c' (Fsm.Ak NodD.id (⟨c.node.id,⟨c.node.cap.cpu,c.node.cap.mem⟩,true,x4,c.node.boot,(wrap64 (x6+1)),0⟩ : NodD) s.nodes)).jobs.length≤1048576:=hJ
   have hqa:(s.BP A' c' (Fsm.Ak NodD.id (⟨c.node.id,⟨c.node.cap.cpu,c.node.cap.mem⟩,true,x4,c.node.boot,(wrap64 (x6+1)),0⟩ : NodD) s.nodes)).allocs.length≤1048576:=hA
   have hq2:(s.BP A' c' (Fsm.Ak NodD.id (⟨c.node.id,⟨c.node.cap.cpu,c.node.cap.mem⟩,true,x4,c.node.boot,(wrap64 (x6+1)),0⟩ : NodD) s.nodes)).evals.length≤33554432:=by show s.evals.length≤_;omega
   go_upto_region 16 with (first|go_skip|(go_at_call 69;(with_reducible refine (O6 base b (s.BP A' c' (Fsm.Ak NodD.id (⟨c.node.id,⟨c.node.cap.cpu,c.node.cap.mem⟩,true,x4,c.node.boot,(wrap64 (x6+1)),0⟩ : NodD) s.nodes)) false c.node.id w5 hM5 hq4 hq1 hqa hq2 hW5).mono ?_);rintro e wl ⟨aL,AL,nL,cL,lL,rfl,hML,hDL,haL,hlL,hxL⟩))
   replace hML:Az base wl b ({ (s.BP A' c' (Fsm.Ak NodD.id (⟨c.node.id,⟨c.node.cap.cpu,c.node.cap.mem⟩,true,x4,c.node.boot,(wrap64 (x6+1)),0⟩ : NodD) s.nodes)) with allocs:=aL,AE:=AL,nE:=nL,cE:=cL,evals:=lL }:Aa) false:=hML
   have hRl:=hR9.step hxL hnR5
   have hJl:=hJ9.step hxL hnJ5
   have hWL:Fsm.Wf ({ (s.BP A' c' (Fsm.Ak NodD.id (⟨c.node.id,⟨c.node.cap.cpu,c.node.cap.mem⟩,true,x4,c.node.boot,(wrap64 (x6+1)),0⟩ : NodD) s.nodes)) with allocs:=aL,AE:=AL,nE:=nL,cE:=cL,evals:=lL }:Aa).data:=by have h9:=Fsm.F4 hW5 c.node.id;rw [← hDL] at h9;exact h9
   have hstl:Step w wl b s ({ (s.BP A' c' (Fsm.Ak NodD.id (⟨c.node.id,⟨c.node.cap.cpu,c.node.cap.mem⟩,true,x4,c.node.boot,(wrap64 (x6+1)),0⟩ : NodD) s.nodes)) with allocs:=aL,AE:=AL,nE:=nL,cE:=cL,evals:=lL }:Aa):=hst5.trans hxL
   have hql4:base≤wl.heap.size:=by have:=hstl.size;omega
   have hql1:({ (s.BP A' c' (Fsm.Ak NodD.id (⟨c.node.id,⟨c.node.cap.cpu,c.node.cap.mem⟩,true,x4,c.node.boot,(wrap64 (x6+1)),0⟩ : NodD) s.nodes)) with allocs:=aL,AE:=AL,nE:=nL,cE:=cL,evals:=lL }:Aa).jobs.length≤1048576:=hJ
   have hlL2:lL.length≤s.evals.length+s.allocs.length:=hlL
   have hql2:({ (s.BP A' c' (Fsm.Ak NodD.id (⟨c.node.id,⟨c.node.cap.cpu,c.node.cap.mem⟩,true,x4,c.node.boot,(wrap64 (x6+1)),0⟩ : NodD) s.nodes)) with allocs:=aL,AE:=AL,nE:=nL,cE:=cL,evals:=lL }:Aa).evals.length≤33554432:=by show lL.length≤_;omega
   have hnRl:¬ MW ({ (s.BP A' c' (Fsm.Ak NodD.id (⟨c.node.id,⟨c.node.cap.cpu,c.node.cap.mem⟩,true,x4,c.node.boot,(wrap64 (x6+1)),0⟩ : NodD) s.nodes)) with allocs:=aL,AE:=AL,nE:=nL,cE:=cL,evals:=lL }:Aa) b (C+1):=hML.Cn hRl (by decide)
   have hnJl:¬ MW ({ (s.BP A' c' (Fsm.Ak NodD.id (⟨c.node.id,⟨c.node.cap.cpu,c.node.cap.mem⟩,true,x4,c.node.boot,(wrap64 (x6+1)),0⟩ : NodD) s.nodes)) with allocs:=aL,AE:=AL,nE:=nL,cE:=cL,evals:=lL }:Aa) b J:=hxL.not hnJ5 hJ9.lt
   go_upto_region 17 with (first|go_skip|(go_at_call 70;(with_reducible refine (Hu base b ({ (s.BP A' c' (Fsm.Ak NodD.id (⟨c.node.id,⟨c.node.cap.cpu,c.node.cap.mem⟩,true,x4,c.node.boot,(wrap64 (x6+1)),0⟩ : NodD) s.nodes)) with allocs:=aL,AE:=AL,nE:=nL,cE:=cL,evals:=lL }:Aa) false wl hML hql4 hql1 hql2 hWL).mono ?_);rintro e w8 ⟨A8,c8,l8,rfl,hM8,hD8,hl8,hx8⟩))
   have hR8:=hRl.step hx8 hnRl
   have hJ8:=hJl.step hx8 hnJl
   have hst8:=hstl.trans hx8
   have HD8:=Lib.hid hD8
   have HDL:=Lib.hid hDL
   clear hD8 hDL j0
   generalize hV8:(({ (s.BP A' c' (Fsm.Ak NodD.id (⟨c.node.id,⟨c.node.cap.cpu,c.node.cap.mem⟩,true,x4,c.node.boot,(wrap64 (x6+1)),0⟩ : NodD) s.nodes)) with allocs:=aL,AE:=AL,nE:=nL,cE:=cL,evals:=lL }:Aa).Bf A8 c8 l8)=V8 at hM8 HD8 hst8 hx8
   clear hV8
   have m10:w8.cell? ⟨b,10,none⟩=some (.bool false):=hM8.blk.cell 10
   have m10f:w8.frozen? ⟨b,10,none⟩=false:=hM8.blk.frozen 10
   go_upto_region 18 with (first|go_skip)
   have hMx:Az base (w8.setCell ⟨b,10,none⟩ (.bool true)) b V8 true:=hM8.put 10 _ hM8.own rfl
   have hsx:Ext (fun q=>q=b) w8 (w8.setCell ⟨b,10,none⟩ (.bool true)):=Ext.set1 _ _ _ _
   have hRx:=hR8.ext hsx (fun e=>Blk.ne hR8 hM8.blk (by decide) e)
   have hJx:=hJ8.ext hsx (fun e=>Blk.ne hJ8 hM8.blk (by decide) e)
   have hstx:Step w (w8.setCell ⟨b,10,none⟩ (.bool true)) b s V8:=hst8.cell (s2:=V8) (.inl rfl) (fun q hq=>hq) _
   clear m10 m10f hsx
   generalize (w8.setCell ⟨b,10,none⟩ (.bool true))=wx at hMx hRx hJx hstx ⊢
   have jx:wx.cell? ⟨J,6,none⟩=some (.int .i64 (wrap64 (x6+1))):=hJx.cell 6
   go_wp2_with (first|go_skip|go_guarded|((with_reducible refine isW ?_);refine Af rfl 34 _ _ rfl STResult (C+1) rfl (Au 0 (wrap64 (x6+1))) rfl hRx rfl rfl rfl ?_;intro w9 hR9 hx9))
   exact bodyPost_ret (results_cell rfl STResult (g:=C+1) rfl hR9 rfl) rfl ⟨V8,true,⟨0,(wrap64 (x6+1)),[]⟩,rfl,hMx.keep hx9 (fun e=>Blk.ne hMx.blk hRx (by decide) e) (Apart.one hRx (by decide)),by rw [HFR.out];refine congrArg (fun z=>(z,(⟨0,(wrap64 (x6+1)),[]⟩ : AQ))) ?_;show Fsm.joins s.data (⟨c.node.id,⟨c.node.cap.cpu,c.node.cap.mem⟩,true,x4,c.node.boot,(wrap64 (x6+1)),0⟩ : NodD)=Fsm.came V8.data;rw [HD8.out,HDL.out];rfl,rfl,hstx.fresh hx9 (fun q e=>by have:=HC.out;have:q=C+1:=e;omega)⟩
end Go.Proofs.YtccekmeifanipaaGreat
