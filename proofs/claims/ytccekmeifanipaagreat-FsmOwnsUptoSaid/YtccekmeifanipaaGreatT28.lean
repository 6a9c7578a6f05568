/- Parts of the proof: MRevert -/
import Derived.Test.YtccekmeifanipaaGreatT26
import Derived.Test.YtccekmeifanipaaGreatT18
import Derived.Test.YtccekmeifanipaaGreatT13
namespace Go.Proofs.YtccekmeifanipaaGreat
set_option linter.unusedVariables false
set_option linter.unusedSimpArgs false
set_option linter.unusedSectionVars false
open Go.RowKit
theorem Fsm.J8 {α:Type} {key:α→Int} {x:α}:∀ l:List α,Fsm.Ak key x (Fsm.Ak key x l)=Fsm.Ak key x l
 | []=>by simp [Fsm.Ak]
 | y :: r=>by
  simp only [Fsm.Ak]
  by_cases h:key x≤key y
  ·rw [if_pos h]
   simp only [Fsm.Ak]
   rw [if_pos (Int.le_refl _)]
   rw [List.filter_cons_of_neg (by simp),List.filter_filter]
   congr 1
   exact List.filter_congr (fun z _=>by simp)
  rw [if_neg h]
  simp only [Fsm.Ak]
  rw [if_neg h,Fsm.J8 r]
theorem Fsm.Nh (s:Ab) (k:Int):Fsm.eval (Fsm.eval s k) k=Fsm.eval s k:=by
 unfold Fsm.eval
 cases h:Fsm.AU s k with
 | none=>simp only [];rw [h]
 | some j =>
  simp only []
  rw [show Fsm.AU ({ s with evals:=Fsm.Ak EvalD.job ⟨k,j.prio,1,s.index⟩ s.evals }:Ab) k=some j from h]
  simp only []
  rw [Fsm.J8]
theorem Fsm.K5 (s:Ab) (x:Aq):Fsm.eval (Fsm.begins s x) x.id=Fsm.begins s x:=by
 unfold Fsm.begins
 exact Fsm.Nh _ _
theorem Fsm.Mf (s:Ab) (x:Aq):(Fsm.begins s x).jobs.length≤s.jobs.length+1∧(Fsm.begins s x).evals.length≤s.evals.length+1:=by
 refine ⟨by rw [Fsm.Le];exact Fsm.Cr _,?_⟩
 unfold Fsm.begins
 refine Nat.le_trans (Fsm.Eg _ _) ?_
 split
 ·rw [(Fsm.EA _).1];exact Nat.le_refl _
 exact Nat.le_refl _
theorem Az.off {base b J:Nat} {W W' : World} {s:Aa} {cm:Bool} (h:Az base W b s cm) (hx:Ext (fun q=>q=J) W W') (hn:¬ MW s b J) {cs:Array Value} (hJ:Blk W J 39 cs):Az base W' b s cm :=
 ⟨h.blk.ext hx (fun e=>hn (.inl (Eq.symm e))),⟨⟨Am h.own.j.own hx (fun g hg e=>hn (.inr (.inl (by rw [← show g=J from e];exact hg)))),fun y hy=>(h.own.j.grp y hy).keep hx (Apart.one hJ (by decide))⟩,h.own.jl,⟨Am h.own.t.own hx (fun g hg e=>hn (.inr (.inr (.inl (by rw [← show g=J from e];exact hg))))),fun y hy=>(h.own.t.grp y hy).keep hx (Apart.one hJ (by decide))⟩,h.own.tl,Am h.own.n hx (fun g hg e=>hn (.inr (.inr (.inr (.inl (by rw [← show g=J from e];exact hg)))))),h.own.nl,Am h.own.a hx (fun g hg e=>hn (.inr (.inr (.inr (.inr (.inl (by rw [← show g=J from e];exact hg))))))),h.own.al,Am h.own.e hx (fun g hg e=>hn (.inr (.inr (.inr (.inr (.inr (.inl (by rw [← show g=J from e];exact hg)))))))),h.own.el,Am h.own.d hx (fun g hg e=>hn (.inr (.inr (.inr (.inr (.inr (.inr (.inl (by rw [← show g=J from e];exact hg))))))))),h.own.dl,Am h.own.x hx (fun g hg e=>hn (.inr (.inr (.inr (.inr (.inr (.inr (.inr ((by rw [← show g=J from e];exact hg)))))))))),h.own.xl,h.own.xa,h.own.sep⟩,h.lo⟩
theorem QE {base b n c q:Nat} {W:World} {s:Aa} {cm:Bool} {A:Option Addr} {xs:List Ao} (hM:Az base W b s cm) (ho:W.ownsRow base 66 3 (.slice A n c) n (xs.flatMap Ao.cells)) (hq:A.map (·.block)=some q) (hne:xs.map Ao.cells ≠ []) (hl:n=xs.length):¬ MW s b q:=by
 have hob:(Value.slice A n c).ownBlock=some q ∨ n=0:=by
  rcases ho.2 with ⟨h1,_⟩|⟨g,cap,cur,hv,_,_,_⟩
  ·injection h1 with _ h2 _;exact .inr h2
  injection hv with h1 h2 h3
  subst h1
  exact .inl (by simpa [Value.ownBlock] using hq)
 rcases hob with hob|h0
 ·obtain ⟨cs,hB⟩:=CY ho hob
  intro e
  rcases e with e|e|e|e|e|e|e|e
  ·rw [e] at hB;exact Blk.ne hB hM.blk (by decide) rfl
  ·exact own_ne hM.own.j.own hB (by decide) e
  ·exact own_ne hM.own.t.own hB (by decide) e
  ·exact own_ne hM.own.n hB (by decide) e
  ·exact own_ne hM.own.a hB (by decide) e
  ·exact own_ne hM.own.e hB (by decide) e
  ·exact own_ne hM.own.d hB (by decide) e
  exact own_ne hM.own.x hB (by decide) e
 rw [hl] at h0
 exact absurd (by rw [List.length_eq_zero_iff.1 h0];rfl) hne
set_option maxRecDepth 20000 in
set_option maxHeartbeats 16000000 in
theorem Pz (base b:Nat) (s:Aa) (cm:Bool) (c:Bl) (w:World) (hM:Az base w b s cm) (hb:base≤w.heap.size) (hJ:s.jobs.length≤1048575) (hA:s.allocs.length≤1048576) (hDl:s.deploys.length≤1048575) (hSt:s.stable.length≤33554432) (hE:s.evals.length≤33554432) (hw:Fsm.Wf s.data) :
  Calls Tryz.prog 57 #[.pointer (some ⟨b,0,none⟩),.agg c.arr] w fun e w'=>∃ s' r,e=.returned (.agg (Au r.code r.value))∧Az base w' b s' cm∧Fsm.revert s.data c.d=(s'.data,r)∧r.allocs=[]∧Step w w' b s s':=by
 have hjl:=Lib.hid hM.own.jl
 have hnJ:s.nJ≤67108864:=by have:=hM.own.jl;omega
 have hdl:=Lib.hid hM.own.dl
 have hnD:s.nD≤67108864:=by have:=hM.own.dl;omega
 have htl:=Lib.hid hM.own.tl
 have hnS:s.nS≤67108864:=by have:=hM.own.tl;omega
 rcases AV (fun x:JobV=>x.1.id == c.job.id) s.jobs with ⟨hi,hf,_⟩|⟨i,x,hi,hxi,hp,hf,_⟩
 ·have HF:=Lib.hid (Fsm.Ql (s:=s.data) (c:=c.d) (Ct hf))
  have HI:=Lib.hid hi
  clear hi hf
  obtain ⟨hxW,hCW,hRW⟩:=cmd0 w c
  have hzW:=hxW.size
  have hMW:=hM.e0 hxW
  go_enter Tryz.func57,Tryz.ntmps57
  go_upto_region 1 with (first|go_skip|go_guarded)
  generalize hC:w.heap.size=C at hCW hRW hzW ⊢
  have HC:=Lib.hid hC
  clear hC
  generalize ((w.alloc (.cells c.arr 51)).alloc (.cells #[.int .i64 0,.int .i64 0,.slice none 0 0] 34))=W at hxW hCW hRW hzW hMW ⊢
  have hsl:=hMW.own.slJ
  have ck:W.cell? ⟨C,3,none⟩=some (.int .i64 c.job.id):=hCW.cell 3
  have hd:Ext Nothing W W.drew:=(Ext.refl _ _).drew
  refine zS (S:=fun W'=>Ext Nothing W W') (by kernel_rfl) ?_
  generalize W.drew=Wd at hd ⊢
  refine zV 0 (.pointer (some ⟨b,0,none⟩)) rfl (by kernel_rfl) hd (fun _ _ _ h=>h) (fun W' hS'=>by go_simp) ?_
  refine zV 1 (.pointer (some ⟨b,0,none⟩)) rfl (by kernel_rfl) hd (fun _ _ _ h=>h) (fun W' hS'=>by go_simp) ?_
  refine zV 2 (.pointer (some ⟨b,0,none⟩)) rfl (by kernel_rfl) hd (fun _ _ _ h=>h) (fun W' hS'=>by go_simp) ?_
  refine zV 3 (.agg s.arr) rfl (by kernel_rfl) hd (fun _ _ _ h=>h) (fun W' hS'=>by exact run_load_struct (sz:=9) (b:=b) (off:=0) rfl Aj (by go_simp) (fun j u hu=>hS'.c0 (hMW.at j u hu)) rfl) ?_
  refine zV 4 (.pointer (some ⟨C,3,none⟩)) rfl (by kernel_rfl) hd (fun _ _ _ h=>h) (fun W' hS'=>by go_simp) ?_
  refine zV 5 (.pointer (some ⟨C,3,none⟩)) rfl (by kernel_rfl) hd (fun _ _ _ h=>h) (fun W' hS'=>by go_simp) ?_
  refine zV 6 (.int .i64 c.job.id) rfl (by kernel_rfl) hd (fun _ _ _ h=>h) (fun W' hS'=>by have q:=hS'.c0 ck;go_simp) ?_
  (try simp only [Act.put,zA,zB,zC,zD,zE,zF])
  refine zO 7 (by kernel_rfl) ?_
  refine Ai (f:=61) (args:=#[.agg s.arr,.int .i64 c.job.id]) rfl (by rfl) (by go_simp) ((Bu s.AJ s.nJ s.cJ s.jobs c.job.id Wd (hsl.Al hd) hnJ _ _ _ _ _ _ _ _ _ rfl).mono ?_)
  rintro e w1 ⟨rfl,hx1⟩
  (rw [HI.out])
  have hxc:=hd.tr hx1
  refine ⟨_,rfl,hxc,?_⟩
  (try simp only [Act.put,zA,zB,zC,zD,zE,zF])
  refine zV 8 (.int .i64 (-1)) rfl (by kernel_rfl) hxc (fun _ _ _ h=>h) (fun W' hS'=>by go_simp) ?_
  (try simp only [Act.put,zA,zB,zC,zD,zE,zF])
  refine wpAnyH_done (by kernel_rfl) ?_ _
  (try simp only [Act.put,zA,zB,zC,zD,zE,zF])
  clear hd hx1
  have hM1:=hMW.e0 hxc
  have hR1:=hRW.e0 hxc
  have hC1:=hCW.e0 hxc
  have hx1:=hxW.tr hxc
  clear hxc ck hsl
  have hst:=Step.of0 (b:=b) (s:=s) hx1
  go_wp2_with (first|go_skip|go_guarded|(go_at_call 31;(with_reducible refine (mNo 36 w1).mono ?_);rintro e w8 ⟨rfl,hx8⟩;have hR8:=hR1.e0 hx8)|((with_reducible refine isW ?_);refine Af rfl 34 _ _ rfl STResult (C+1) rfl (Au 36 0) rfl hR8 rfl rfl rfl ?_;intro w9 hR9 hx9))
  have hb9:=(hM1.e0 hx8).blk.lt
  exact bodyPost_ret (results_cell rfl STResult (g:=C+1) rfl hR9 rfl) rfl ⟨s,⟨36,0,[]⟩,rfl,(hM1.e0 hx8).keep hx9 (fun e=>Blk.ne (hM1.e0 hx8).blk hR8 (by decide) e) (Apart.one hR8 (by decide)),HF.out,rfl,(hst.m0 hx8).fresh hx9 (fun q e=>by have:=HC.out;have:q=C+1:=e;omega)⟩
 have hja:=Cs (s:=s) hf
 obtain ⟨hi1,hi2⟩:=List.getElem?_eq_some_iff.1 hxi
 have hgx:=hM.own.j.grp x (List.mem_of_getElem? hxi)
 obtain ⟨_,g,off,hAe,hce⟩:=hM.own.slJ.get (Ext.refl Nothing w) (k:=i) (by have:=hjl.out;omega)
 rw [hi2] at hce
 have hi0:(0:Int)≤(i:Int):=by omega
 have hi1n:(i:Int) < s.nJ:=by have:=hjl.out;omega
 have hig:decide ((i:Int) < 0)=false:=by simp
 have hign:¬ ((i:Int) < 0):=by omega
 obtain ⟨⟨j0,j1,j2,j3,jg,j5,j6⟩,jv⟩:=x
 obtain ⟨GA,gn,gc,hgv,hgo,hgl,hgb⟩:=hgx
 change jv=_ at hgv
 subst hgv
 have hgs:Sl w 3 GA gn (jg.map Ao.cells):=Sl.Bd (f:=Ao.cells) (sz:=3) (fun _=>rfl) hgo hgl
 have HGL:=Lib.hid hgl
 have HCE:=Lib.hid (show ∀ j u,(#[.int .i64 j0,.int .i64 j1,.int .i64 j2,.int .i64 j3,.slice GA gn gc,.int .i64 j5,.bool j6]:Array Value).toList[j]? = some u→w.cell? ⟨g,off+i*7+j,none⟩=some u from hce)
 have HJA:=Lib.hid (show Fsm.AU s.data c.d.job.id=some ⟨j0,j1,j2,j3,jg,j5,j6⟩ from hja)
 have HI:=Lib.hid hi
 have HA:=Lib.hid hAe
 clear hi hf hxi hi2 hAe hp hce hja hgo hgl
 obtain ⟨hxW,hCW,hRW⟩:=cmd0 w c
 have hzW:=hxW.size
 have hMW:=hM.e0 hxW
 go_enter Tryz.func57,Tryz.ntmps57
 go_upto_region 1 with (first|go_skip|go_guarded)
 generalize hC:w.heap.size=C at hCW hRW hzW ⊢
 have HC:=Lib.hid hC
 clear hC
 generalize ((w.alloc (.cells c.arr 51)).alloc (.cells #[.int .i64 0,.int .i64 0,.slice none 0 0] 34))=W at hxW hCW hRW hzW hMW ⊢
 have hsl:=hMW.own.slJ
 have ck:W.cell? ⟨C,3,none⟩=some (.int .i64 c.job.id):=hCW.cell 3
 have hd:Ext Nothing W W.drew:=(Ext.refl _ _).drew
 refine zS (S:=fun W'=>Ext Nothing W W') (by kernel_rfl) ?_
 generalize W.drew=Wd at hd ⊢
 refine zV 0 (.pointer (some ⟨b,0,none⟩)) rfl (by kernel_rfl) hd (fun _ _ _ h=>h) (fun W' hS'=>by go_simp) ?_
 refine zV 1 (.pointer (some ⟨b,0,none⟩)) rfl (by kernel_rfl) hd (fun _ _ _ h=>h) (fun W' hS'=>by go_simp) ?_
 refine zV 2 (.pointer (some ⟨b,0,none⟩)) rfl (by kernel_rfl) hd (fun _ _ _ h=>h) (fun W' hS'=>by go_simp) ?_
 refine zV 3 (.agg s.arr) rfl (by kernel_rfl) hd (fun _ _ _ h=>h) (fun W' hS'=>by exact run_load_struct (sz:=9) (b:=b) (off:=0) rfl Aj (by go_simp) (fun j u hu=>hS'.c0 (hMW.at j u hu)) rfl) ?_
 refine zV 4 (.pointer (some ⟨C,3,none⟩)) rfl (by kernel_rfl) hd (fun _ _ _ h=>h) (fun W' hS'=>by go_simp) ?_
 refine zV 5 (.pointer (some ⟨C,3,none⟩)) rfl (by kernel_rfl) hd (fun _ _ _ h=>h) (fun W' hS'=>by go_simp) ?_
 refine zV 6 (.int .i64 c.job.id) rfl (by kernel_rfl) hd (fun _ _ _ h=>h) (fun W' hS'=>by have q:=hS'.c0 ck;go_simp) ?_
 (try simp only [Act.put,zA,zB,zC,zD,zE,zF])
 refine zO 7 (by kernel_rfl) ?_
 refine Ai (f:=61) (args:=#[.agg s.arr,.int .i64 c.job.id]) rfl (by rfl) (by go_simp) ((Bu s.AJ s.nJ s.cJ s.jobs c.job.id Wd (hsl.Al hd) hnJ _ _ _ _ _ _ _ _ _ rfl).mono ?_)
 rintro e w1 ⟨rfl,hx1⟩
 (rw [HI.out])
 have hxc:=hd.tr hx1
 refine ⟨_,rfl,hxc,?_⟩
 (try simp only [Act.put,zA,zB,zC,zD,zE,zF])
 refine zV 8 (.int .i64 (i:Int)) rfl (by kernel_rfl) hxc (fun _ _ _ h=>h) (fun W' hS'=>by go_simp) ?_
 (try simp only [Act.put,zA,zB,zC,zD,zE,zF])
 refine wpAnyH_done (by kernel_rfl) ?_ _
 (try simp only [Act.put,zA,zB,zC,zD,zE,zF])
 clear hd hx1
 have hM1:=hMW.e0 hxc
 have hR1:=hRW.e0 hxc
 have hC1:=hCW.e0 hxc
 have hx1:=hxW.tr hxc
 clear hxc ck hsl
 have hce1:∀ j u,(#[.int .i64 j0,.int .i64 j1,.int .i64 j2,.int .i64 j3,.slice GA gn gc,.int .i64 j5,.bool j6]:Array Value).toList[j]? = some u→w1.cell? ⟨g,off+i*7+j,none⟩=some u:=fun j u hu=>hx1.c0 (HCE.out j u hu)
 have m2:w1.cell? ⟨b,2,none⟩=some (.slice (some ⟨g,off,none⟩) s.nJ s.cJ):=by rw [← HA.out];exact hM1.blk.cell 2
 have hxj1:Ext Nothing w1 (w1.alloc (.cells #[.int .i64 j0,.int .i64 j1,.int .i64 j2,.int .i64 j3,.slice GA gn gc,.int .i64 j5,.bool j6] 39)):=Ext.Ay
 have hJj:Blk (w1.alloc (.cells #[.int .i64 j0,.int .i64 j1,.int .i64 j2,.int .i64 j3,.slice GA gn gc,.int .i64 j5,.bool j6] 39)) w1.heap.size 39 #[.int .i64 j0,.int .i64 j1,.int .i64 j2,.int .i64 j3,.slice GA gn gc,.int .i64 j5,.bool j6]:=Blk.new _ _ _
 go_upto_region 5 with (first|go_skip|go_guarded|((with_reducible refine isW ?_);refine Ad rfl 39 _ rfl STJob g (off+i*7) rfl #[.int .i64 j0,.int .i64 j1,.int .i64 j2,.int .i64 j3,.slice GA gn gc,.int .i64 j5,.bool j6] hce1 rfl ?_))
 have hMj:=hM1.e0 hxj1
 have hRj:=hR1.e0 hxj1
 have hCj:=hC1.e0 hxj1
 have hxj:=hx1.tr hxj1
 have hz1:C+1 < w1.heap.size:=hR1.lt
 clear m2 hce1 hxj1 hM1 hR1 hC1 hx1 hMW hRW hCW hxW
 generalize w1.heap.size=J at hJj hz1 ⊢
 have hJn0:¬ MW s b J:=fun e=>by have:=hM.FL e;have:=HC.out;omega
 generalize (w1.alloc (.cells #[.int .i64 j0,.int .i64 j1,.int .i64 j2,.int .i64 j3,.slice GA gn gc,.int .i64 j5,.bool j6] 39))=wj at hJj hMj hRj hCj hxj ⊢
 clear HI
 have hsd:=hMj.own.slD
 rcases AV (fun x:DepD=>x.job == j0) s.deploys with ⟨hk,hkf,_⟩|⟨k,d,hk,hxk,hkp,hkf,hkfirst⟩
 ·have HF:=Lib.hid (Fsm.QG HJA.out (show Fsm.JM s.data j0=none from hkf))
  have HI:=Lib.hid hk
  clear hk hkf
  have ck:wj.cell? ⟨J,0,none⟩=some (.int .i64 j0):=hJj.cell 0
  have hd:Ext Nothing wj wj.drew:=(Ext.refl _ _).drew
  refine zS (S:=fun W'=>Ext Nothing wj W') (by kernel_rfl) ?_
  generalize wj.drew=Wd at hd ⊢
  refine zV 0 (.pointer (some ⟨b,0,none⟩)) rfl (by kernel_rfl) hd (fun _ _ _ h=>h) (fun W' hS'=>by go_simp) ?_
  refine zV 1 (.pointer (some ⟨b,0,none⟩)) rfl (by kernel_rfl) hd (fun _ _ _ h=>h) (fun W' hS'=>by go_simp) ?_
  refine zV 2 (.pointer (some ⟨b,0,none⟩)) rfl (by kernel_rfl) hd (fun _ _ _ h=>h) (fun W' hS'=>by go_simp) ?_
  refine zV 3 (.agg s.arr) rfl (by kernel_rfl) hd (fun _ _ _ h=>h) (fun W' hS'=>by exact run_load_struct (sz:=9) (b:=b) (off:=0) rfl Aj (by go_simp) (fun j u hu=>hS'.c0 (hMj.at j u hu)) rfl) ?_
  refine zV 4 (.pointer (some ⟨J,0,none⟩)) rfl (by kernel_rfl) hd (fun _ _ _ h=>h) (fun W' hS'=>by go_simp) ?_
  refine zV 5 (.int .i64 j0) rfl (by kernel_rfl) hd (fun _ _ _ h=>h) (fun W' hS'=>by have q:=hS'.c0 ck;go_simp) ?_
  (try simp only [Act.put,zA,zB,zC,zD,zE,zF])
  refine zO 6 (by kernel_rfl) ?_
  refine Ai (f:=63) (args:=#[.agg s.arr,.int .i64 j0]) rfl (by rfl) (by go_simp) ((Dm s.AD s.nD s.cD s.deploys j0 Wd (hsd.Al hd) hnD _ _ _ _ _ _ _ _ _ rfl).mono ?_)
  rintro e w5 ⟨rfl,hx1⟩
  (rw [HI.out])
  have hxc:=hd.tr hx1
  refine ⟨_,rfl,hxc,?_⟩
  (try simp only [Act.put,zA,zB,zC,zD,zE,zF])
  refine zV 7 (.int .i64 (-1)) rfl (by kernel_rfl) hxc (fun _ _ _ h=>h) (fun W' hS'=>by go_simp) ?_
  (try simp only [Act.put,zA,zB,zC,zD,zE,zF])
  refine wpAnyH_done (by kernel_rfl) ?_ _
  (try simp only [Act.put,zA,zB,zC,zD,zE,zF])
  clear hd hx1
  have hM5:=hMj.e0 hxc
  have hR5:=hRj.e0 hxc
  have hC5:=hCj.e0 hxc
  have hJ5:=hJj.e0 hxc
  have hx5:=hxj.tr hxc
  have q5:w5.cell? ⟨J,5,none⟩=some (.int .i64 j5):=hJ5.cell 5
  have c8:w5.cell? ⟨C,8,none⟩=some (.int .i64 c.job.ver):=hC5.cell 8
  clear hxc ck hsd hMj hRj hCj hJj hxj
  go_upto_region 6 with (first|go_skip|go_guarded)
  cases e1:(j5 != c.job.ver) with
  | true =>
   go_quiet (fail)
   have hdq:=(Ext.refl Nothing w5).drewN nq
   generalize w5.drewN nq=w6 at hdq ⊢
   go_upto_region 7 with (first|go_skip|go_guarded)
   have hM6:=hM5.e0 hdq
   have hR6:=hR5.e0 hdq
   have hst:=Step.of0 (b:=b) (s:=s) (hx5.tr hdq)
   go_wp2_with (first|go_skip|go_guarded|(go_at_call 31;(with_reducible refine (mNo 33 w6).mono ?_);rintro e w8 ⟨rfl,hx8⟩;have hR8:=hR6.e0 hx8)|((with_reducible refine isW ?_);refine Af rfl 34 _ _ rfl STResult (C+1) rfl (Au 33 0) rfl hR8 rfl rfl rfl ?_;intro w9 hR9 hx9))
   have hb9:=(hM6.e0 hx8).blk.lt
   exact bodyPost_ret (results_cell rfl STResult (g:=C+1) rfl hR9 rfl) rfl ⟨s,⟨33,0,[]⟩,rfl,(hM6.e0 hx8).keep hx9 (fun e=>Blk.ne (hM6.e0 hx8).blk hR8 (by decide) e) (Apart.one hR8 (by decide)),HF.out,rfl,(hst.m0 hx8).fresh hx9 (fun q e=>by have:=HC.out;have:q=C+1:=e;omega)⟩
  | false =>
   go_quiet (fail)
   have hdq:=(Ext.refl Nothing w5).drewN nq
   generalize w5.drewN nq=w6 at hdq ⊢
   go_upto_region 7 with (first|go_skip|go_guarded)
   have hM6:=hM5.e0 hdq
   have hR6:=hR5.e0 hdq
   have hst:=Step.of0 (b:=b) (s:=s) (hx5.tr hdq)
   go_wp2_with (first|go_skip|go_guarded|(go_at_call 31;(with_reducible refine (mNo 33 w6).mono ?_);rintro e w8 ⟨rfl,hx8⟩;have hR8:=hR6.e0 hx8)|((with_reducible refine isW ?_);refine Af rfl 34 _ _ rfl STResult (C+1) rfl (Au 33 0) rfl hR8 rfl rfl rfl ?_;intro w9 hR9 hx9))
   have hb9:=(hM6.e0 hx8).blk.lt
   exact bodyPost_ret (results_cell rfl STResult (g:=C+1) rfl hR9 rfl) rfl ⟨s,⟨33,0,[]⟩,rfl,(hM6.e0 hx8).keep hx9 (fun e=>Blk.ne (hM6.e0 hx8).blk hR8 (by decide) e) (Apart.one hR8 (by decide)),HF.out,rfl,(hst.m0 hx8).fresh hx9 (fun q e=>by have:=HC.out;have:q=C+1:=e;omega)⟩
 obtain ⟨d0,d1,d2,d3⟩:=d
 have HDA:=Lib.hid (show Fsm.JM s.data j0=some ⟨d0,d1,d2,d3⟩ from hkf)
 have HTD:=Lib.hid (Fsm.BF (f:=fun d:DepD=>{ d with state:=3 }) hxk hkp hkfirst)
 have hk0:(0:Int)≤(k:Int):=by omega
 have hk1:(k:Int) < s.nD:=by have:=hdl.out;have:=(List.getElem?_eq_some_iff.1 hxk).1;omega
 have hkg:decide ((k:Int) < 0)=false:=by simp
 have HI:=Lib.hid hk
 have HXK:=Lib.hid hxk
 clear hk hkf hkp hkfirst hxk
 have ck:wj.cell? ⟨J,0,none⟩=some (.int .i64 j0):=hJj.cell 0
 have hd:Ext Nothing wj wj.drew:=(Ext.refl _ _).drew
 refine zS (S:=fun W'=>Ext Nothing wj W') (by kernel_rfl) ?_
 generalize wj.drew=Wd at hd ⊢
 refine zV 0 (.pointer (some ⟨b,0,none⟩)) rfl (by kernel_rfl) hd (fun _ _ _ h=>h) (fun W' hS'=>by go_simp) ?_
 refine zV 1 (.pointer (some ⟨b,0,none⟩)) rfl (by kernel_rfl) hd (fun _ _ _ h=>h) (fun W' hS'=>by go_simp) ?_
 refine zV 2 (.pointer (some ⟨b,0,none⟩)) rfl (by kernel_rfl) hd (fun _ _ _ h=>h) (fun W' hS'=>by go_simp) ?_
 refine zV 3 (.agg s.arr) rfl (by kernel_rfl) hd (fun _ _ _ h=>h) (fun W' hS'=>by exact run_load_struct (sz:=9) (b:=b) (off:=0) rfl Aj (by go_simp) (fun j u hu=>hS'.c0 (hMj.at j u hu)) rfl) ?_
 refine zV 4 (.pointer (some ⟨J,0,none⟩)) rfl (by kernel_rfl) hd (fun _ _ _ h=>h) (fun W' hS'=>by go_simp) ?_
 refine zV 5 (.int .i64 j0) rfl (by kernel_rfl) hd (fun _ _ _ h=>h) (fun W' hS'=>by have q:=hS'.c0 ck;go_simp) ?_
 (try simp only [Act.put,zA,zB,zC,zD,zE,zF])
 refine zO 6 (by kernel_rfl) ?_
 refine Ai (f:=63) (args:=#[.agg s.arr,.int .i64 j0]) rfl (by rfl) (by go_simp) ((Dm s.AD s.nD s.cD s.deploys j0 Wd (hsd.Al hd) hnD _ _ _ _ _ _ _ _ _ rfl).mono ?_)
 rintro e w5 ⟨rfl,hx1⟩
 (rw [HI.out])
 have hxc:=hd.tr hx1
 refine ⟨_,rfl,hxc,?_⟩
 (try simp only [Act.put,zA,zB,zC,zD,zE,zF])
 refine zV 7 (.int .i64 (k:Int)) rfl (by kernel_rfl) hxc (fun _ _ _ h=>h) (fun W' hS'=>by go_simp) ?_
 (try simp only [Act.put,zA,zB,zC,zD,zE,zF])
 refine wpAnyH_done (by kernel_rfl) ?_ _
 (try simp only [Act.put,zA,zB,zC,zD,zE,zF])
 clear hd hx1
 have hM5:=hMj.e0 hxc
 have hR5:=hRj.e0 hxc
 have hC5:=hCj.e0 hxc
 have hJ5:=hJj.e0 hxc
 have hx5:=hxj.tr hxc
 have q5:w5.cell? ⟨J,5,none⟩=some (.int .i64 j5):=hJ5.cell 5
 have c8:w5.cell? ⟨C,8,none⟩=some (.int .i64 c.job.ver):=hC5.cell 8
 clear hxc ck hsd hMj hRj hCj hJj hxj
 obtain ⟨gd,curd,hAd,hobd,hgbd,_,hced,_⟩:=hM5.own.Js HXK.out
 change s.AD=_ at hAd
 have m7:w5.cell? ⟨b,7,none⟩=some (.slice (some ⟨gd,0,none⟩) s.nD s.cD):=by rw [← hAd];exact hM5.blk.cell 7
 have q2:w5.cell? ⟨gd,k*4+2,none⟩=some (.int .i64 d2):=hced 2 _ rfl
 have q1:w5.cell? ⟨gd,k*4+1,none⟩=some (.int .i64 d1):=hced 1 _ rfl
 have HAD:=Lib.hid hAd
 clear hAd hced
 go_upto_region 6 with (first|go_skip|go_guarded)
 cases e1:(j5 != c.job.ver) with
 | true =>
  have HF:=Lib.hid (Fsm.Mm HJA.out HDA.out (show (!(j5 == c.job.ver) || !(d2 == 1) || !(d1 == j5))=true by rw [show (!(j5 == c.job.ver))=true from e1];rfl))
  go_quiet (fail)
  have hdq:=(Ext.refl Nothing w5).drewN nq
  generalize w5.drewN nq=w6 at hdq ⊢
  go_upto_region 7 with (first|go_skip|go_guarded)
  have hM6:=hM5.e0 hdq
  have hR6:=hR5.e0 hdq
  have hst:=Step.of0 (b:=b) (s:=s) (hx5.tr hdq)
  go_wp2_with (first|go_skip|go_guarded|(go_at_call 31;(with_reducible refine (mNo 33 w6).mono ?_);rintro e w8 ⟨rfl,hx8⟩;have hR8:=hR6.e0 hx8)|((with_reducible refine isW ?_);refine Af rfl 34 _ _ rfl STResult (C+1) rfl (Au 33 0) rfl hR8 rfl rfl rfl ?_;intro w9 hR9 hx9))
  have hb9:=(hM6.e0 hx8).blk.lt
  exact bodyPost_ret (results_cell rfl STResult (g:=C+1) rfl hR9 rfl) rfl ⟨s,⟨33,0,[]⟩,rfl,(hM6.e0 hx8).keep hx9 (fun e=>Blk.ne (hM6.e0 hx8).blk hR8 (by decide) e) (Apart.one hR8 (by decide)),HF.out,rfl,(hst.m0 hx8).fresh hx9 (fun q e=>by have:=HC.out;have:q=C+1:=e;omega)⟩
 | false =>
  cases e2:(d2 != 1) with
  | true =>
   have HF:=Lib.hid (Fsm.Mm HJA.out HDA.out (show (!(j5 == c.job.ver) || !(d2 == 1) || !(d1 == j5))=true by rw [show (!(d2 == 1))=true from e2];simp))
   go_quiet (fail)
   have hdq:=(Ext.refl Nothing w5).drewN nq
   generalize w5.drewN nq=w6 at hdq ⊢
   go_upto_region 7 with (first|go_skip|go_guarded)
   have hM6:=hM5.e0 hdq
   have hR6:=hR5.e0 hdq
   have hst:=Step.of0 (b:=b) (s:=s) (hx5.tr hdq)
   go_wp2_with (first|go_skip|go_guarded|(go_at_call 31;(with_reducible refine (mNo 33 w6).mono ?_);rintro e w8 ⟨rfl,hx8⟩;have hR8:=hR6.e0 hx8)|((with_reducible refine isW ?_);refine Af rfl 34 _ _ rfl STResult (C+1) rfl (Au 33 0) rfl hR8 rfl rfl rfl ?_;intro w9 hR9 hx9))
   have hb9:=(hM6.e0 hx8).blk.lt
   exact bodyPost_ret (results_cell rfl STResult (g:=C+1) rfl hR9 rfl) rfl ⟨s,⟨33,0,[]⟩,rfl,(hM6.e0 hx8).keep hx9 (fun e=>Blk.ne (hM6.e0 hx8).blk hR8 (by decide) e) (Apart.one hR8 (by decide)),HF.out,rfl,(hst.m0 hx8).fresh hx9 (fun q e=>by have:=HC.out;have:q=C+1:=e;omega)⟩
  | false =>
   cases e3:(d1 != j5) with
   | true =>
    have HF:=Lib.hid (Fsm.Mm HJA.out HDA.out (show (!(j5 == c.job.ver) || !(d2 == 1) || !(d1 == j5))=true by rw [show (!(d1 == j5))=true from e3];simp))
    go_quiet (fail)
    have hdq:=(Ext.refl Nothing w5).drewN nq
    generalize w5.drewN nq=w6 at hdq ⊢
    go_upto_region 7 with (first|go_skip|go_guarded)
    have hM6:=hM5.e0 hdq
    have hR6:=hR5.e0 hdq
    have hst:=Step.of0 (b:=b) (s:=s) (hx5.tr hdq)
    go_wp2_with (first|go_skip|go_guarded|(go_at_call 31;(with_reducible refine (mNo 33 w6).mono ?_);rintro e w8 ⟨rfl,hx8⟩;have hR8:=hR6.e0 hx8)|((with_reducible refine isW ?_);refine Af rfl 34 _ _ rfl STResult (C+1) rfl (Au 33 0) rfl hR8 rfl rfl rfl ?_;intro w9 hR9 hx9))
    have hb9:=(hM6.e0 hx8).blk.lt
    exact bodyPost_ret (results_cell rfl STResult (g:=C+1) rfl hR9 rfl) rfl ⟨s,⟨33,0,[]⟩,rfl,(hM6.e0 hx8).keep hx9 (fun e=>Blk.ne (hM6.e0 hx8).blk hR8 (by decide) e) (Apart.one hR8 (by decide)),HF.out,rfl,(hst.m0 hx8).fresh hx9 (fun q e=>by have:=HC.out;have:q=C+1:=e;omega)⟩
   | false =>
    have HB:=Lib.hid (show (!(j5 == c.job.ver) || !(d2 == 1) || !(d1 == j5))=false by rw [show (!(j5 == c.job.ver))=false from e1,show (!(d2 == 1))=false from e2,show (!(d1 == j5))=false from e3];rfl)
    go_quiet (fail)
    have hdq:=(Ext.refl Nothing w5).drewN nq
    generalize w5.drewN nq=w6 at hdq ⊢
    go_upto_region 8 with (first|go_skip|go_guarded)
    have hM6:=hM5.e0 hdq
    have hR6:=hR5.e0 hdq
    have hJ6:=hJ5.e0 hdq
    have hx6:=hx5.tr hdq
    have hgd6:=hgbd.e0 hdq
    clear q1 q2 q5 c8 m7 e1 e2 e3 hM5 hR5 hC5 hJ5 hx5 hgbd hdq HI
    have hss:=hM6.own.slT
    rcases AV (fun x:JobV=>x.1.id == j0) s.stable with ⟨hs,hsf,_⟩|⟨m,x,hs,hxm,hsp,hsf,_⟩
    ·have HF:=Lib.hid (Fsm.Pj HJA.out HDA.out HB.out (Jl hsf))
     have HI:=Lib.hid hs
     clear hs hsf
     have ck:w6.cell? ⟨J,0,none⟩=some (.int .i64 j0):=hJ6.cell 0
     have hd:Ext Nothing w6 w6.drew:=(Ext.refl _ _).drew
     refine zS (S:=fun W'=>Ext Nothing w6 W') (by kernel_rfl) ?_
     generalize w6.drew=Wd at hd ⊢
     refine zV 0 (.pointer (some ⟨b,0,none⟩)) rfl (by kernel_rfl) hd (fun _ _ _ h=>h) (fun W' hS'=>by go_simp) ?_
     refine zV 1 (.pointer (some ⟨b,0,none⟩)) rfl (by kernel_rfl) hd (fun _ _ _ h=>h) (fun W' hS'=>by go_simp) ?_
     refine zV 2 (.pointer (some ⟨b,0,none⟩)) rfl (by kernel_rfl) hd (fun _ _ _ h=>h) (fun W' hS'=>by go_simp) ?_
     refine zV 3 (.agg s.arr) rfl (by kernel_rfl) hd (fun _ _ _ h=>h) (fun W' hS'=>by exact run_load_struct (sz:=9) (b:=b) (off:=0) rfl Aj (by go_simp) (fun j u hu=>hS'.c0 (hM6.at j u hu)) rfl) ?_
     refine zV 4 (.pointer (some ⟨J,0,none⟩)) rfl (by kernel_rfl) hd (fun _ _ _ h=>h) (fun W' hS'=>by go_simp) ?_
     refine zV 5 (.int .i64 j0) rfl (by kernel_rfl) hd (fun _ _ _ h=>h) (fun W' hS'=>by have q:=hS'.c0 ck;go_simp) ?_
     (try simp only [Act.put,zA,zB,zC,zD,zE,zF])
     refine zO 6 (by kernel_rfl) ?_
     refine Ai (f:=80) (args:=#[.agg s.arr,.int .i64 j0]) rfl (by rfl) (by go_simp) ((IR s.AS s.nS s.cS s.stable j0 Wd (hss.Al hd) hnS _ _ _ _ _ _ _ _ _ rfl).mono ?_)
     rintro e w8 ⟨rfl,hx1⟩
     (rw [HI.out])
     have hxc:=hd.tr hx1
     refine ⟨_,rfl,hxc,?_⟩
     (try simp only [Act.put,zA,zB,zC,zD,zE,zF])
     refine zV 7 (.int .i64 (-1)) rfl (by kernel_rfl) hxc (fun _ _ _ h=>h) (fun W' hS'=>by go_simp) ?_
     (try simp only [Act.put,zA,zB,zC,zD,zE,zF])
     refine wpAnyH_done (by kernel_rfl) ?_ _
     (try simp only [Act.put,zA,zB,zC,zD,zE,zF])
     clear hd hx1
     have hM8:=hM6.e0 hxc
     have hR8a:=hR6.e0 hxc
     have hJ8:=hJ6.e0 hxc
     have hx8:=hx6.tr hxc
     have hgd8:=hgd6.e0 hxc
     clear hxc ck hss hM6 hR6 hJ6 hx6 hgd6
     go_upto_region 9 with (first|go_skip|go_guarded)
     refine AY (by kernel_rfl) (by kernel_rfl) ?_
     repeat (first|go_big_quiet_skip|(go_big_quiet_want;(first|go_big_quiet_op);go_big_quiet_on))
     refine wpQuiet_nil ?_
     intro w9 hx9a
     have hM9a:=hM8.e0 hx9a
     have hR9a:=hR8a.e0 hx9a
     have hJ9a:=hJ8.e0 hx9a
     have hx09:=hx8.tr hx9a
     have hgd9:=hgd8.e0 hx9a
     go_upto_region 12 with (first|go_skip|go_guarded)
     obtain ⟨gd',curd',hAd',hobd',hgbd',_,hced',hputd'⟩:=hM9a.own.Js HXK.out
     have hgg:gd=gd':=by have h7:s.AD=some ⟨gd',0,none⟩:=hAd';rw [HAD.out] at h7;injection h7 with h7;injection h7
     subst hgg
     clear hAd'
     have m7:w9.cell? ⟨b,7,none⟩=some (.slice (some ⟨gd,0,none⟩) s.nD s.cD):=by rw [← HAD.out];exact hM9a.blk.cell 7
     have k2:w9.cell? ⟨gd,k*4+2,none⟩=some (.int .i64 d2):=hced' 2 _ rfl
     have f2:w9.frozen? ⟨gd,k*4+2,none⟩=false:=hgbd'.frozen _
     go_upto_region 13 with (first|go_skip|go_guarded)
     have hs12:Ext (fun q=>q=gd) w9 (w9.setCell ⟨gd,k*4+2,none⟩ (.int .i64 3)):=Ext.set1 _ _ _ _
     have hO12:Aw base (w9.setCell ⟨gd,k*4+2,none⟩ (.int .i64 3)) ({ s with deploys:=s.deploys.set k ⟨d0,d1,3,d3⟩ }:Aa):=hputd' 2 (.int .i64 3) ⟨d0,d1,3,d3⟩ (by decide) rfl
     have hbgd:¬ (b=gd):=fun e=>Blk.ne hM9a.blk hgbd' (by decide) e
     have hM12:Az base (w9.setCell ⟨gd,k*4+2,none⟩ (.int .i64 3)) b ({ s with deploys:=s.deploys.set k ⟨d0,d1,3,d3⟩ }:Aa) cm:=⟨hM9a.blk.ext hs12 hbgd,hO12,hM9a.lo⟩
     have hR12:=hR9a.ext hs12 (fun e=>Blk.ne hR9a hgbd' (by decide) e)
     have hJ12:=hJ9a.ext hs12 (fun e=>Blk.ne hJ9a hgbd' (by decide) e)
     have hst12:Step w (w9.setCell ⟨gd,k*4+2,none⟩ (.int .i64 3)) b s ({ s with deploys:=s.deploys.set k ⟨d0,d1,3,d3⟩ }:Aa):=(Step.of0 hx09).cell (s2:=({ s with deploys:=s.deploys.set k ⟨d0,d1,3,d3⟩ }:Aa)) (MW.oD (s:=s) hobd') (fun q hq=>hq) _
     clear m7 k2 f2 hs12 hO12 hbgd hputd' hced' hgbd' hobd'
     generalize (w9.setCell ⟨gd,k*4+2,none⟩ (.int .i64 3))=w12 at hM12 hR12 hJ12 hst12 ⊢
     have k0:w12.cell? ⟨J,0,none⟩=some (.int .i64 j0):=hJ12.cell 0
     have hq4:base≤w12.heap.size:=by have:=hst12.size;omega
     have hq1:({ s with deploys:=s.deploys.set k ⟨d0,d1,3,d3⟩ }:Aa).jobs.length≤67108864:=by show s.jobs.length≤_;omega
     have hq2:({ s with deploys:=s.deploys.set k ⟨d0,d1,3,d3⟩ }:Aa).evals.length≤67108862:=by show s.evals.length≤_;omega
     have hq3:Fsm.Up EvalD.job ({ s with deploys:=s.deploys.set k ⟨d0,d1,3,d3⟩ }:Aa).evals:=hw.e
     have hnR:¬ MW ({ s with deploys:=s.deploys.set k ⟨d0,d1,3,d3⟩ }:Aa) b (C+1):=hM12.Cn hR12 (by decide)
     have hnJb:¬ MW ({ s with deploys:=s.deploys.set k ⟨d0,d1,3,d3⟩ }:Aa) b J:=hJn0
     go_wp2_with (first|go_skip|go_guarded|(go_at_call 64;(with_reducible refine (Ef base b ({ s with deploys:=s.deploys.set k ⟨d0,d1,3,d3⟩ }:Aa) cm j0 w12 hM12 hq4 hq1 hq2 hq3).mono ?_);rintro e w7 ⟨A7,c7,l7,rfl,hM9,hD7,hx7⟩;have hR7:=hR12.step hx7 hnR;have k57:w7.cell? ⟨J,5,none⟩=some (.int .i64 j5):=(hJ12.step hx7 hnJb).cell 5)|((with_reducible refine isW ?_);refine Af rfl 34 _ _ rfl STResult (C+1) rfl (Au 0 j5) rfl hR7 rfl rfl rfl ?_;intro w9 hR9 hx9))
     exact bodyPost_ret (results_cell rfl STResult (g:=C+1) rfl hR9 rfl) rfl ⟨_,⟨0,j5,[]⟩,rfl,hM9.keep hx9 (fun e=>Blk.ne hM9.blk hR7 (by decide) e) (Apart.one hR7 (by decide)),by rw [HF.out,hD7];exact congrArg (fun z=>(Fsm.eval ({ s.data with deploys:=z }:Ab) j0,(⟨0,j5,[]⟩ : AQ))) HTD.out,rfl,(hst12.trans hx7).fresh hx9 (fun q e=>by have:=HC.out;have:q=C+1:=e;omega)⟩
    have hsa:=Jt (s:=s) hsf
    obtain ⟨hi1,hi2⟩:=List.getElem?_eq_some_iff.1 hxm
    have hgx:=hM.own.t.grp x (List.mem_of_getElem? hxm)
    have htc:=hw.tc x.1 (List.mem_map_of_mem (List.mem_of_getElem? hxm))
    obtain ⟨_,gs,offs,hAs,hcs⟩:=hM.own.slT.get (Ext.refl Nothing w) (k:=m) (by have:=htl.out;omega)
    rw [hi2] at hcs
    have hm0:(0:Int)≤(m:Int):=by omega
    have hm1:(m:Int) < s.nS:=by have:=htl.out;omega
    have hmg:decide ((0:Int)≤(m:Int))=true:=by simp
    have hidx:j0=x.1.id:=(show x.1.id=j0 by simpa using hsp).symm
    obtain ⟨⟨x0,x1,x2,x3,xg,x5,x6⟩,xv⟩:=x
    change j0=x0 at hidx
    subst hidx
    obtain ⟨GS,sn,sc,hgv,hgo,hgl2,hgb2⟩:=hgx
    change xv=_ at hgv
    subst hgv
    have hgs2:Sl w 3 GS sn (xg.map Ao.cells):=Sl.Bd (f:=Ao.cells) (sz:=3) (fun _=>rfl) hgo hgl2
    have hGSn:∀ q,GS.map (·.block)=some q→xg.map Ao.cells ≠ []→¬ MW s b q:=fun q hq hne=>QE hM hgo hq hne hgl2
    have HGL2:=Lib.hid hgl2
    have HCS:=Lib.hid (show ∀ j u,(#[.int .i64 j0,.int .i64 x1,.int .i64 x2,.int .i64 x3,.slice GS sn sc,.int .i64 x5,.bool x6]:Array Value).toList[j]? = some u→w.cell? ⟨gs,offs+m*7+j,none⟩=some u from hcs)
    have HSA:=Lib.hid (show Fsm.Dp s.data j0=some ⟨j0,x1,x2,x3,xg,x5,x6⟩ from hsa)
    have HTC:=Lib.hid (show Fsm.cnt ⟨j0,x1,x2,x3,xg,x5,x6⟩ from htc)
    have HI:=Lib.hid hs
    have HXM:=Lib.hid hxm
    have HAS:=Lib.hid hAs
    clear hs hsf hxm hi2 hAs hsp hcs hsa htc hgo hgl2
    have ck:w6.cell? ⟨J,0,none⟩=some (.int .i64 j0):=hJ6.cell 0
    have hd:Ext Nothing w6 w6.drew:=(Ext.refl _ _).drew
    refine zS (S:=fun W'=>Ext Nothing w6 W') (by kernel_rfl) ?_
    generalize w6.drew=Wd at hd ⊢
    refine zV 0 (.pointer (some ⟨b,0,none⟩)) rfl (by kernel_rfl) hd (fun _ _ _ h=>h) (fun W' hS'=>by go_simp) ?_
    refine zV 1 (.pointer (some ⟨b,0,none⟩)) rfl (by kernel_rfl) hd (fun _ _ _ h=>h) (fun W' hS'=>by go_simp) ?_
    refine zV 2 (.pointer (some ⟨b,0,none⟩)) rfl (by kernel_rfl) hd (fun _ _ _ h=>h) (fun W' hS'=>by go_simp) ?_
    refine zV 3 (.agg s.arr) rfl (by kernel_rfl) hd (fun _ _ _ h=>h) (fun W' hS'=>by exact run_load_struct (sz:=9) (b:=b) (off:=0) rfl Aj (by go_simp) (fun j u hu=>hS'.c0 (hM6.at j u hu)) rfl) ?_
    refine zV 4 (.pointer (some ⟨J,0,none⟩)) rfl (by kernel_rfl) hd (fun _ _ _ h=>h) (fun W' hS'=>by go_simp) ?_
    refine zV 5 (.int .i64 j0) rfl (by kernel_rfl) hd (fun _ _ _ h=>h) (fun W' hS'=>by have q:=hS'.c0 ck;go_simp) ?_
    (try simp only [Act.put,zA,zB,zC,zD,zE,zF])
    refine zO 6 (by kernel_rfl) ?_
    refine Ai (f:=80) (args:=#[.agg s.arr,.int .i64 j0]) rfl (by rfl) (by go_simp) ((IR s.AS s.nS s.cS s.stable j0 Wd (hss.Al hd) hnS _ _ _ _ _ _ _ _ _ rfl).mono ?_)
    rintro e w8 ⟨rfl,hx1⟩
    (rw [HI.out])
    have hxc:=hd.tr hx1
    refine ⟨_,rfl,hxc,?_⟩
    (try simp only [Act.put,zA,zB,zC,zD,zE,zF])
    refine zV 7 (.int .i64 (m:Int)) rfl (by kernel_rfl) hxc (fun _ _ _ h=>h) (fun W' hS'=>by go_simp) ?_
    (try simp only [Act.put,zA,zB,zC,zD,zE,zF])
    refine wpAnyH_done (by kernel_rfl) ?_ _
    (try simp only [Act.put,zA,zB,zC,zD,zE,zF])
    clear hd hx1
    have hM8:=hM6.e0 hxc
    have hR8a:=hR6.e0 hxc
    have hJ8:=hJ6.e0 hxc
    have hx8:=hx6.tr hxc
    have hgd8:=hgd6.e0 hxc
    clear hxc ck hss hM6 hR6 hJ6 hx6 hgd6
    go_upto_region 9 with (first|go_skip|go_guarded)
    have m3:w8.cell? ⟨b,3,none⟩=some (.slice (some ⟨gs,offs,none⟩) s.nS s.cS):=by rw [← HAS.out];exact hM8.blk.cell 3
    have hcs8:∀ j u,(#[.int .i64 j0,.int .i64 x1,.int .i64 x2,.int .i64 x3,.slice GS sn sc,.int .i64 x5,.bool x6]:Array Value).toList[j]? = some u→w8.cell? ⟨gs,offs+m*7+j,none⟩=some u:=fun j u hu=>hx8.c0 (HCS.out j u hu)
    have hg18:=hgs.Al hx8
    have hg28:=hgs2.Al hx8
    cases hal:((x1 == j1) && (x2 == j2) && (x3 == j3) && decide (xg=jg)) with
    | true =>
     have HSM:=Lib.hid (show Fsm.Ea ⟨j0,x1,x2,x3,xg,x5,x6⟩ ⟨j0,j1,j2,j3,jg,j5,j6⟩=true by unfold Fsm.Ea;simp only [beq_self_eq_true,Bool.true_and];exact hal)
     have HF:=Lib.hid (Fsm.PU HJA.out HDA.out HB.out HSA.out HSM.out)
     refine AY (by kernel_rfl) (by kernel_rfl) ?_
     repeat (first|go_big_quiet_skip|(go_big_quiet_want;(first|((refine Bw rfl ?_);(first|(refine Ah (p:=⟨b,3,none⟩) (v:=.slice (some ⟨gs,offs,none⟩) s.nS s.cS) ?_ ?_ ?_;(focus rfl);(focus (intro W' hW;have q:=hW.c0 m3;go_simp;done)))|(refine Ah (p:=⟨gs,offs+m*7,none⟩) (v:=.agg #[.int .i64 j0,.int .i64 x1,.int .i64 x2,.int .i64 x3,.slice GS sn sc,.int .i64 x5,.bool x6]) ?_ ?_ ?_;(focus rfl);(focus (intro W' hW;exact run_load_struct (sz:=7) (b:=gs) (off:=offs+m*7) rfl STJob (by go_simp) (fun j u hu=>hW.c0 (hcs8 j u hu)) rfl;done)))|(refine Ah (p:=⟨J,0,none⟩) (v:=.agg #[.int .i64 j0,.int .i64 j1,.int .i64 j2,.int .i64 j3,.slice GA gn gc,.int .i64 j5,.bool j6]) ?_ ?_ ?_;(focus rfl);(focus (intro W' hW;exact AB rfl STJob (by go_simp) (hJ8.e0 hW) rfl;done))));(try simp only [Act.put,zA,zB,zC,zD,zE,zF]);(try simp only [hal]))|((refine BH rfl ?_);(first|(refine Ar (f:=81) (args:=#[.agg #[.int .i64 j0,.int .i64 x1,.int .i64 x2,.int .i64 x3,.slice GS sn sc,.int .i64 x5,.bool x6],.agg #[.int .i64 j0,.int .i64 j1,.int .i64 j2,.int .i64 j3,.slice GA gn gc,.int .i64 j5,.bool j6]]) (v:=.bool ((x1 == j1) && (x2 == j2) && (x3 == j3) && decide (xg=jg))) ?_ ?_ ?_;(focus (intro W' hW;go_simp;done));(focus (intro W' hW;refine (Oq j0 x1 x2 x3 xg x5 x6 GS sn sc j0 j1 j2 j3 jg j5 j6 GA gn gc W' (hg28.Al hW) (hg18.Al hW) (by omega) (by omega)).mono ?_;intro e w' hcc;obtain ⟨he,hxu⟩:=hcc;refine ⟨?_,hxu⟩;exact he;done))));(try simp only [Act.put,zA,zB,zC,zD,zE,zF]);(try simp only [hal]))|go_big_quiet_op);go_big_quiet_on))
     refine wpQuiet_nil ?_
     intro w9 hx9a
     have hM9a:=hM8.e0 hx9a
     have hR9a:=hR8a.e0 hx9a
     have hJ9a:=hJ8.e0 hx9a
     have hx09:=hx8.tr hx9a
     have hgd9:=hgd8.e0 hx9a
     clear m3 hcs8 hal
     go_upto_region 12 with (first|go_skip|go_guarded)
     obtain ⟨gd',curd',hAd',hobd',hgbd',_,hced',hputd'⟩:=hM9a.own.Js HXK.out
     have hgg:gd=gd':=by have h7:s.AD=some ⟨gd',0,none⟩:=hAd';rw [HAD.out] at h7;injection h7 with h7;injection h7
     subst hgg
     clear hAd'
     have m7:w9.cell? ⟨b,7,none⟩=some (.slice (some ⟨gd,0,none⟩) s.nD s.cD):=by rw [← HAD.out];exact hM9a.blk.cell 7
     have k2:w9.cell? ⟨gd,k*4+2,none⟩=some (.int .i64 d2):=hced' 2 _ rfl
     have f2:w9.frozen? ⟨gd,k*4+2,none⟩=false:=hgbd'.frozen _
     go_upto_region 13 with (first|go_skip|go_guarded)
     have hs12:Ext (fun q=>q=gd) w9 (w9.setCell ⟨gd,k*4+2,none⟩ (.int .i64 3)):=Ext.set1 _ _ _ _
     have hO12:Aw base (w9.setCell ⟨gd,k*4+2,none⟩ (.int .i64 3)) ({ s with deploys:=s.deploys.set k ⟨d0,d1,3,d3⟩ }:Aa):=hputd' 2 (.int .i64 3) ⟨d0,d1,3,d3⟩ (by decide) rfl
     have hbgd:¬ (b=gd):=fun e=>Blk.ne hM9a.blk hgbd' (by decide) e
     have hM12:Az base (w9.setCell ⟨gd,k*4+2,none⟩ (.int .i64 3)) b ({ s with deploys:=s.deploys.set k ⟨d0,d1,3,d3⟩ }:Aa) cm:=⟨hM9a.blk.ext hs12 hbgd,hO12,hM9a.lo⟩
     have hR12:=hR9a.ext hs12 (fun e=>Blk.ne hR9a hgbd' (by decide) e)
     have hJ12:=hJ9a.ext hs12 (fun e=>Blk.ne hJ9a hgbd' (by decide) e)
     have hst12:Step w (w9.setCell ⟨gd,k*4+2,none⟩ (.int .i64 3)) b s ({ s with deploys:=s.deploys.set k ⟨d0,d1,3,d3⟩ }:Aa):=(Step.of0 hx09).cell (s2:=({ s with deploys:=s.deploys.set k ⟨d0,d1,3,d3⟩ }:Aa)) (MW.oD (s:=s) hobd') (fun q hq=>hq) _
     clear m7 k2 f2 hs12 hO12 hbgd hputd' hced' hgbd' hobd'
     generalize (w9.setCell ⟨gd,k*4+2,none⟩ (.int .i64 3))=w12 at hM12 hR12 hJ12 hst12 ⊢
     have k0:w12.cell? ⟨J,0,none⟩=some (.int .i64 j0):=hJ12.cell 0
     have hq4:base≤w12.heap.size:=by have:=hst12.size;omega
     have hq1:({ s with deploys:=s.deploys.set k ⟨d0,d1,3,d3⟩ }:Aa).jobs.length≤67108864:=by show s.jobs.length≤_;omega
     have hq2:({ s with deploys:=s.deploys.set k ⟨d0,d1,3,d3⟩ }:Aa).evals.length≤67108862:=by show s.evals.length≤_;omega
     have hq3:Fsm.Up EvalD.job ({ s with deploys:=s.deploys.set k ⟨d0,d1,3,d3⟩ }:Aa).evals:=hw.e
     have hnR:¬ MW ({ s with deploys:=s.deploys.set k ⟨d0,d1,3,d3⟩ }:Aa) b (C+1):=hM12.Cn hR12 (by decide)
     have hnJb:¬ MW ({ s with deploys:=s.deploys.set k ⟨d0,d1,3,d3⟩ }:Aa) b J:=hJn0
     go_wp2_with (first|go_skip|go_guarded|(go_at_call 64;(with_reducible refine (Ef base b ({ s with deploys:=s.deploys.set k ⟨d0,d1,3,d3⟩ }:Aa) cm j0 w12 hM12 hq4 hq1 hq2 hq3).mono ?_);rintro e w7 ⟨A7,c7,l7,rfl,hM9,hD7,hx7⟩;have hR7:=hR12.step hx7 hnR;have k57:w7.cell? ⟨J,5,none⟩=some (.int .i64 j5):=(hJ12.step hx7 hnJb).cell 5)|((with_reducible refine isW ?_);refine Af rfl 34 _ _ rfl STResult (C+1) rfl (Au 0 j5) rfl hR7 rfl rfl rfl ?_;intro w9 hR9 hx9))
     exact bodyPost_ret (results_cell rfl STResult (g:=C+1) rfl hR9 rfl) rfl ⟨_,⟨0,j5,[]⟩,rfl,hM9.keep hx9 (fun e=>Blk.ne hM9.blk hR7 (by decide) e) (Apart.one hR7 (by decide)),by rw [HF.out,hD7];exact congrArg (fun z=>(Fsm.eval ({ s.data with deploys:=z }:Ab) j0,(⟨0,j5,[]⟩ : AQ))) HTD.out,rfl,(hst12.trans hx7).fresh hx9 (fun q e=>by have:=HC.out;have:q=C+1:=e;omega)⟩
    | false =>
     have HSM:=Lib.hid (show Fsm.Ea ⟨j0,x1,x2,x3,xg,x5,x6⟩ ⟨j0,j1,j2,j3,jg,j5,j6⟩=false by unfold Fsm.Ea;simp only [beq_self_eq_true,Bool.true_and];exact hal)
     refine AY (by kernel_rfl) (by kernel_rfl) ?_
     repeat (first|go_big_quiet_skip|(go_big_quiet_want;(first|((refine Bw rfl ?_);(first|(refine Ah (p:=⟨b,3,none⟩) (v:=.slice (some ⟨gs,offs,none⟩) s.nS s.cS) ?_ ?_ ?_;(focus rfl);(focus (intro W' hW;have q:=hW.c0 m3;go_simp;done)))|(refine Ah (p:=⟨gs,offs+m*7,none⟩) (v:=.agg #[.int .i64 j0,.int .i64 x1,.int .i64 x2,.int .i64 x3,.slice GS sn sc,.int .i64 x5,.bool x6]) ?_ ?_ ?_;(focus rfl);(focus (intro W' hW;exact run_load_struct (sz:=7) (b:=gs) (off:=offs+m*7) rfl STJob (by go_simp) (fun j u hu=>hW.c0 (hcs8 j u hu)) rfl;done)))|(refine Ah (p:=⟨J,0,none⟩) (v:=.agg #[.int .i64 j0,.int .i64 j1,.int .i64 j2,.int .i64 j3,.slice GA gn gc,.int .i64 j5,.bool j6]) ?_ ?_ ?_;(focus rfl);(focus (intro W' hW;exact AB rfl STJob (by go_simp) (hJ8.e0 hW) rfl;done))));(try simp only [Act.put,zA,zB,zC,zD,zE,zF]);(try simp only [hal]))|((refine BH rfl ?_);(first|(refine Ar (f:=81) (args:=#[.agg #[.int .i64 j0,.int .i64 x1,.int .i64 x2,.int .i64 x3,.slice GS sn sc,.int .i64 x5,.bool x6],.agg #[.int .i64 j0,.int .i64 j1,.int .i64 j2,.int .i64 j3,.slice GA gn gc,.int .i64 j5,.bool j6]]) (v:=.bool ((x1 == j1) && (x2 == j2) && (x3 == j3) && decide (xg=jg))) ?_ ?_ ?_;(focus (intro W' hW;go_simp;done));(focus (intro W' hW;refine (Oq j0 x1 x2 x3 xg x5 x6 GS sn sc j0 j1 j2 j3 jg j5 j6 GA gn gc W' (hg28.Al hW) (hg18.Al hW) (by omega) (by omega)).mono ?_;intro e w' hcc;obtain ⟨he,hxu⟩:=hcc;refine ⟨?_,hxu⟩;exact he;done))));(try simp only [Act.put,zA,zB,zC,zD,zE,zF]);(try simp only [hal]))|go_big_quiet_op);go_big_quiet_on))
     refine wpQuiet_nil ?_
     intro w9 hx9a
     have hM9a:=hM8.e0 hx9a
     have hR9a:=hR8a.e0 hx9a
     have hJ9a:=hJ8.e0 hx9a
     have hx09:=hx8.tr hx9a
     have hgd9:=hgd8.e0 hx9a
     clear m3 hcs8 hal
     have k5:w9.cell? ⟨J,5,none⟩=some (.int .i64 j5):=hJ9a.cell 5
     by_cases h5:1099511627776≤j5
     ·have h5' : decide (1099511627776≤j5)=true:=by simpa using h5
      have HF:=Lib.hid (Fsm.Qn HJA.out HDA.out HB.out HSA.out HSM.out h5)
      go_upto_region 11 with (first|go_skip|go_guarded)
      have hst:=Step.of0 (b:=b) (s:=s) hx09
      clear k5
      go_wp2_with (first|go_skip|go_guarded|(go_at_call 31;(with_reducible refine (mNo 33 w9).mono ?_);rintro e w8 ⟨rfl,hx8⟩;have hR8:=hR9a.e0 hx8)|((with_reducible refine isW ?_);refine Af rfl 34 _ _ rfl STResult (C+1) rfl (Au 33 0) rfl hR8 rfl rfl rfl ?_;intro w9 hR9 hx9))
      have hb9:=(hM9a.e0 hx8).blk.lt
      exact bodyPost_ret (results_cell rfl STResult (g:=C+1) rfl hR9 rfl) rfl ⟨s,⟨33,0,[]⟩,rfl,(hM9a.e0 hx8).keep hx9 (fun e=>Blk.ne (hM9a.e0 hx8).blk hR8 (by decide) e) (Apart.one hR8 (by decide)),HF.out,rfl,(hst.m0 hx8).fresh hx9 (fun q e=>by have:=HC.out;have:q=C+1:=e;omega)⟩
     have h5' : decide (1099511627776≤j5)=false:=by simpa using h5
     have HF:=Lib.hid (Fsm.Q0 HJA.out HDA.out HB.out HSA.out HSM.out h5)
     go_upto_region 12 with (first|go_skip|go_guarded)
     clear k5
     obtain ⟨gd',curd',hAd',hobd',hgbd',_,hced',hputd'⟩:=hM9a.own.Js HXK.out
     have hgg:gd=gd':=by have h7:s.AD=some ⟨gd',0,none⟩:=hAd';rw [HAD.out] at h7;injection h7 with h7;injection h7
     subst hgg
     clear hAd'
     have m7:w9.cell? ⟨b,7,none⟩=some (.slice (some ⟨gd,0,none⟩) s.nD s.cD):=by rw [← HAD.out];exact hM9a.blk.cell 7
     have k2:w9.cell? ⟨gd,k*4+2,none⟩=some (.int .i64 d2):=hced' 2 _ rfl
     have f2:w9.frozen? ⟨gd,k*4+2,none⟩=false:=hgbd'.frozen _
     go_upto_region 13 with (first|go_skip|go_guarded)
     have hs12:Ext (fun q=>q=gd) w9 (w9.setCell ⟨gd,k*4+2,none⟩ (.int .i64 3)):=Ext.set1 _ _ _ _
     have hO12:Aw base (w9.setCell ⟨gd,k*4+2,none⟩ (.int .i64 3)) ({ s with deploys:=s.deploys.set k ⟨d0,d1,3,d3⟩ }:Aa):=hputd' 2 (.int .i64 3) ⟨d0,d1,3,d3⟩ (by decide) rfl
     have hbgd:¬ (b=gd):=fun e=>Blk.ne hM9a.blk hgbd' (by decide) e
     have hM12:Az base (w9.setCell ⟨gd,k*4+2,none⟩ (.int .i64 3)) b ({ s with deploys:=s.deploys.set k ⟨d0,d1,3,d3⟩ }:Aa) cm:=⟨hM9a.blk.ext hs12 hbgd,hO12,hM9a.lo⟩
     have hR12:=hR9a.ext hs12 (fun e=>Blk.ne hR9a hgbd' (by decide) e)
     have hJ12:=hJ9a.ext hs12 (fun e=>Blk.ne hJ9a hgbd' (by decide) e)
     have hst12:Step w (w9.setCell ⟨gd,k*4+2,none⟩ (.int .i64 3)) b s ({ s with deploys:=s.deploys.set k ⟨d0,d1,3,d3⟩ }:Aa):=(Step.of0 hx09).cell (s2:=({ s with deploys:=s.deploys.set k ⟨d0,d1,3,d3⟩ }:Aa)) (MW.oD (s:=s) hobd') (fun q hq=>hq) _
     clear m7 k2 f2 hs12 hO12 hbgd hputd' hced' hgbd' hobd'
     generalize (w9.setCell ⟨gd,k*4+2,none⟩ (.int .i64 3))=w12 at hM12 hR12 hJ12 hst12 ⊢
     have hcs12:∀ j u,(#[.int .i64 j0,.int .i64 x1,.int .i64 x2,.int .i64 x3,.slice GS sn sc,.int .i64 x5,.bool x6]:Array Value).toList[j]? = some u→w12.cell? ⟨gs,offs+m*7+j,none⟩=some u:=by
      have h9:=hM12.own.slT.get (Ext.refl Nothing w12) (k:=m) (by show m < s.nS;omega)
      obtain ⟨hml,g9,o9,hA9,hc9⟩:=h9
      have hA9' : s.AS=some ⟨g9,o9,none⟩:=hA9
      rw [HAS.out] at hA9'
      injection hA9' with e1
      injection e1 with e1 e2
      subst e1 e2
      have hXM:(s.stable[m]'hml)=(⟨j0,x1,x2,x3,xg,x5,x6⟩,.slice GS sn sc):=by have h8:=HXM.out;rw [List.getElem?_eq_getElem hml] at h8;exact Option.some.inj h8
      change ∀ j u,(JobV.cells (s.stable[m]'hml))[j]? = some u→_ at hc9
      rw [hXM] at hc9
      exact hc9
     have m3:w12.cell? ⟨b,3,none⟩=some (.slice (some ⟨gs,offs,none⟩) s.nS s.cS):=by rw [← HAS.out];exact hM12.blk.cell 3
     have hxa:Ext Nothing w12 (w12.alloc (.cells #[.int .i64 j0,.int .i64 x1,.int .i64 x2,.int .i64 x3,.slice GS sn sc,.int .i64 x5,.bool x6] 39)):=Ext.Ay
     have hXb:Blk (w12.alloc (.cells #[.int .i64 j0,.int .i64 x1,.int .i64 x2,.int .i64 x3,.slice GS sn sc,.int .i64 x5,.bool x6] 39)) w12.heap.size 39 #[.int .i64 j0,.int .i64 x1,.int .i64 x2,.int .i64 x3,.slice GS sn sc,.int .i64 x5,.bool x6]:=Blk.new _ _ _
     have hJlt:=hJ12.lt
     have hRlt:=hR12.lt
     have hz12:=hst12.size
     go_upto_region 15 with (first|go_skip|go_guarded|((with_reducible refine isW ?_);refine Ad rfl 39 _ rfl STJob gs (offs+m*7) rfl #[.int .i64 j0,.int .i64 x1,.int .i64 x2,.int .i64 x3,.slice GS sn sc,.int .i64 x5,.bool x6] hcs12 rfl ?_))
     have hMx:=hM12.e0 hxa
     have hRx:=hR12.e0 hxa
     have hJx:=hJ12.e0 hxa
     have hstx:=hst12.m0 hxa
     have hnX:¬ MW ({ s with deploys:=s.deploys.set k ⟨d0,d1,3,d3⟩ }:Aa) b w12.heap.size:=fun e=>by have:=hM12.FL e;omega
     clear m3 hcs12
     generalize hXX:w12.heap.size=X at hXb hJlt hRlt hnX hz12 ⊢
     generalize (w12.alloc (.cells #[.int .i64 j0,.int .i64 x1,.int .i64 x2,.int .i64 x3,.slice GS sn sc,.int .i64 x5,.bool x6] 39))=wx at hXb hMx hRx hJx hstx hxa ⊢
     have k5:wx.cell? ⟨J,5,none⟩=some (.int .i64 j5):=hJx.cell 5
     have z5:wx.cell? ⟨X,5,none⟩=some (.int .i64 x5):=hXb.cell 5
     have z5f:wx.frozen? ⟨X,5,none⟩=false:=hXb.frozen 5
     have hX5:=hXb.Bi 5 (.int .i64 (wrap64 (j5+1)))
     have z6:(wx.setCell ⟨X,5,none⟩ (.int .i64 (wrap64 (j5+1)))).cell? ⟨X,6,none⟩=some (.bool x6):=hX5.cell 6
     have z6f:(wx.setCell ⟨X,5,none⟩ (.int .i64 (wrap64 (j5+1)))).frozen? ⟨X,6,none⟩=false:=hX5.frozen 6
     go_upto_region 16 with (first|go_skip|go_guarded)
     have hs15:Ext (fun q=>q=X) wx ((wx.setCell ⟨X,5,none⟩ (.int .i64 (wrap64 (j5+1)))).setCell ⟨X,6,none⟩ (.bool false)):=(Ext.set1 wx X 5 _).trans (Ext.set1 _ X 6 _) (fun _ _ e=>e)
     have hXn:Blk ((wx.setCell ⟨X,5,none⟩ (.int .i64 (wrap64 (j5+1)))).setCell ⟨X,6,none⟩ (.bool false)) X 39 #[.int .i64 j0,.int .i64 x1,.int .i64 x2,.int .i64 x3,.slice GS sn sc,.int .i64 (wrap64 (j5+1)),.bool false]:=hX5.Bi 6 _
     have hx15:Ext Nothing w12 ((wx.setCell ⟨X,5,none⟩ (.int .i64 (wrap64 (j5+1)))).setCell ⟨X,6,none⟩ (.bool false)):=hxa.trans hs15 (fun q hq e=>absurd (show q=X from e) (by omega))
     have hM15:=hM12.e0 hx15
     have hR15:=hR12.e0 hx15
     have hJ15:=hJ12.e0 hx15
     have hst15:=hst12.m0 hx15
     clear k5 z5 z5f z6 z6f hX5 hXb hMx hRx hJx hstx hxa hs15
     generalize ((wx.setCell ⟨X,5,none⟩ (.int .i64 (wrap64 (j5+1)))).setCell ⟨X,6,none⟩ (.bool false))=w15 at hXn hM15 hR15 hJ15 hst15 hx15 ⊢
     have hGq:Sl w15 3 GS sn (xg.map Ao.cells):=hgs2.ext hst15.ext (fun q e ne hq=>hGSn q e ne hq)
     have hq4:base≤w15.heap.size:=by have:=hst15.size;omega
     have hqc:Fsm.cnt ⟨j0,x1,x2,x3,xg,(wrap64 (j5+1)),false⟩:=HTC.out
     have hWd:Fsm.Wf ({ s with deploys:=s.deploys.set k ⟨d0,d1,3,d3⟩ }:Aa).data:=by have h9:=Fsm.Ga hw (fun d=>d.job == j0) (fun d=>{ d with state:=3 }) (fun _=>rfl);rw [show Fsm.Ap (fun d:DepD=>d.job == j0) (fun d=>{ d with state:=3 }) s.data.deploys=_ from HTD.out] at h9;exact h9
     have g1:({ s with deploys:=s.deploys.set k ⟨d0,d1,3,d3⟩ }:Aa).jobs.length≤1048575:=hJ
     have g2:({ s with deploys:=s.deploys.set k ⟨d0,d1,3,d3⟩ }:Aa).allocs.length≤1048576:=hA
     have g3:({ s with deploys:=s.deploys.set k ⟨d0,d1,3,d3⟩ }:Aa).deploys.length≤1048575:=by show (s.deploys.set k _).length≤_;rw [List.length_set];exact hDl
     have g4:({ s with deploys:=s.deploys.set k ⟨d0,d1,3,d3⟩ }:Aa).stable.length≤33554432:=hSt
     have g5:({ s with deploys:=s.deploys.set k ⟨d0,d1,3,d3⟩ }:Aa).evals.length≤33554432:=hE
     have hgl3:sn≤1048576:=hgb2
     have hnX15:¬ MW ({ s with deploys:=s.deploys.set k ⟨d0,d1,3,d3⟩ }:Aa) b X:=hnX
     have hnR15:¬ MW ({ s with deploys:=s.deploys.set k ⟨d0,d1,3,d3⟩ }:Aa) b (C+1):=hM15.Cn hR15 (by decide)
     have hnJ15:¬ MW ({ s with deploys:=s.deploys.set k ⟨d0,d1,3,d3⟩ }:Aa) b J:=hJn0
     go_upto_region 17 with (first|go_skip|go_guarded|((with_reducible refine isW ?_);refine Ae rfl 39 _ rfl STJob X rfl #[.int .i64 j0,.int .i64 x1,.int .i64 x2,.int .i64 x3,.slice GS sn sc,.int .i64 (wrap64 (j5+1)),.bool false] hXn rfl ?_)|(go_at_call 62;(with_reducible refine (QU base b ({ s with deploys:=s.deploys.set k ⟨d0,d1,3,d3⟩ }:Aa) cm j0 x1 x2 x3 xg (wrap64 (j5+1)) false GS sn sc w15 hM15 hq4 hGq hgl3 hqc g1 g2 g3 g4 g5 hWd).mono ?_);rintro e w16 ⟨s7,rfl,hM16,hD16,hx16⟩))
     have hX16:=hXn.step hx16 hnX15
     have hR16:=hR15.step hx16 hnR15
     have hJ16:=hJ15.step hx16 hnJ15
     have hst16:=hst15.trans hx16
     have hnX16:¬ MW s7 b X:=hx16.not hnX15 hXn.lt
     have hnR16:¬ MW s7 b (C+1):=hx16.not hnR15 hR15.lt
     have hnJ16:¬ MW s7 b J:=hx16.not hnJ15 hJ15.lt
     have hXJ:¬ (X=J):=by omega
     have hRJ:¬ (C+1=J):=by have:=hz1;omega
     have hbJ:¬ (b=J):=fun e=>hnJ16 (.inl e.symm)
     have hd16:=Fsm.Mf ({ s with deploys:=s.deploys.set k ⟨d0,d1,3,d3⟩ }:Aa).data ⟨j0,x1,x2,x3,xg,(wrap64 (j5+1)),false⟩
     rw [← hD16] at hd16
     have hw16:Fsm.Wf s7.data:=by rw [hD16];exact Fsm.Fh hWd hqc
     go_upto_region 18 with (first|go_skip|go_guarded|((with_reducible refine isW ?_);refine Ae rfl 39 _ rfl STJob X rfl #[.int .i64 j0,.int .i64 x1,.int .i64 x2,.int .i64 x3,.slice GS sn sc,.int .i64 (wrap64 (j5+1)),.bool false] hX16 rfl ?_)|((with_reducible refine isW ?_);refine Af rfl 39 _ _ rfl STJob J rfl #[.int .i64 j0,.int .i64 x1,.int .i64 x2,.int .i64 x3,.slice GS sn sc,.int .i64 (wrap64 (j5+1)),.bool false] rfl hJ16 rfl rfl rfl ?_;intro w17 hJ17 hx17))
     have hM17:Az base w17 b s7 cm:=hM16.off hx17 hnJ16 hJ16
     have hR17:=hR16.ext hx17 hRJ
     have hst17:Step w w17 b s s7:=hst16.fresh hx17 (fun q e=>by have:q=J:=e;have:=HC.out;omega)
     have k0:w17.cell? ⟨J,0,none⟩=some (.int .i64 j0):=hJ17.cell 0
     have hq44:base≤w17.heap.size:=by have:=hst17.size;omega
     have hnJ17:¬ MW s7 b J:=hnJ16
     have hq1:s7.jobs.length≤67108864:=by have h9:=hd16.1;rw [show s7.data.jobs.length=s7.jobs.length from List.length_map ..] at h9;have h8:({ s with deploys:=s.deploys.set k ⟨d0,d1,3,d3⟩ }:Aa).data.jobs.length=s.jobs.length:=List.length_map ..;omega
     have hq2:s7.evals.length≤67108862:=by have h9:=hd16.2;rw [show s7.data.evals.length=s7.evals.length from rfl] at h9;have h8:({ s with deploys:=s.deploys.set k ⟨d0,d1,3,d3⟩ }:Aa).data.evals.length=s.evals.length:=rfl;omega
     have hq3:Fsm.Up EvalD.job s7.evals:=hw16.e
     go_wp2_with (first|go_skip|go_guarded|(go_at_call 64;(with_reducible refine (Ef base b s7 cm j0 w17 hM17 hq44 hq1 hq2 hq3).mono ?_);rintro e w7 ⟨A7,c7,l7,rfl,hM9,hD7,hx7⟩;have hR7:=hR17.step hx7 hnR16;have k57:w7.cell? ⟨J,5,none⟩=some (.int .i64 (wrap64 (j5+1))):=(hJ17.step hx7 hnJ17).cell 5)|((with_reducible refine isW ?_);refine Af rfl 34 _ _ rfl STResult (C+1) rfl (Au 0 (wrap64 (j5+1))) rfl hR7 rfl rfl rfl ?_;intro w9 hR9 hx9))
     exact bodyPost_ret (results_cell rfl STResult (g:=C+1) rfl hR9 rfl) rfl ⟨_,⟨0,(wrap64 (j5+1)),[]⟩,rfl,hM9.keep hx9 (fun e=>Blk.ne hM9.blk hR7 (by decide) e) (Apart.one hR7 (by decide)),by rw [HF.out,hD7,hD16,Fsm.K5];exact congrArg (fun z=>(Fsm.begins ({ s.data with deploys:=z }:Ab) ⟨j0,x1,x2,x3,xg,(wrap64 (j5+1)),false⟩,(⟨0,(wrap64 (j5+1)),[]⟩ : AQ))) HTD.out,rfl,(hst17.trans hx7).fresh hx9 (fun q e=>by have:=HC.out;have:q=C+1:=e;omega)⟩
end Go.Proofs.YtccekmeifanipaaGreat
