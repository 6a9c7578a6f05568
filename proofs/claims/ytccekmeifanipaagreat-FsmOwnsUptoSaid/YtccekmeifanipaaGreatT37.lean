/- Parts of the proof: Lives11 -/
import Derived.Test.YtccekmeifanipaaGreatT36
namespace Go.Proofs.YtccekmeifanipaaGreat
set_option linter.unusedVariables false
set_option linter.unusedSimpArgs false
set_option linter.unusedSectionVars false
open Go.RowKit
theorem Ru (w:World):Calls Tryz.prog 14 #[] w fun e w'=>e=.returned (.agg #[.int .i64 0,.int .i64 1,.slice none 0 0,.slice none 0 0,.slice none 0 0,.slice none 0 0,.slice none 0 0,.slice none 0 0,.slice none 0 0])∧Ext Nothing w w':=by
 go_enter Tryz.func14,Tryz.ntmps14
 go_wp2
 exact bodyPost_ret (results_cell rfl Aj (g:=w.heap.size) rfl (Blk.new w _ _) rfl) rfl ⟨rfl,Ext.Ay⟩
theorem EJ (w:World):Calls Tryz.prog 39 #[] w fun e w'=>∃ g,e=.returned (.agg #[.int .i64 1,.int .i64 1,.int .i64 50,.int .i64 1,.slice (some ⟨g,0,none⟩) 1 1,.int .i64 0,.bool false])∧Blk w' g 66 #[.int .i64 2,.int .i64 40,.int .i64 5]∧Ext Nothing w w':=by
 go_enter Tryz.func39,Tryz.ntmps39
 go_wp2
 have hB:Blk ((w.alloc (.cells #[.int .i64 1,.int .i64 1,.int .i64 50,.int .i64 1,.slice (some ⟨w.heap.size+1,0,none⟩) 1 1,.int .i64 0,.bool false] 39)).alloc (.cells #[.int .i64 2,.int .i64 40,.int .i64 5] 66)) w.heap.size 39 #[.int .i64 1,.int .i64 1,.int .i64 50,.int .i64 1,.slice (some ⟨w.heap.size+1,0,none⟩) 1 1,.int .i64 0,.bool false]:=(Blk.new w _ _).e0 Ext.Ay
 have hG:Blk ((w.alloc (.cells #[.int .i64 1,.int .i64 1,.int .i64 50,.int .i64 1,.slice (some ⟨w.heap.size+1,0,none⟩) 1 1,.int .i64 0,.bool false] 39)).alloc (.cells #[.int .i64 2,.int .i64 40,.int .i64 5] 66)) (w.heap.size+1) 66 #[.int .i64 2,.int .i64 40,.int .i64 5]:=Blk.new' _ _ _ (by simp)
 exact bodyPost_ret (results_cell rfl STJob (g:=w.heap.size) rfl hB rfl) rfl ⟨w.heap.size+1,rfl,hG,Ext.Ay⟩
theorem Ch {base t:Nat} {w:World} {s:Aa} {c:Bl} {ix:Int} (term:Int) (ho:Aw base w s) (hg:Fsm.EU t s.data) (hc:Dx w.heap.size w c) (hop:(Lit.int .i64 c.op).wf=true) (ht:t≤1048575) (hix:(t:Int)≤ix) (h1:1≤ix) {D:Ab} {R:AQ} (hD:Fsm.apply s.data ix c.d=(D,R)) :
  Calls Tryz.prog 15 #[.agg s.arr,.agg (c.ent ix term)] w fun e w'=>∃ s' RA rc,e=.returned (.tuple #[.agg s'.arr,.agg #[.int .i64 R.code,.int .i64 R.value,.slice RA R.allocs.length rc]])∧Aw w.heap.size w' s'∧s'.data=D∧Ext Nothing w w' :=
 (EB term ho hg hc hop ht hix h1).mono fun e w' ⟨⟨s',r,rv,he,hO,hF,hres,hx⟩⟩=>by
  obtain ⟨A,n,rfl,_⟩:=hres
  have h2:=hF.symm.trans hD
  have h3:s'.data=D:=congrArg Prod.fst h2
  have h4:r=R:=congrArg Prod.snd h2
  subst h4
  exact ⟨s',A,n,he,hO,h3,hx⟩
namespace Liv
abbrev c1:Bl:=⟨5,0,0,⟨0,0,0,0,[],0,false⟩,none,0,0,⟨1,⟨100,50⟩,false,false,1,0,0⟩,[],none,0,0,0,0,0,[],none,0,0,[],none,0,0,false,.slice none 0 0,.slice none 0 0⟩
abbrev c2 (g:Nat):Bl:=⟨3,1,1,⟨1,1,50,1,[⟨2,⟨40,5⟩⟩],0,false⟩,(some ⟨g,0,none⟩),1,1,⟨0,⟨0,0⟩,false,false,0,0,0⟩,[],none,0,0,0,0,0,[],none,0,0,[],none,0,0,false,.slice none 0 0,.slice none 0 0⟩
abbrev c3 (g:Nat):Bl:=⟨9,0,0,⟨0,0,0,0,[],0,false⟩,none,0,0,⟨0,⟨0,0⟩,false,false,0,0,0⟩,[],none,0,0,1,1,2,[],none,0,0,[⟨0,1,1,0,0,1,1,⟨40,5⟩,false,0⟩,⟨0,1,1,0,1,1,1,⟨40,5⟩,false,0⟩],(some ⟨g,0,none⟩),2,2,false,.slice none 0 0,.slice none 0 0⟩
abbrev c4 (g:Nat):Bl:=⟨6,0,0,⟨0,0,0,0,[],0,false⟩,none,0,0,⟨1,⟨0,0⟩,false,false,0,1,1⟩,[(1,2),(2,2)],(some ⟨g,0,none⟩),2,2,0,0,0,[],none,0,0,[],none,0,0,false,.slice none 0 0,.slice none 0 0⟩
def d1:Ab:=(Fsm.apply Fsm.new 1 c1.d).1
def d2:Ab:=(Fsm.apply d1 2 (c2 0).d).1
def d3:Ab:=(Fsm.apply d2 3 (c3 0).d).1
def d4:Ab:=(Fsm.apply d3 4 (c4 0).d).1
def r4:AQ:=(Fsm.apply d3 4 (c4 0).d).2
theorem e1:Fsm.apply Fsm.new 1 c1.d=(d1,⟨0,1,[]⟩):=by kernel_rfl
theorem e2 {g:Nat}:Fsm.apply d1 2 (c2 g).d=(d2,⟨0,1,[]⟩):=by show Fsm.apply d1 2 (c2 0).d=_;kernel_rfl
theorem e3 {g:Nat}:Fsm.apply d2 3 (c3 g).d=(d3,⟨0,3,[]⟩):=by show Fsm.apply d2 3 (c3 0).d=_;kernel_rfl
theorem e4 {g:Nat}:Fsm.apply d3 4 (c4 g).d=(d4,r4):=rfl
theorem n4:r4.allocs.length=2:=by kernel_rfl
theorem ev4:d4.evals=[⟨1,50,1,4⟩]:=by kernel_rfl
theorem al4:d4.allocs.length=2:=by kernel_rfl
theorem st4:d4.stable.length=1:=by kernel_rfl
theorem nx4:d4.next=3:=by kernel_rfl
def dp4:DepD:=d4.deploys.headD ⟨0,0,0,0⟩
theorem dp:d4.deploys=[dp4]:=by kernel_rfl
theorem dp2:dp4.state=2:=by kernel_rfl
theorem g0:Fsm.EU 0 Gm.data:=Fsm.IW
theorem g1:Fsm.EU 1 d1:=Fsm.Eo Fsm.IW (by decide) (c:=c1.d) (by decide)
theorem g2:Fsm.EU 2 d2:=Fsm.Eo g1 (by decide) (c:=(c2 0).d) (by decide)
theorem g3:Fsm.EU 3 d3:=Fsm.Eo g2 (by decide) (c:=(c3 0).d) (by decide)
theorem i1 (b:Nat) (w:World):Dx b w c1:=⟨Sl.nil _ _ _,by decide,by simp,Sl.nil _ _ _,by decide,by simp,Sl.nil _ _ _,by decide,by simp,Sl.nil _ _ _,by decide,by simp,rfl,rfl⟩
theorem i2 {g:Nat} {w:World} (h:Blk w g 66 #[.int .i64 2,.int .i64 40,.int .i64 5]):Dx w.heap.size w (c2 g):=⟨Sl.FW _ (fun _=>rfl) h rfl rfl,(show 1≤1048576 by decide),fun b e _=>by cases e;exact h.lt,Sl.nil _ _ _,Nat.zero_le _,by simp,Sl.nil _ _ _,Nat.zero_le _,by simp,Sl.nil _ _ _,Nat.zero_le _,by simp,rfl,rfl⟩
theorem i3 {g:Nat} {w:World} (h:Blk w g 55 #[.int .i64 0,.int .i64 1,.int .i64 1,.int .i64 0,.int .i64 0,.int .i64 1,.int .i64 1,.int .i64 40,.int .i64 5,.bool false,.int .i64 0,.int .i64 0,.int .i64 1,.int .i64 1,.int .i64 0,.int .i64 1,.int .i64 1,.int .i64 1,.int .i64 40,.int .i64 5,.bool false,.int .i64 0]):Dx w.heap.size w (c3 g):=⟨Sl.nil _ _ _,Nat.zero_le _,by simp,Sl.nil _ _ _,Nat.zero_le _,by simp,Sl.nil _ _ _,Nat.zero_le _,by simp,Sl.FW _ (fun _=>rfl) h rfl rfl,(show 2≤1048576 by decide),fun b e _=>by cases e;exact h.lt,rfl,rfl⟩
theorem i4 {g:Nat} {w:World} (h:Blk w g 97 #[.int .i64 1,.int .i64 2,.int .i64 2,.int .i64 2]):Dx w.heap.size w (c4 g):=⟨Sl.nil _ _ _,Nat.zero_le _,by simp,Sl.FW _ (fun _=>rfl) h rfl rfl,(show 2≤1048576 by decide),fun b e _=>by cases e;exact h.lt,Sl.nil _ _ _,Nat.zero_le _,by simp,Sl.nil _ _ _,Nat.zero_le _,by simp,rfl,rfl⟩
end Liv
set_option maxRecDepth 20000 in
set_option maxHeartbeats 8000000 in
theorem PS (w:World):Calls Tryz.prog 17 #[] w fun e w'=>e=.returned (.bool true)∧Ext Nothing w w':=by
 go_enter Tryz.func17,Tryz.ntmps17
 go_upto_region 2 with (first|go_skip|go_guarded|(go_at_call 14;(with_reducible refine (Ru w).mono ?_);rintro e w1 ⟨rfl,hx1⟩))
 have hxT:Ext Nothing w1 (w1.alloc (.cells #[.int .i64 0,.int .i64 1,.slice none 0 0,.slice none 0 0,.slice none 0 0,.slice none 0 0,.slice none 0 0,.slice none 0 0,.slice none 0 0] 30)):=Ext.Ay
 have hT0:Blk (w1.alloc (.cells #[.int .i64 0,.int .i64 1,.slice none 0 0,.slice none 0 0,.slice none 0 0,.slice none 0 0,.slice none 0 0,.slice none 0 0,.slice none 0 0] 30)) w1.heap.size 30 Gm.arr:=Blk.new _ _ _
 have hzT:w.heap.size≤w1.heap.size:=hx1.size
 have hx0:=hx1.tr hxT
 generalize hTT:w1.heap.size=T at hT0 hzT ⊢
 generalize (w1.alloc (.cells #[.int .i64 0,.int .i64 1,.slice none 0 0,.slice none 0 0,.slice none 0 0,.slice none 0 0,.slice none 0 0,.slice none 0 0,.slice none 0 0] 30))=y0 at hT0 hx0 ⊢
 clear hxT hx1 hTT
 have hO0:Aw w.heap.size y0 Gm:=KI _ _
 have HD0:=Lib.hid (show Gm.data=Fsm.new from rfl)
 have hTy:=hT0.lt
 go_upto_region 3 with (first|go_skip|go_guarded|((with_reducible refine isW ?_);refine Ae rfl 30 _ rfl Aj T rfl Gm.arr (show Blk _ _ 30 _ from hT0) rfl ?_)|(go_at_call 15;refine (Ch (base:=w.heap.size) (t:=0) (s:=Gm) (w:=y0) (c:=Liv.c1) (ix:=1) 0 hO0 Liv.g0 (Liv.i1 _ _) (show (Lit.int .i64 5).wf=true by decide) (by decide) (by decide) (by decide) (D:=Liv.d1) (R:=⟨0,1,[]⟩) (by rw [HD0.out];exact Liv.e1)).mono ?_;rintro e w2 ⟨s2,RA,rc,rfl,hO2,hD2,hx2⟩)|((with_reducible refine isW ?_);refine Af rfl 30 _ _ rfl Aj T rfl s2.arr rfl (show Blk _ _ 30 _ from (hT0.e0 hx2).e0 Ext.Ay) rfl rfl rfl ?_;intro w3 hB3 hx3)|((with_reducible refine isW ?_);refine Af rfl 34 _ _ rfl STResult w2.heap.size rfl #[.int .i64 0,.int .i64 1,.slice RA 0 rc] rfl (show Blk _ _ 34 _ from (Blk.new w2 _ _).ext hx3 (fun e=>absurd (show w2.heap.size=T from e) (by have:=hx2.size;omega))) rfl rfl rfl ?_;intro w4 hE4 hx4))
 have hal:Ext Nothing w2 (w2.alloc (.cells #[.int .i64 0,.int .i64 0,.slice none 0 0] 34)):=Ext.Ay
 have hz2:=hx2.size
 have hx34:Ext (fun q=>q=T ∨ q=w2.heap.size) (w2.alloc (.cells #[.int .i64 0,.int .i64 0,.slice none 0 0] 34)) w4:=(hx3.mono (fun _ _ e=>.inl e)).trans hx4 (fun _ _ e=>.inr e)
 have hxk:Ext Nothing w w4:=((hx0.tr hx2).tr hal).trans hx34 (fun q hq e=>by have h9:q < w.heap.size:=hq;have h8:q=T ∨ q=w2.heap.size:=e;have h7:=hx0.size;omega)
 have hT1:=hB3.ext hx4 (fun e=>absurd (show T=w2.heap.size from e) (by omega))
 have hO1:=(((hO2.base hx0.size).AP hal).keep hx3 (Apart.one ((hT0.e0 hx2).e0 hal) (by decide))).keep hx4 (Apart.one ((Blk.new w2 _ _).ext hx3 (fun e=>absurd (show w2.heap.size=T from e) (by omega))) (by decide))
 have HD1:=Lib.hid hD2
 have hG1:Fsm.EU 1 s2.data:=by rw [hD2];exact Liv.g1
 have hTl1:T < w2.heap.size:=(hT0.e0 hx2).lt
 have hE1:=hE4
 clear hE4 hB3 hx3 hx4 hx34 hal hO2 hD2 hTy hO0 hT0 hx0
 generalize hQ1:w2.heap.size=Q1 at hE1 hTl1 ⊢
 clear hz2 hx2 hQ1
 have hx1:=hxk
 clear hxk
 obtain ⟨y1,rfl⟩ : ∃ y:World,y=w4:=⟨_,rfl⟩
 obtain ⟨sv1,rfl⟩ : ∃ z:Aa,z=s2:=⟨_,rfl⟩
 obtain ⟨RA1,rfl⟩ : ∃ z:Option Addr,z=RA:=⟨_,rfl⟩
 obtain ⟨rc1,rfl⟩ : ∃ z:Nat,z=rc:=⟨_,rfl⟩
 (try simp only [Act.put,zA,zB,zC,zD,zE,zF])
 go_upto_region 3 with fail
 go_cut [3] from 19 to 26 (fun e wx=>∃ s2 RA rc Q2,e=.pointer (some ⟨Q2,0,none⟩)∧Aw w.heap.size wx s2∧s2.data=Liv.d2∧Blk wx T 30 s2.arr∧Blk wx Q2 34 #[.int .i64 0,.int .i64 1,.slice RA 0 rc]∧Ext (fun q=>q=T ∨ y1.heap.size≤q) y1 wx)
 case first =>
  have hd:Ext Nothing y1 y1.drew:=(Ext.refl _ _).drew
  refine zS (S:=fun W'=>Ext (fun q=>q=T ∨ y1.heap.size≤q) y1 W') (by kernel_rfl) ?_
  generalize y1.drew=W at hd ⊢
  refine wpAnyH_all (rs:=[0,1,8]) (by kernel_rfl) (by simp) (List.forall_mem_cons.2 ⟨?_,(List.forall_mem_cons.2 ⟨?_,(List.forall_mem_cons.2 ⟨?_,(fun _ h=>absurd h (by simp))⟩)⟩)⟩)
  (focus
   refine wpOp_val (v:=.agg sv1.arr) (w':=W) rfl (by rfl) (by exact AB rfl Aj (by go_simp) (hT1.e0 hd) rfl) ⟨hd.any,?_⟩
   (try simp only [Act.put,zA,zB,zC,zD,zE,zF])
   refine wpAnyH_all (rs:=[1,8]) (by kernel_rfl) (by simp) (List.forall_mem_cons.2 ⟨?_,(List.forall_mem_cons.2 ⟨?_,(fun _ h=>absurd h (by simp))⟩)⟩)
   (focus
    refine Ai (f:=39) (args:=#[]) rfl (by rfl) (by go_simp) ((EJ W).mono ?_)
    rintro e W ⟨G2,rfl,hgs,hxa⟩
    replace hd:=hd.tr hxa
    clear hxa
    refine ⟨_,rfl,hd.any,?_⟩
    (try simp only [Act.put,zA,zB,zC,zD,zE,zF])
    refine zV 2 (.agg (Liv.c2 G2).arr) rfl (by kernel_rfl) (hd.any) (fun _ _ _ h=>h) (fun W' hS'=>by go_simp) ?_
    refine zV 3 (.agg ((Liv.c2 G2).ent 2 0)) rfl (by kernel_rfl) (hd.any) (fun _ _ _ h=>h) (fun W' hS'=>by go_simp) ?_
    (try simp only [Act.put,zA,zB,zC,zD,zE,zF])
    refine wpAnyH_all (rs:=[4,8]) (by kernel_rfl) (by simp) (List.forall_mem_cons.2 ⟨?_,(List.forall_mem_cons.2 ⟨?_,(fun _ h=>absurd h (by simp))⟩)⟩)
    (focus
     refine Ai (f:=15) (args:=#[.agg sv1.arr,.agg ((Liv.c2 G2).ent 2 0)]) rfl (by rfl) (by go_simp) ((Ch (base:=w.heap.size) (t:=1) (s:=sv1) (w:=W) (c:=(Liv.c2 G2)) (ix:=2) 0 (hO1.AP hd) hG1 (Liv.i2 hgs) (show (Lit.int .i64 3).wf=true by decide) (by decide) (by decide) (by decide) (D:=Liv.d2) (R:=⟨0,1,[]⟩) (by rw [HD1.out];exact Liv.e2)).mono ?_)
     rintro e W9 ⟨s2,RA,rc,rfl,hO2,hD2,hx2⟩
     replace hO2:=hO2.base (show w.heap.size≤W.heap.size by have h8:=hd.size;have h9:=hx1.size;omega)
     replace hd:=hd.tr hx2
     clear hx2
     clear hgs
     obtain ⟨W,rfl⟩ : ∃ z:World,z=W9:=⟨_,rfl⟩
     refine ⟨_,rfl,hd.any,?_⟩
     (try simp only [Act.put,zA,zB,zC,zD,zE,zF])
     refine zV 5 (.tuple #[.agg s2.arr,.agg #[.int .i64 0,.int .i64 1,.slice RA 0 rc]]) rfl (by kernel_rfl) (hd.any) (fun _ _ _ h=>h) (fun W' hS'=>by go_simp) ?_
     refine zV 6 (.agg s2.arr) rfl (by kernel_rfl) (hd.any) (fun _ _ _ h=>h) (fun W' hS'=>by go_simp) ?_
     refine zV 7 (.agg #[.int .i64 0,.int .i64 1,.slice RA 0 rc]) rfl (by kernel_rfl) (hd.any) (fun _ _ _ h=>h) (fun W' hS'=>by go_simp) ?_
     (try simp only [Act.put,zA,zB,zC,zD,zE,zF])
     refine zO 8 (by kernel_rfl) ?_
     refine wpOp_val (v:=.pointer (some ⟨W.heap.size,0,none⟩)) (w':=W.alloc (.cells #[.int .i64 0,.int .i64 0,.slice none 0 0] 34)) rfl (by rfl) (by go_simp) ⟨(hd.tr Ext.Ay).any,?_⟩
     (try simp only [Act.put,zA,zB,zC,zD,zE,zF])
     have hC:Blk (W.alloc (.cells #[.int .i64 0,.int .i64 0,.slice none 0 0] 34)) W.heap.size 34 #[.int .i64 0,.int .i64 0,.slice none 0 0]:=Blk.new _ _ _
     have hal:Ext Nothing W (W.alloc (.cells #[.int .i64 0,.int .i64 0,.slice none 0 0] 34)):=Ext.Ay
     have hQy:y1.heap.size≤W.heap.size:=hd.size
     replace hd:=hd.tr hal
     replace hO2:=hO2.AP hal
     generalize W.heap.size=Q2 at hC hQy ⊢
     generalize (W.alloc (.cells #[.int .i64 0,.int .i64 0,.slice none 0 0] 34))=W at hC hd hO2 ⊢
     clear hal
     )
    rotate_left
    (focus
     refine wpOp_val (v:=.pointer (some ⟨W.heap.size,0,none⟩)) (w':=W.alloc (.cells #[.int .i64 0,.int .i64 0,.slice none 0 0] 34)) rfl (by rfl) (by go_simp) ⟨(hd.tr Ext.Ay).any,?_⟩
     (try simp only [Act.put,zA,zB,zC,zD,zE,zF])
     have hC:Blk (W.alloc (.cells #[.int .i64 0,.int .i64 0,.slice none 0 0] 34)) W.heap.size 34 #[.int .i64 0,.int .i64 0,.slice none 0 0]:=Blk.new _ _ _
     have hal:Ext Nothing W (W.alloc (.cells #[.int .i64 0,.int .i64 0,.slice none 0 0] 34)):=Ext.Ay
     have hQy:y1.heap.size≤W.heap.size:=hd.size
     replace hd:=hd.tr hal
     replace hgs:=hgs.e0 hal
     generalize W.heap.size=Q2 at hC hQy ⊢
     generalize (W.alloc (.cells #[.int .i64 0,.int .i64 0,.slice none 0 0] 34))=W at hC hd hgs ⊢
     clear hal
     refine zO 4 (by kernel_rfl) ?_
     refine Ai (f:=15) (args:=#[.agg sv1.arr,.agg ((Liv.c2 G2).ent 2 0)]) rfl (by rfl) (by go_simp) ((Ch (base:=w.heap.size) (t:=1) (s:=sv1) (w:=W) (c:=(Liv.c2 G2)) (ix:=2) 0 (hO1.AP hd) hG1 (Liv.i2 hgs) (show (Lit.int .i64 3).wf=true by decide) (by decide) (by decide) (by decide) (D:=Liv.d2) (R:=⟨0,1,[]⟩) (by rw [HD1.out];exact Liv.e2)).mono ?_)
     rintro e W9 ⟨s2,RA,rc,rfl,hO2,hD2,hx2⟩
     replace hO2:=hO2.base (show w.heap.size≤W.heap.size by have h8:=hd.size;have h9:=hx1.size;omega)
     replace hd:=hd.tr hx2
     replace hC:=hC.e0 hx2
     clear hx2
     clear hgs
     obtain ⟨W,rfl⟩ : ∃ z:World,z=W9:=⟨_,rfl⟩
     refine ⟨_,rfl,hd.any,?_⟩
     (try simp only [Act.put,zA,zB,zC,zD,zE,zF])
     refine zV 5 (.tuple #[.agg s2.arr,.agg #[.int .i64 0,.int .i64 1,.slice RA 0 rc]]) rfl (by kernel_rfl) (hd.any) (fun _ _ _ h=>h) (fun W' hS'=>by go_simp) ?_
     refine zV 6 (.agg s2.arr) rfl (by kernel_rfl) (hd.any) (fun _ _ _ h=>h) (fun W' hS'=>by go_simp) ?_
     refine zV 7 (.agg #[.int .i64 0,.int .i64 1,.slice RA 0 rc]) rfl (by kernel_rfl) (hd.any) (fun _ _ _ h=>h) (fun W' hS'=>by go_simp) ?_
     (try simp only [Act.put,zA,zB,zC,zD,zE,zF])
     )
    rotate_left
    )
   rotate_left 2
   (focus
    refine wpOp_val (v:=.pointer (some ⟨W.heap.size,0,none⟩)) (w':=W.alloc (.cells #[.int .i64 0,.int .i64 0,.slice none 0 0] 34)) rfl (by rfl) (by go_simp) ⟨(hd.tr Ext.Ay).any,?_⟩
    (try simp only [Act.put,zA,zB,zC,zD,zE,zF])
    have hC:Blk (W.alloc (.cells #[.int .i64 0,.int .i64 0,.slice none 0 0] 34)) W.heap.size 34 #[.int .i64 0,.int .i64 0,.slice none 0 0]:=Blk.new _ _ _
    have hal:Ext Nothing W (W.alloc (.cells #[.int .i64 0,.int .i64 0,.slice none 0 0] 34)):=Ext.Ay
    have hQy:y1.heap.size≤W.heap.size:=hd.size
    replace hd:=hd.tr hal
    generalize W.heap.size=Q2 at hC hQy ⊢
    generalize (W.alloc (.cells #[.int .i64 0,.int .i64 0,.slice none 0 0] 34))=W at hC hd ⊢
    clear hal
    refine zO 1 (by kernel_rfl) ?_
    refine Ai (f:=39) (args:=#[]) rfl (by rfl) (by go_simp) ((EJ W).mono ?_)
    rintro e W ⟨G2,rfl,hgs,hxa⟩
    replace hd:=hd.tr hxa
    replace hC:=hC.e0 hxa
    clear hxa
    refine ⟨_,rfl,hd.any,?_⟩
    (try simp only [Act.put,zA,zB,zC,zD,zE,zF])
    refine zV 2 (.agg (Liv.c2 G2).arr) rfl (by kernel_rfl) (hd.any) (fun _ _ _ h=>h) (fun W' hS'=>by go_simp) ?_
    refine zV 3 (.agg ((Liv.c2 G2).ent 2 0)) rfl (by kernel_rfl) (hd.any) (fun _ _ _ h=>h) (fun W' hS'=>by go_simp) ?_
    (try simp only [Act.put,zA,zB,zC,zD,zE,zF])
    refine zO 4 (by kernel_rfl) ?_
    refine Ai (f:=15) (args:=#[.agg sv1.arr,.agg ((Liv.c2 G2).ent 2 0)]) rfl (by rfl) (by go_simp) ((Ch (base:=w.heap.size) (t:=1) (s:=sv1) (w:=W) (c:=(Liv.c2 G2)) (ix:=2) 0 (hO1.AP hd) hG1 (Liv.i2 hgs) (show (Lit.int .i64 3).wf=true by decide) (by decide) (by decide) (by decide) (D:=Liv.d2) (R:=⟨0,1,[]⟩) (by rw [HD1.out];exact Liv.e2)).mono ?_)
    rintro e W9 ⟨s2,RA,rc,rfl,hO2,hD2,hx2⟩
    replace hO2:=hO2.base (show w.heap.size≤W.heap.size by have h8:=hd.size;have h9:=hx1.size;omega)
    replace hd:=hd.tr hx2
    replace hC:=hC.e0 hx2
    clear hx2
    clear hgs
    obtain ⟨W,rfl⟩ : ∃ z:World,z=W9:=⟨_,rfl⟩
    refine ⟨_,rfl,hd.any,?_⟩
    (try simp only [Act.put,zA,zB,zC,zD,zE,zF])
    refine zV 5 (.tuple #[.agg s2.arr,.agg #[.int .i64 0,.int .i64 1,.slice RA 0 rc]]) rfl (by kernel_rfl) (hd.any) (fun _ _ _ h=>h) (fun W' hS'=>by go_simp) ?_
    refine zV 6 (.agg s2.arr) rfl (by kernel_rfl) (hd.any) (fun _ _ _ h=>h) (fun W' hS'=>by go_simp) ?_
    refine zV 7 (.agg #[.int .i64 0,.int .i64 1,.slice RA 0 rc]) rfl (by kernel_rfl) (hd.any) (fun _ _ _ h=>h) (fun W' hS'=>by go_simp) ?_
    (try simp only [Act.put,zA,zB,zC,zD,zE,zF])
    )
   rotate_left
   )
  rotate_left 3
  (focus
   refine Ai (f:=39) (args:=#[]) rfl (by rfl) (by go_simp) ((EJ W).mono ?_)
   rintro e W ⟨G2,rfl,hgs,hxa⟩
   replace hd:=hd.tr hxa
   clear hxa
   refine ⟨_,rfl,hd.any,?_⟩
   (try simp only [Act.put,zA,zB,zC,zD,zE,zF])
   refine zV 2 (.agg (Liv.c2 G2).arr) rfl (by kernel_rfl) (hd.any) (fun _ _ _ h=>h) (fun W' hS'=>by go_simp) ?_
   refine zV 3 (.agg ((Liv.c2 G2).ent 2 0)) rfl (by kernel_rfl) (hd.any) (fun _ _ _ h=>h) (fun W' hS'=>by go_simp) ?_
   (try simp only [Act.put,zA,zB,zC,zD,zE,zF])
   refine wpAnyH_all (rs:=[0,8]) (by kernel_rfl) (by simp) (List.forall_mem_cons.2 ⟨?_,(List.forall_mem_cons.2 ⟨?_,(fun _ h=>absurd h (by simp))⟩)⟩)
   (focus
    refine wpOp_val (v:=.agg sv1.arr) (w':=W) rfl (by rfl) (by exact AB rfl Aj (by go_simp) (hT1.e0 hd) rfl) ⟨hd.any,?_⟩
    (try simp only [Act.put,zA,zB,zC,zD,zE,zF])
    refine wpAnyH_all (rs:=[4,8]) (by kernel_rfl) (by simp) (List.forall_mem_cons.2 ⟨?_,(List.forall_mem_cons.2 ⟨?_,(fun _ h=>absurd h (by simp))⟩)⟩)
    (focus
     refine Ai (f:=15) (args:=#[.agg sv1.arr,.agg ((Liv.c2 G2).ent 2 0)]) rfl (by rfl) (by go_simp) ((Ch (base:=w.heap.size) (t:=1) (s:=sv1) (w:=W) (c:=(Liv.c2 G2)) (ix:=2) 0 (hO1.AP hd) hG1 (Liv.i2 hgs) (show (Lit.int .i64 3).wf=true by decide) (by decide) (by decide) (by decide) (D:=Liv.d2) (R:=⟨0,1,[]⟩) (by rw [HD1.out];exact Liv.e2)).mono ?_)
     rintro e W9 ⟨s2,RA,rc,rfl,hO2,hD2,hx2⟩
     replace hO2:=hO2.base (show w.heap.size≤W.heap.size by have h8:=hd.size;have h9:=hx1.size;omega)
     replace hd:=hd.tr hx2
     clear hx2
     clear hgs
     obtain ⟨W,rfl⟩ : ∃ z:World,z=W9:=⟨_,rfl⟩
     refine ⟨_,rfl,hd.any,?_⟩
     (try simp only [Act.put,zA,zB,zC,zD,zE,zF])
     refine zV 5 (.tuple #[.agg s2.arr,.agg #[.int .i64 0,.int .i64 1,.slice RA 0 rc]]) rfl (by kernel_rfl) (hd.any) (fun _ _ _ h=>h) (fun W' hS'=>by go_simp) ?_
     refine zV 6 (.agg s2.arr) rfl (by kernel_rfl) (hd.any) (fun _ _ _ h=>h) (fun W' hS'=>by go_simp) ?_
     refine zV 7 (.agg #[.int .i64 0,.int .i64 1,.slice RA 0 rc]) rfl (by kernel_rfl) (hd.any) (fun _ _ _ h=>h) (fun W' hS'=>by go_simp) ?_
     (try simp only [Act.put,zA,zB,zC,zD,zE,zF])
     refine zO 8 (by kernel_rfl) ?_
     refine wpOp_val (v:=.pointer (some ⟨W.heap.size,0,none⟩)) (w':=W.alloc (.cells #[.int .i64 0,.int .i64 0,.slice none 0 0] 34)) rfl (by rfl) (by go_simp) ⟨(hd.tr Ext.Ay).any,?_⟩
     (try simp only [Act.put,zA,zB,zC,zD,zE,zF])
     have hC:Blk (W.alloc (.cells #[.int .i64 0,.int .i64 0,.slice none 0 0] 34)) W.heap.size 34 #[.int .i64 0,.int .i64 0,.slice none 0 0]:=Blk.new _ _ _
     have hal:Ext Nothing W (W.alloc (.cells #[.int .i64 0,.int .i64 0,.slice none 0 0] 34)):=Ext.Ay
     have hQy:y1.heap.size≤W.heap.size:=hd.size
     replace hd:=hd.tr hal
     replace hO2:=hO2.AP hal
     generalize W.heap.size=Q2 at hC hQy ⊢
     generalize (W.alloc (.cells #[.int .i64 0,.int .i64 0,.slice none 0 0] 34))=W at hC hd hO2 ⊢
     clear hal
     )
    rotate_left
    (focus
     refine wpOp_val (v:=.pointer (some ⟨W.heap.size,0,none⟩)) (w':=W.alloc (.cells #[.int .i64 0,.int .i64 0,.slice none 0 0] 34)) rfl (by rfl) (by go_simp) ⟨(hd.tr Ext.Ay).any,?_⟩
     (try simp only [Act.put,zA,zB,zC,zD,zE,zF])
     have hC:Blk (W.alloc (.cells #[.int .i64 0,.int .i64 0,.slice none 0 0] 34)) W.heap.size 34 #[.int .i64 0,.int .i64 0,.slice none 0 0]:=Blk.new _ _ _
     have hal:Ext Nothing W (W.alloc (.cells #[.int .i64 0,.int .i64 0,.slice none 0 0] 34)):=Ext.Ay
     have hQy:y1.heap.size≤W.heap.size:=hd.size
     replace hd:=hd.tr hal
     replace hgs:=hgs.e0 hal
     generalize W.heap.size=Q2 at hC hQy ⊢
     generalize (W.alloc (.cells #[.int .i64 0,.int .i64 0,.slice none 0 0] 34))=W at hC hd hgs ⊢
     clear hal
     refine zO 4 (by kernel_rfl) ?_
     refine Ai (f:=15) (args:=#[.agg sv1.arr,.agg ((Liv.c2 G2).ent 2 0)]) rfl (by rfl) (by go_simp) ((Ch (base:=w.heap.size) (t:=1) (s:=sv1) (w:=W) (c:=(Liv.c2 G2)) (ix:=2) 0 (hO1.AP hd) hG1 (Liv.i2 hgs) (show (Lit.int .i64 3).wf=true by decide) (by decide) (by decide) (by decide) (D:=Liv.d2) (R:=⟨0,1,[]⟩) (by rw [HD1.out];exact Liv.e2)).mono ?_)
     rintro e W9 ⟨s2,RA,rc,rfl,hO2,hD2,hx2⟩
     replace hO2:=hO2.base (show w.heap.size≤W.heap.size by have h8:=hd.size;have h9:=hx1.size;omega)
     replace hd:=hd.tr hx2
     replace hC:=hC.e0 hx2
     clear hx2
     clear hgs
     obtain ⟨W,rfl⟩ : ∃ z:World,z=W9:=⟨_,rfl⟩
     refine ⟨_,rfl,hd.any,?_⟩
     (try simp only [Act.put,zA,zB,zC,zD,zE,zF])
     refine zV 5 (.tuple #[.agg s2.arr,.agg #[.int .i64 0,.int .i64 1,.slice RA 0 rc]]) rfl (by kernel_rfl) (hd.any) (fun _ _ _ h=>h) (fun W' hS'=>by go_simp) ?_
     refine zV 6 (.agg s2.arr) rfl (by kernel_rfl) (hd.any) (fun _ _ _ h=>h) (fun W' hS'=>by go_simp) ?_
     refine zV 7 (.agg #[.int .i64 0,.int .i64 1,.slice RA 0 rc]) rfl (by kernel_rfl) (hd.any) (fun _ _ _ h=>h) (fun W' hS'=>by go_simp) ?_
     (try simp only [Act.put,zA,zB,zC,zD,zE,zF])
     )
    rotate_left
    )
   rotate_left 2
   (focus
    refine wpOp_val (v:=.pointer (some ⟨W.heap.size,0,none⟩)) (w':=W.alloc (.cells #[.int .i64 0,.int .i64 0,.slice none 0 0] 34)) rfl (by rfl) (by go_simp) ⟨(hd.tr Ext.Ay).any,?_⟩
    (try simp only [Act.put,zA,zB,zC,zD,zE,zF])
    have hC:Blk (W.alloc (.cells #[.int .i64 0,.int .i64 0,.slice none 0 0] 34)) W.heap.size 34 #[.int .i64 0,.int .i64 0,.slice none 0 0]:=Blk.new _ _ _
    have hal:Ext Nothing W (W.alloc (.cells #[.int .i64 0,.int .i64 0,.slice none 0 0] 34)):=Ext.Ay
    have hQy:y1.heap.size≤W.heap.size:=hd.size
    replace hd:=hd.tr hal
    replace hgs:=hgs.e0 hal
    generalize W.heap.size=Q2 at hC hQy ⊢
    generalize (W.alloc (.cells #[.int .i64 0,.int .i64 0,.slice none 0 0] 34))=W at hC hd hgs ⊢
    clear hal
    refine zO 0 (by kernel_rfl) ?_
    refine wpOp_val (v:=.agg sv1.arr) (w':=W) rfl (by rfl) (by exact AB rfl Aj (by go_simp) (hT1.e0 hd) rfl) ⟨hd.any,?_⟩
    (try simp only [Act.put,zA,zB,zC,zD,zE,zF])
    refine zO 4 (by kernel_rfl) ?_
    refine Ai (f:=15) (args:=#[.agg sv1.arr,.agg ((Liv.c2 G2).ent 2 0)]) rfl (by rfl) (by go_simp) ((Ch (base:=w.heap.size) (t:=1) (s:=sv1) (w:=W) (c:=(Liv.c2 G2)) (ix:=2) 0 (hO1.AP hd) hG1 (Liv.i2 hgs) (show (Lit.int .i64 3).wf=true by decide) (by decide) (by decide) (by decide) (D:=Liv.d2) (R:=⟨0,1,[]⟩) (by rw [HD1.out];exact Liv.e2)).mono ?_)
    rintro e W9 ⟨s2,RA,rc,rfl,hO2,hD2,hx2⟩
    replace hO2:=hO2.base (show w.heap.size≤W.heap.size by have h8:=hd.size;have h9:=hx1.size;omega)
    replace hd:=hd.tr hx2
    replace hC:=hC.e0 hx2
    clear hx2
    clear hgs
    obtain ⟨W,rfl⟩ : ∃ z:World,z=W9:=⟨_,rfl⟩
    refine ⟨_,rfl,hd.any,?_⟩
    (try simp only [Act.put,zA,zB,zC,zD,zE,zF])
    refine zV 5 (.tuple #[.agg s2.arr,.agg #[.int .i64 0,.int .i64 1,.slice RA 0 rc]]) rfl (by kernel_rfl) (hd.any) (fun _ _ _ h=>h) (fun W' hS'=>by go_simp) ?_
    refine zV 6 (.agg s2.arr) rfl (by kernel_rfl) (hd.any) (fun _ _ _ h=>h) (fun W' hS'=>by go_simp) ?_
    refine zV 7 (.agg #[.int .i64 0,.int .i64 1,.slice RA 0 rc]) rfl (by kernel_rfl) (hd.any) (fun _ _ _ h=>h) (fun W' hS'=>by go_simp) ?_
    (try simp only [Act.put,zA,zB,zC,zD,zE,zF])
    )
   rotate_left
   )
  rotate_left 3
  (focus
   refine wpOp_val (v:=.pointer (some ⟨W.heap.size,0,none⟩)) (w':=W.alloc (.cells #[.int .i64 0,.int .i64 0,.slice none 0 0] 34)) rfl (by rfl) (by go_simp) ⟨(hd.tr Ext.Ay).any,?_⟩
   (try simp only [Act.put,zA,zB,zC,zD,zE,zF])
   have hC:Blk (W.alloc (.cells #[.int .i64 0,.int .i64 0,.slice none 0 0] 34)) W.heap.size 34 #[.int .i64 0,.int .i64 0,.slice none 0 0]:=Blk.new _ _ _
   have hal:Ext Nothing W (W.alloc (.cells #[.int .i64 0,.int .i64 0,.slice none 0 0] 34)):=Ext.Ay
   have hQy:y1.heap.size≤W.heap.size:=hd.size
   replace hd:=hd.tr hal
   generalize W.heap.size=Q2 at hC hQy ⊢
   generalize (W.alloc (.cells #[.int .i64 0,.int .i64 0,.slice none 0 0] 34))=W at hC hd ⊢
   clear hal
   refine wpAnyH_all (rs:=[0,1]) (by kernel_rfl) (by simp) (List.forall_mem_cons.2 ⟨?_,(List.forall_mem_cons.2 ⟨?_,(fun _ h=>absurd h (by simp))⟩)⟩)
   (focus
    refine wpOp_val (v:=.agg sv1.arr) (w':=W) rfl (by rfl) (by exact AB rfl Aj (by go_simp) (hT1.e0 hd) rfl) ⟨hd.any,?_⟩
    (try simp only [Act.put,zA,zB,zC,zD,zE,zF])
    refine zO 1 (by kernel_rfl) ?_
    refine Ai (f:=39) (args:=#[]) rfl (by rfl) (by go_simp) ((EJ W).mono ?_)
    rintro e W ⟨G2,rfl,hgs,hxa⟩
    replace hd:=hd.tr hxa
    replace hC:=hC.e0 hxa
    clear hxa
    refine ⟨_,rfl,hd.any,?_⟩
    (try simp only [Act.put,zA,zB,zC,zD,zE,zF])
    refine zV 2 (.agg (Liv.c2 G2).arr) rfl (by kernel_rfl) (hd.any) (fun _ _ _ h=>h) (fun W' hS'=>by go_simp) ?_
    refine zV 3 (.agg ((Liv.c2 G2).ent 2 0)) rfl (by kernel_rfl) (hd.any) (fun _ _ _ h=>h) (fun W' hS'=>by go_simp) ?_
    (try simp only [Act.put,zA,zB,zC,zD,zE,zF])
    refine zO 4 (by kernel_rfl) ?_
    refine Ai (f:=15) (args:=#[.agg sv1.arr,.agg ((Liv.c2 G2).ent 2 0)]) rfl (by rfl) (by go_simp) ((Ch (base:=w.heap.size) (t:=1) (s:=sv1) (w:=W) (c:=(Liv.c2 G2)) (ix:=2) 0 (hO1.AP hd) hG1 (Liv.i2 hgs) (show (Lit.int .i64 3).wf=true by decide) (by decide) (by decide) (by decide) (D:=Liv.d2) (R:=⟨0,1,[]⟩) (by rw [HD1.out];exact Liv.e2)).mono ?_)
    rintro e W9 ⟨s2,RA,rc,rfl,hO2,hD2,hx2⟩
    replace hO2:=hO2.base (show w.heap.size≤W.heap.size by have h8:=hd.size;have h9:=hx1.size;omega)
    replace hd:=hd.tr hx2
    replace hC:=hC.e0 hx2
    clear hx2
    clear hgs
    obtain ⟨W,rfl⟩ : ∃ z:World,z=W9:=⟨_,rfl⟩
    refine ⟨_,rfl,hd.any,?_⟩
    (try simp only [Act.put,zA,zB,zC,zD,zE,zF])
    refine zV 5 (.tuple #[.agg s2.arr,.agg #[.int .i64 0,.int .i64 1,.slice RA 0 rc]]) rfl (by kernel_rfl) (hd.any) (fun _ _ _ h=>h) (fun W' hS'=>by go_simp) ?_
    refine zV 6 (.agg s2.arr) rfl (by kernel_rfl) (hd.any) (fun _ _ _ h=>h) (fun W' hS'=>by go_simp) ?_
    refine zV 7 (.agg #[.int .i64 0,.int .i64 1,.slice RA 0 rc]) rfl (by kernel_rfl) (hd.any) (fun _ _ _ h=>h) (fun W' hS'=>by go_simp) ?_
    (try simp only [Act.put,zA,zB,zC,zD,zE,zF])
    )
   rotate_left
   (focus
    refine Ai (f:=39) (args:=#[]) rfl (by rfl) (by go_simp) ((EJ W).mono ?_)
    rintro e W ⟨G2,rfl,hgs,hxa⟩
    replace hd:=hd.tr hxa
    replace hC:=hC.e0 hxa
    clear hxa
    refine ⟨_,rfl,hd.any,?_⟩
    (try simp only [Act.put,zA,zB,zC,zD,zE,zF])
    refine zV 2 (.agg (Liv.c2 G2).arr) rfl (by kernel_rfl) (hd.any) (fun _ _ _ h=>h) (fun W' hS'=>by go_simp) ?_
    refine zV 3 (.agg ((Liv.c2 G2).ent 2 0)) rfl (by kernel_rfl) (hd.any) (fun _ _ _ h=>h) (fun W' hS'=>by go_simp) ?_
    (try simp only [Act.put,zA,zB,zC,zD,zE,zF])
    refine zO 0 (by kernel_rfl) ?_
    refine wpOp_val (v:=.agg sv1.arr) (w':=W) rfl (by rfl) (by exact AB rfl Aj (by go_simp) (hT1.e0 hd) rfl) ⟨hd.any,?_⟩
    (try simp only [Act.put,zA,zB,zC,zD,zE,zF])
    refine zO 4 (by kernel_rfl) ?_
    refine Ai (f:=15) (args:=#[.agg sv1.arr,.agg ((Liv.c2 G2).ent 2 0)]) rfl (by rfl) (by go_simp) ((Ch (base:=w.heap.size) (t:=1) (s:=sv1) (w:=W) (c:=(Liv.c2 G2)) (ix:=2) 0 (hO1.AP hd) hG1 (Liv.i2 hgs) (show (Lit.int .i64 3).wf=true by decide) (by decide) (by decide) (by decide) (D:=Liv.d2) (R:=⟨0,1,[]⟩) (by rw [HD1.out];exact Liv.e2)).mono ?_)
    rintro e W9 ⟨s2,RA,rc,rfl,hO2,hD2,hx2⟩
    replace hO2:=hO2.base (show w.heap.size≤W.heap.size by have h8:=hd.size;have h9:=hx1.size;omega)
    replace hd:=hd.tr hx2
    replace hC:=hC.e0 hx2
    clear hx2
    clear hgs
    obtain ⟨W,rfl⟩ : ∃ z:World,z=W9:=⟨_,rfl⟩
    refine ⟨_,rfl,hd.any,?_⟩
    (try simp only [Act.put,zA,zB,zC,zD,zE,zF])
    refine zV 5 (.tuple #[.agg s2.arr,.agg #[.int .i64 0,.int .i64 1,.slice RA 0 rc]]) rfl (by kernel_rfl) (hd.any) (fun _ _ _ h=>h) (fun W' hS'=>by go_simp) ?_
    refine zV 6 (.agg s2.arr) rfl (by kernel_rfl) (hd.any) (fun _ _ _ h=>h) (fun W' hS'=>by go_simp) ?_
    refine zV 7 (.agg #[.int .i64 0,.int .i64 1,.slice RA 0 rc]) rfl (by kernel_rfl) (hd.any) (fun _ _ _ h=>h) (fun W' hS'=>by go_simp) ?_
    (try simp only [Act.put,zA,zB,zC,zD,zE,zF])
    )
   rotate_left
   )
  rotate_left 2
  all_goals (
   refine zO 9 (by kernel_rfl) ?_
   refine Bq (p:=T) (cs:=s2.arr) rfl (by rfl) rfl (by go_simp) (by go_simp) (hT1.e0 hd) rfl Aj rfl rfl (fun w3 hB3 hx3=>?_)
   have hd3:=(hd.any (S:=fun q=>q=T ∨ y1.heap.size≤q)).trans hx3 (fun q hq e=>.inl e)
   have hQT:Q2 ≠ T:=Blk.ne hC (hT1.e0 hd) (by decide)
   refine ⟨hd3,?_⟩
   (try simp only [Act.put,zA,zB,zC,zD,zE,zF])
   refine zO 10 (by kernel_rfl) ?_
   refine Bq (p:=Q2) (cs:=#[.int .i64 0,.int .i64 1,.slice RA 0 rc]) rfl (by rfl) rfl (by go_simp) (by go_simp) (hC.ext hx3 (fun e=>hQT e)) rfl STResult rfl rfl (fun w4 hE4 hx4=>?_)
   have hd4:=hd3.trans hx4 (fun q hq e=>.inr (by have h9:q=Q2:=e;have h8:=hQy;omega))
   refine ⟨hd4,wpAnyH_done (by kernel_rfl) ?_ _⟩
   (try simp only [Act.put,zA,zB,zC,zD,zE,zF])
   go_wp2
   go_meet
   exact ⟨s2,RA,rc,Q2,rfl,(hO2.keep hx3 (Apart.one (hT1.e0 hd) (by decide))).keep hx4 (Apart.one (hC.ext hx3 (fun e=>hQT e)) (by decide)),hD2,hB3.ext hx4 (fun e=>hQT e.symm),hE4,hd4⟩
   )
 case rest =>
  obtain ⟨s2,RA,rc,Q2,rfl,hO2,hD2,hT2,hE2,hx2⟩:=hcut
  obtain ⟨y2,rfl⟩ : ∃ z:World,z=wc:=⟨_,rfl⟩
  have hE1:=hE1.ext hx2 (fun e=>by have h9:=hE1.lt;rcases e with e|e;exact Blk.ne hE1 hT1 (by decide) e;omega)
  have hxw:Ext Nothing w y2:=hx1.trans hx2 (fun q hq e=>by have h9:q < w.heap.size:=hq;have:=hx1.size;rcases e with e|e <;> omega)
  have hG2:Fsm.EU 2 s2.data:=by rw [hD2];exact Liv.g2
  have HD2:=Lib.hid hD2
  clear hx2 hD2 hO1 hT1 hx1 hG1
  obtain ⟨sv2,rfl⟩ : ∃ z:Aa,z=s2:=⟨_,rfl⟩
  obtain ⟨RA2,rfl⟩ : ∃ z:Option Addr,z=RA:=⟨_,rfl⟩
  obtain ⟨rc2,rfl⟩ : ∃ z:Nat,z=rc:=⟨_,rfl⟩
  have hxX:Ext Nothing y2 ((y2.alloc (.cells #[.int .i64 0,.int .i64 1,.int .i64 1,.int .i64 0,.int .i64 0,.int .i64 1,.int .i64 1,.int .i64 40,.int .i64 5,.bool false,.int .i64 0] 55)).alloc (.cells #[.int .i64 0,.int .i64 1,.int .i64 1,.int .i64 0,.int .i64 0,.int .i64 1,.int .i64 1,.int .i64 40,.int .i64 5,.bool false,.int .i64 0] 55)):=Ext.Ay
  have hX:Blk ((y2.alloc (.cells #[.int .i64 0,.int .i64 1,.int .i64 1,.int .i64 0,.int .i64 0,.int .i64 1,.int .i64 1,.int .i64 40,.int .i64 5,.bool false,.int .i64 0] 55)).alloc (.cells #[.int .i64 0,.int .i64 1,.int .i64 1,.int .i64 0,.int .i64 0,.int .i64 1,.int .i64 1,.int .i64 40,.int .i64 5,.bool false,.int .i64 0] 55)) y2.heap.size 55 #[.int .i64 0,.int .i64 1,.int .i64 1,.int .i64 0,.int .i64 0,.int .i64 1,.int .i64 1,.int .i64 40,.int .i64 5,.bool false,.int .i64 0]:=(Blk.new y2 _ _).e0 Ext.Ay
  have hY:Blk ((y2.alloc (.cells #[.int .i64 0,.int .i64 1,.int .i64 1,.int .i64 0,.int .i64 0,.int .i64 1,.int .i64 1,.int .i64 40,.int .i64 5,.bool false,.int .i64 0] 55)).alloc (.cells #[.int .i64 0,.int .i64 1,.int .i64 1,.int .i64 0,.int .i64 0,.int .i64 1,.int .i64 1,.int .i64 40,.int .i64 5,.bool false,.int .i64 0] 55)) (y2.heap.size+1) 55 #[.int .i64 0,.int .i64 1,.int .i64 1,.int .i64 0,.int .i64 0,.int .i64 1,.int .i64 1,.int .i64 40,.int .i64 5,.bool false,.int .i64 0]:=Blk.new' _ _ _ (by simp)
  have hzX:w.heap.size≤y2.heap.size:=hxw.size
  go_upto_region 6 with (first|go_skip|go_guarded|((with_reducible refine isW ?_);refine Ae rfl 55 _ rfl Ba y2.heap.size rfl #[.int .i64 0,.int .i64 1,.int .i64 1,.int .i64 0,.int .i64 0,.int .i64 1,.int .i64 1,.int .i64 40,.int .i64 5,.bool false,.int .i64 0] (show Blk _ _ 55 _ from Blk.new y2 _ _) rfl ?_))
  have hzy:y2.heap.size≤y2.heap.size:=Nat.le_refl _
  generalize hXX:y2.heap.size=X at hX hY hzX ⊢
  generalize ((y2.alloc (.cells #[.int .i64 0,.int .i64 1,.int .i64 1,.int .i64 0,.int .i64 0,.int .i64 1,.int .i64 1,.int .i64 40,.int .i64 5,.bool false,.int .i64 0] 55)).alloc (.cells #[.int .i64 0,.int .i64 1,.int .i64 1,.int .i64 0,.int .i64 0,.int .i64 1,.int .i64 1,.int .i64 40,.int .i64 5,.bool false,.int .i64 0] 55))=y4 at hX hY hxX ⊢
  have c4:y4.cell? ⟨X+1,4,none⟩=some (.int .i64 0):=hY.cell 4
  have c4f:y4.frozen? ⟨X+1,4,none⟩=false:=hY.frozen 4
  have hs6:Ext (fun q=>q=X+1) y4 (y4.setCell ⟨X+1,4,none⟩ (.int .i64 1)):=Ext.set1 _ _ _ _
  have hY6:Blk (y4.setCell ⟨X+1,4,none⟩ (.int .i64 1)) (X+1) 55 #[.int .i64 0,.int .i64 1,.int .i64 1,.int .i64 0,.int .i64 1,.int .i64 1,.int .i64 1,.int .i64 40,.int .i64 5,.bool false,.int .i64 0]:=hY.Bi 4 _
  have hX6:=hX.ext hs6 (fun e=>by have:X=X+1:=e;omega)
  have hxN:Ext Nothing y2 (y4.setCell ⟨X+1,4,none⟩ (.int .i64 1)):=hxX.trans hs6 (fun q hq e=>by have h9:q < y2.heap.size:=hq;have:q=X+1:=e;omega)
  have hT6:=hT2.e0 hxN
  have hE16:=hE1.e0 hxN
  have hE26:=hE2.e0 hxN
  have hO6:=hO2.AP hxN
  have hxw6:=hxw.tr hxN
  go_upto_region 7 with (first|go_skip|go_guarded)
  clear c4 c4f hs6 hO2 hT2 hE1 hE2 hX hY hxw hxN hxX hXX hzy
  generalize (y4.setCell ⟨X+1,4,none⟩ (.int .i64 1))=y5 at hY6 hX6 hT6 hE16 hE26 hO6 hxw6 ⊢
  have hxL:Ext Nothing y5 (y5.alloc (.cells #[.int .i64 0,.int .i64 1,.int .i64 1,.int .i64 0,.int .i64 0,.int .i64 1,.int .i64 1,.int .i64 40,.int .i64 5,.bool false,.int .i64 0,.int .i64 0,.int .i64 1,.int .i64 1,.int .i64 0,.int .i64 1,.int .i64 1,.int .i64 1,.int .i64 40,.int .i64 5,.bool false,.int .i64 0] 55)):=Ext.Ay
  have hL:Blk (y5.alloc (.cells #[.int .i64 0,.int .i64 1,.int .i64 1,.int .i64 0,.int .i64 0,.int .i64 1,.int .i64 1,.int .i64 40,.int .i64 5,.bool false,.int .i64 0,.int .i64 0,.int .i64 1,.int .i64 1,.int .i64 0,.int .i64 1,.int .i64 1,.int .i64 1,.int .i64 40,.int .i64 5,.bool false,.int .i64 0] 55)) y5.heap.size 55 #[.int .i64 0,.int .i64 1,.int .i64 1,.int .i64 0,.int .i64 0,.int .i64 1,.int .i64 1,.int .i64 40,.int .i64 5,.bool false,.int .i64 0,.int .i64 0,.int .i64 1,.int .i64 1,.int .i64 0,.int .i64 1,.int .i64 1,.int .i64 1,.int .i64 40,.int .i64 5,.bool false,.int .i64 0]:=Blk.new _ _ _
  have hTz:=(hT6.e0 hxL)
  have hOz:=hO6.AP hxL
  have hxz:=hxw6.tr hxL
  have hTy:=hTz.lt
  have Q1e:=hE16.e0 hxL
  have Q2e:=hE26.e0 hxL
  clear hE16 hE26
  go_upto_region 8 with (first|go_skip|go_guarded|((with_reducible refine isW ?_);refine Ae rfl 30 _ rfl Aj T rfl sv2.arr (show Blk _ _ 30 _ from hT6) rfl ?_)|((with_reducible refine isW ?_);refine Ae rfl 55 _ rfl Ba X rfl #[.int .i64 0,.int .i64 1,.int .i64 1,.int .i64 0,.int .i64 0,.int .i64 1,.int .i64 1,.int .i64 40,.int .i64 5,.bool false,.int .i64 0] (show Blk _ _ 55 _ from hX6) rfl ?_)|((with_reducible refine isW ?_);refine Ae rfl 55 _ rfl Ba (X+1) rfl #[.int .i64 0,.int .i64 1,.int .i64 1,.int .i64 0,.int .i64 1,.int .i64 1,.int .i64 1,.int .i64 40,.int .i64 5,.bool false,.int .i64 0] (show Blk _ _ 55 _ from hY6) rfl ?_)|(go_at_call 15;refine (Ch (base:=w.heap.size) (t:=2) (s:=sv2) (w:=(y5.alloc (.cells #[.int .i64 0,.int .i64 1,.int .i64 1,.int .i64 0,.int .i64 0,.int .i64 1,.int .i64 1,.int .i64 40,.int .i64 5,.bool false,.int .i64 0,.int .i64 0,.int .i64 1,.int .i64 1,.int .i64 0,.int .i64 1,.int .i64 1,.int .i64 1,.int .i64 40,.int .i64 5,.bool false,.int .i64 0] 55))) (c:=(Liv.c3 y5.heap.size)) (ix:=3) 0 hOz hG2 (Liv.i3 hL) (show (Lit.int .i64 9).wf=true by decide) (by decide) (by decide) (by decide) (D:=Liv.d3) (R:=⟨0,3,[]⟩) (by rw [HD2.out];exact Liv.e3)).mono ?_;rintro e w2 ⟨s2,RA,rc,rfl,hO2,hD2,hx2⟩)|((with_reducible refine isW ?_);refine Af rfl 30 _ _ rfl Aj T rfl s2.arr rfl (show Blk _ _ 30 _ from (hTz.e0 hx2).e0 Ext.Ay) rfl rfl rfl ?_;intro w3 hB3 hx3)|((with_reducible refine isW ?_);refine Af rfl 34 _ _ rfl STResult w2.heap.size rfl #[.int .i64 0,.int .i64 3,.slice RA 0 rc] rfl (show Blk _ _ 34 _ from (Blk.new w2 _ _).ext hx3 (fun e=>absurd (show w2.heap.size=T from e) (by have:=hx2.size;omega))) rfl rfl rfl ?_;intro w4 hE4 hx4))
  have hE1:=Q1e
  have hE2:=Q2e
  clear Q1e Q2e
  have hal:Ext Nothing w2 (w2.alloc (.cells #[.int .i64 0,.int .i64 0,.slice none 0 0] 34)):=Ext.Ay
  have hz2:=hx2.size
  have hx34:Ext (fun q=>q=T ∨ q=w2.heap.size) (w2.alloc (.cells #[.int .i64 0,.int .i64 0,.slice none 0 0] 34)) w4:=(hx3.mono (fun _ _ e=>.inl e)).trans hx4 (fun _ _ e=>.inr e)
  have hxk:Ext Nothing w w4:=((hxz.tr hx2).tr hal).trans hx34 (fun q hq e=>by have h9:q < w.heap.size:=hq;have h8:q=T ∨ q=w2.heap.size:=e;have h7:=hxz.size;omega)
  have hT3:=hB3.ext hx4 (fun e=>absurd (show T=w2.heap.size from e) (by omega))
  have hO3:=(((hO2.base hxz.size).AP hal).keep hx3 (Apart.one ((hTz.e0 hx2).e0 hal) (by decide))).keep hx4 (Apart.one ((Blk.new w2 _ _).ext hx3 (fun e=>absurd (show w2.heap.size=T from e) (by omega))) (by decide))
  have hE1:=((hE1.e0 hx2).e0 hal).ext hx34 (fun e=>by have h9:Q1 < w2.heap.size:=(hE1.e0 hx2).lt;rcases e with e|e;exact Blk.ne (hE1.e0 hx2) (hTz.e0 hx2) (by decide) e;omega)
  have hE2:=((hE2.e0 hx2).e0 hal).ext hx34 (fun e=>by have h9:Q2 < w2.heap.size:=(hE2.e0 hx2).lt;rcases e with e|e;exact Blk.ne (hE2.e0 hx2) (hTz.e0 hx2) (by decide) e;omega)
  have HD3:=Lib.hid hD2
  have hG3:Fsm.EU 3 s2.data:=by rw [hD2];exact Liv.g3
  have hTl3:T < w2.heap.size:=(hTz.e0 hx2).lt
  have hE3:=hE4
  clear hE4 hB3 hx3 hx4 hx34 hal hO2 hD2 hTy hOz hTz hxz
  generalize hQ3:w2.heap.size=Q3 at hE3 hTl3 ⊢
  clear hz2 hx2 hQ3
  have hx3:=hxk
  clear hxk
  obtain ⟨y3,rfl⟩ : ∃ y:World,y=w4:=⟨_,rfl⟩
  obtain ⟨sv3,rfl⟩ : ∃ z:Aa,z=s2:=⟨_,rfl⟩
  obtain ⟨RA3,rfl⟩ : ∃ z:Option Addr,z=RA:=⟨_,rfl⟩
  obtain ⟨rc3,rfl⟩ : ∃ z:Nat,z=rc:=⟨_,rfl⟩
  have hxM:Ext Nothing y3 (y3.alloc (.cells #[.int .i64 1,.int .i64 2,.int .i64 2,.int .i64 2] 97)):=Ext.Ay
  have hMr:Blk (y3.alloc (.cells #[.int .i64 1,.int .i64 2,.int .i64 2,.int .i64 2] 97)) y3.heap.size 97 #[.int .i64 1,.int .i64 2,.int .i64 2,.int .i64 2]:=Blk.new _ _ _
  have hTz:=(hT3.e0 hxM)
  have hOz:=hO3.AP hxM
  have hxz:=hx3.tr hxM
  have hTy:=hTz.lt
  have Q1e:=hE1.e0 hxM
  have Q2e:=hE2.e0 hxM
  have Q3e:=hE3.e0 hxM
  clear hE1 hE2 hE3 hL hX6 hY6 hO6 hT6 hxw6 hxL
  go_upto_region 9 with (first|go_skip|go_guarded|((with_reducible refine isW ?_);refine Ae rfl 30 _ rfl Aj T rfl sv3.arr (show Blk _ _ 30 _ from hT3) rfl ?_)|(go_at_call 15;refine (Ch (base:=w.heap.size) (t:=3) (s:=sv3) (w:=(y3.alloc (.cells #[.int .i64 1,.int .i64 2,.int .i64 2,.int .i64 2] 97))) (c:=(Liv.c4 y3.heap.size)) (ix:=4) 0 hOz hG3 (Liv.i4 hMr) (show (Lit.int .i64 6).wf=true by decide) (by decide) (by decide) (by decide) (D:=Liv.d4) (R:=Liv.r4) (by rw [HD3.out];exact Liv.e4)).mono ?_;rintro e w2 ⟨s2,RA,rc,rfl,hO2,hD2,hx2⟩)|((with_reducible refine isW ?_);refine Af rfl 30 _ _ rfl Aj T rfl s2.arr rfl (show Blk _ _ 30 _ from (hTz.e0 hx2).e0 Ext.Ay) rfl rfl rfl ?_;intro w3 hB3 hx3)|((with_reducible refine isW ?_);refine Af rfl 34 _ _ rfl STResult w2.heap.size rfl #[.int .i64 Liv.r4.code,.int .i64 Liv.r4.value,.slice RA Liv.r4.allocs.length rc] rfl (show Blk _ _ 34 _ from (Blk.new w2 _ _).ext hx3 (fun e=>absurd (show w2.heap.size=T from e) (by have:=hx2.size;omega))) rfl rfl rfl ?_;intro w4 hE4 hx4))
  have hE1:=Q1e
  have hE2:=Q2e
  have hE3:=Q3e
  clear Q1e Q2e Q3e
  have hal:Ext Nothing w2 (w2.alloc (.cells #[.int .i64 0,.int .i64 0,.slice none 0 0] 34)):=Ext.Ay
  have hz2:=hx2.size
  have hx34:Ext (fun q=>q=T ∨ q=w2.heap.size) (w2.alloc (.cells #[.int .i64 0,.int .i64 0,.slice none 0 0] 34)) w4:=(hx3.mono (fun _ _ e=>.inl e)).trans hx4 (fun _ _ e=>.inr e)
  have hxk:Ext Nothing w w4:=((hxz.tr hx2).tr hal).trans hx34 (fun q hq e=>by have h9:q < w.heap.size:=hq;have h8:q=T ∨ q=w2.heap.size:=e;have h7:=hxz.size;omega)
  have hT4:=hB3.ext hx4 (fun e=>absurd (show T=w2.heap.size from e) (by omega))
  have hO4:=(((hO2.base hxz.size).AP hal).keep hx3 (Apart.one ((hTz.e0 hx2).e0 hal) (by decide))).keep hx4 (Apart.one ((Blk.new w2 _ _).ext hx3 (fun e=>absurd (show w2.heap.size=T from e) (by omega))) (by decide))
  have hE1:=((hE1.e0 hx2).e0 hal).ext hx34 (fun e=>by have h9:Q1 < w2.heap.size:=(hE1.e0 hx2).lt;rcases e with e|e;exact Blk.ne (hE1.e0 hx2) (hTz.e0 hx2) (by decide) e;omega)
  have hE2:=((hE2.e0 hx2).e0 hal).ext hx34 (fun e=>by have h9:Q2 < w2.heap.size:=(hE2.e0 hx2).lt;rcases e with e|e;exact Blk.ne (hE2.e0 hx2) (hTz.e0 hx2) (by decide) e;omega)
  have hE3:=((hE3.e0 hx2).e0 hal).ext hx34 (fun e=>by have h9:Q3 < w2.heap.size:=(hE3.e0 hx2).lt;rcases e with e|e;exact Blk.ne (hE3.e0 hx2) (hTz.e0 hx2) (by decide) e;omega)
  have HD4:=Lib.hid hD2
  have hTl4:T < w2.heap.size:=(hTz.e0 hx2).lt
  have hE4:=hE4
  clear hE4 hB3 hx3 hx4 hx34 hal hO2 hD2 hTy hOz hTz hxz
  generalize hQ4:w2.heap.size=Q4 at hE4 hTl4 ⊢
  clear hz2 hx2 hQ4
  have hx4:=hxk
  clear hxk
  obtain ⟨y4,rfl⟩ : ∃ y:World,y=w4:=⟨_,rfl⟩
  obtain ⟨sv4,rfl⟩ : ∃ z:Aa,z=s2:=⟨_,rfl⟩
  obtain ⟨RA4,rfl⟩ : ∃ z:Option Addr,z=RA:=⟨_,rfl⟩
  obtain ⟨rc4,rfl⟩ : ∃ z:Nat,z=rc:=⟨_,rfl⟩
  have HTl:=Lib.hid hTl4
  have HAL:=Lib.hid (show sv4.nA=2 by have h9:=hO4.al;rw [show sv4.allocs=Liv.d4.allocs from congrArg Ab.allocs HD4.out,Liv.al4] at h9;exact h9)
  have HST:=Lib.hid (show sv4.nS=1 by have h9:=hO4.tl;have h8:(sv4.stable.map (·.1)).length=Liv.d4.stable.length:=congrArg (fun z:Ab=>z.stable.length) HD4.out;rw [List.length_map,Liv.st4] at h8;omega)
  have HEV:=Lib.hid (show sv4.evals=[⟨1,50,1,4⟩] from (congrArg Ab.evals HD4.out).trans Liv.ev4)
  have HDP:=Lib.hid (show sv4.deploys=[Liv.dp4] from (congrArg Ab.deploys HD4.out).trans Liv.dp)
  have HEL:=Lib.hid (show sv4.nE=1 by have h9:=hO4.el;rw [HEV.out] at h9;exact h9)
  have HDL:=Lib.hid (show sv4.nD=1 by have h9:=hO4.dl;rw [HDP.out] at h9;exact h9)
  have HNX:=Lib.hid (show sv4.next=3 from (congrArg Ab.next HD4.out).trans Liv.nx4)
  obtain ⟨gE,_,hAE,_,_,_,hceE,_⟩:=hO4.Ju (show sv4.evals[0]? = some ⟨1,50,1,4⟩ by rw [HEV.out];rfl)
  obtain ⟨gD,_,hAD,_,_,_,hceD,_⟩:=hO4.Js (show sv4.deploys[0]? = some Liv.dp4 by rw [HDP.out];rfl)
  have e10:y4.cell? ⟨Q1,0,none⟩=some (.int .i64 0):=hE1.cell 0
  have e11:y4.cell? ⟨Q1,1,none⟩=some (.int .i64 1):=hE1.cell 1
  have e21:y4.cell? ⟨Q2,1,none⟩=some (.int .i64 1):=hE2.cell 1
  have e30:y4.cell? ⟨Q3,0,none⟩=some (.int .i64 0):=hE3.cell 0
  have e31:y4.cell? ⟨Q3,1,none⟩=some (.int .i64 3):=hE3.cell 1
  have e42:y4.cell? ⟨Q4,2,none⟩=some (.slice RA4 2 rc4):=(hE4.cell 2).trans (congrArg (fun n=>some (Value.slice RA4 n rc4)) Liv.n4)
  have t5:y4.cell? ⟨T,5,none⟩=some (.slice sv4.AA 2 sv4.cA):=by rw [← HAL.out];exact hT4.cell 5
  have t3:y4.cell? ⟨T,3,none⟩=some (.slice sv4.AS 1 sv4.cS):=by rw [← HST.out];exact hT4.cell 3
  have t6:y4.cell? ⟨T,6,none⟩=some (.slice (some ⟨gE,0,none⟩) 1 sv4.cE):=by rw [← HEL.out,← hAE];exact hT4.cell 6
  have t7:y4.cell? ⟨T,7,none⟩=some (.slice (some ⟨gD,0,none⟩) 1 sv4.cD):=by rw [← HDL.out,← hAD];exact hT4.cell 7
  have t1:y4.cell? ⟨T,1,none⟩=some (.int .i64 3):=by rw [← HNX.out];exact hT4.cell 1
  have k2:y4.cell? ⟨gE,2,none⟩=some (.int .i64 1):=hceE 2 _ rfl
  have k3:y4.cell? ⟨gE,3,none⟩=some (.int .i64 4):=hceE 3 _ rfl
  have k7:y4.cell? ⟨gD,2,none⟩=some (.int .i64 2):=by rw [← Liv.dp2];exact hceD 2 _ rfl
  clear hceE hceD hAE hAD
  go_wp2_with (first|go_skip|go_guarded)
  go_ret
  exact ⟨rfl,hx4⟩
end Go.Proofs.YtccekmeifanipaaGreat
