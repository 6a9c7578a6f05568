/- Parts of the proof: CopyLay -/
import Derived.Test.YtccekmeifanipaaGreatT07
import Derived.Test.YtccekmeifanipaaGreatT25
namespace Go.Proofs.YtccekmeifanipaaGreat
set_option linter.unusedVariables false
set_option linter.unusedSimpArgs false
set_option linter.unusedSectionVars false
open Go.RowKit
set_option maxRecDepth 100000 in
set_option maxHeartbeats 8000000 in
theorem K9 (s:Aa) (w:World) (h:s.Lay w) :
  Calls Tryz.prog 21 #[.agg #[.int .i64 s.index,.int .i64 s.next,.slice s.AJ s.nJ s.cJ,.slice s.AS s.nS s.cS,.slice s.AN s.nN s.cN,.slice s.AA s.nA s.cA,.slice s.AE s.nE s.cE,.slice s.AD s.nD s.cD,.slice s.AX s.nX s.cX]] w fun e w'=>∃ s' : Aa,e=.returned (.agg #[.int .i64 s'.index,.int .i64 s'.next,.slice s'.AJ s'.nJ s'.cJ,.slice s'.AS s'.nS s'.cS,.slice s'.AN s'.nN s'.cN,.slice s'.AA s'.nA s'.cA,.slice s'.AE s'.nE s'.cE,.slice s'.AD s'.nD s'.cD,.slice s'.AX s'.nX s'.cX])∧EO w.heap.size w' s s'∧Ext Nothing w w':=by
 have hI:CS w s (((w.alloc (.cells #[.int .i64 s.index,.int .i64 s.next,.slice s.AJ s.nJ s.cJ,.slice s.AS s.nS s.cS,.slice s.AN s.nN s.cN,.slice s.AA s.nA s.cA,.slice s.AE s.nE s.cE,.slice s.AD s.nD s.cD,.slice s.AX s.nX s.cX] 30)).alloc (.cells #[.int .i64 0,.int .i64 0,.slice none 0 0,.slice none 0 0,.slice none 0 0,.slice none 0 0,.slice none 0 0,.slice none 0 0,.slice none 0 0] 30)).alloc (.cells #[.int .i64 s.index,.int .i64 s.next,.slice none 0 0,.slice none 0 0,.slice none 0 0,.slice none 0 0,.slice none 0 0,.slice none 0 0,.slice none 0 0] 30)) #[.int .i64 s.index,.int .i64 s.next,.slice none 0 0,.slice none 0 0,.slice none 0 0,.slice none 0 0,.slice none 0 0,.slice none 0 0,.slice none 0 0] :=
  ⟨by (with_reducible repeat' first|assumption|exact Ext.refl _ _|refine Ext.alloc ?_ _|refine Ext.drew ?_|refine Ext.drewN ?_ _|refine xS ?_ (by simp only [World.size_alloc,World.size_setCell,World.size_drew] <;> omega) _|refine Ext.tr ?_ (by assumption)),(Blk.new w _ _).ext (S:=Nothing) (by (with_reducible repeat' first|assumption|exact Ext.refl _ _|refine Ext.alloc ?_ _|refine Ext.drew ?_|refine Ext.drewN ?_ _|refine xS ?_ (by simp only [World.size_alloc,World.size_setCell,World.size_drew] <;> omega) _|refine Ext.tr ?_ (by assumption))) (fun e=>e),(Blk.new' (w.alloc (.cells #[.int .i64 s.index,.int .i64 s.next,.slice s.AJ s.nJ s.cJ,.slice s.AS s.nS s.cS,.slice s.AN s.nN s.cN,.slice s.AA s.nA s.cA,.slice s.AE s.nE s.cE,.slice s.AD s.nD s.cD,.slice s.AX s.nX s.cX] 30)) _ _ (n:=w.heap.size+1) (by simp)).ext (S:=Nothing) (by (with_reducible repeat' first|assumption|exact Ext.refl _ _|refine Ext.alloc ?_ _|refine Ext.drew ?_|refine Ext.drewN ?_ _|refine xS ?_ (by simp only [World.size_alloc,World.size_setCell,World.size_drew] <;> omega) _|refine Ext.tr ?_ (by assumption))) (fun e=>e),Blk.new' _ _ _ (by simp)⟩
 have hmJ:=h.mJ
 have hmS:=h.mS
 have hmN:=h.mN
 have hmA:=h.mA
 have hmE:=h.mE
 have hmD:=h.mD
 have hmX:=h.mX
 have hlJ:=Lib.hid h.sJ.len
 have hlS:=Lib.hid h.sS.len
 have hlN:=Lib.hid h.sN.len
 have hlA:=Lib.hid h.sA.len
 have hlE:=Lib.hid h.sE.len
 have hlD:=Lib.hid h.sD.len
 have hlX:=Lib.hid h.sX.len
 go_enter Tryz.func21,Tryz.ntmps21
 go_wp2
 generalize (((w.alloc (.cells #[.int .i64 s.index,.int .i64 s.next,.slice s.AJ s.nJ s.cJ,.slice s.AS s.nS s.cS,.slice s.AN s.nN s.cN,.slice s.AA s.nA s.cA,.slice s.AE s.nE s.cE,.slice s.AD s.nD s.cD,.slice s.AX s.nX s.cX] 30)).alloc (.cells #[.int .i64 0,.int .i64 0,.slice none 0 0,.slice none 0 0,.slice none 0 0,.slice none 0 0,.slice none 0 0,.slice none 0 0,.slice none 0 0] 30)).alloc (.cells #[.int .i64 s.index,.int .i64 s.next,.slice none 0 0,.slice none 0 0,.slice none 0 0,.slice none 0 0,.slice none 0 0,.slice none 0 0,.slice none 0 0] 30))=W at hI ⊢
 go_loopw [4] (fun i W=>∃ t:Nat,t≤s.nJ∧i=.int .i64 t∧∃ (ys:List JobV) (A:Option Addr) (c:Nat),ys.length=t∧ys.map (·.1)=(s.jobs.take t).map (·.1)∧CS w s W #[.int .i64 s.index,.int .i64 s.next,.slice A t c,.slice none 0 0,.slice none 0 0,.slice none 0 0,.slice none 0 0,.slice none 0 0,.slice none 0 0]∧BC w.heap.size W (.slice A t c) ys) (fun i _=>s.nJ - (intOf i).toNat)
 case atStart=>exact ⟨0,Nat.zero_le _,rfl,[],none,0,rfl,rfl,hI,⟨World.ownsRow_nil _ _ _ _,by simp⟩⟩
 case round =>
  clear hI
  obtain ⟨t,ht,rfl,ys,A,c,hyl,hym,I,HJ⟩:=hrel
  have k2:wr.cell? ⟨w.heap.size,2,none⟩=some (.slice s.AJ s.nJ s.cJ):=I.src.cell 2
  by_cases hlt:t < s.nJ
  ·obtain ⟨hjn,b,off,hAe,hce⟩:=h.sJ.get (Ext.refl Nothing w) hlt
   have hxo:=h.kJ _ (List.getElem_mem hjn)
   have hyn:(s.jobs.take (t+1)).map (·.1)=ys.map (·.1) ++ [s.jobs[t].1]:=by rw [show s.jobs.take (t+1)=s.jobs.take t ++ [s.jobs[t]] by rw [List.take_add_one,List.getElem?_eq_getElem hjn];rfl,List.map_append,← hym];rfl
   generalize hxx:s.jobs[t]=xv at hce hxo hyn
   obtain ⟨x,vg⟩:=xv
   obtain ⟨AG,nG,cG,hv,hG0,hnG⟩:=hxo
   simp only at hv hG0 hyn
   subst hv
   clear hxx hjn
   rw [hAe] at k2
   have HA:=Lib.hid hAe
   have HYM:=Lib.hid hym
   have HYN:=Lib.hid hyn
   have HYL:=Lib.hid hyl
   clear hAe hym hyn hyl
   have hk0:(0:Int)≤(t:Int):=by omega
   have hk1:(t:Int) < s.nJ:=by omega
   go_wp2
   have o2:wr.cell? ⟨w.heap.size+1+1,2,none⟩=some (.slice A t c):=I.out.cell 2
   have hsb:∀ q,(q=w.heap.size+1+1 ∨ (Value.slice A t c).ownBlock=some q)→w.heap.size≤q:=fun q e=>by rcases e with e|e;omega;exact id (BM HJ.own e)
   have hrow:(Value.slice A t c).ownBlock ≠ some w.heap.size:=own_ne HJ.own I.src (by decide)
   have hns:¬ (w.heap.size=w.heap.size+1+1 ∨ (Value.slice A t c).ownBlock=some w.heap.size):=fun e=>by rcases e with e|e;omega;exact hrow e
   refine wp_region_held (S:=fun W=>Ext (fun q=>q=w.heap.size+1+1 ∨ (Value.slice A t c).ownBlock=some q) wr W) (by kernel_rfl) ?_
   have hd:Ext (fun q=>q=w.heap.size+1+1 ∨ (Value.slice A t c).ownBlock=some q) wr wr.drew:=Ext.drew (Ext.refl _ _)
   have hd0:Ext Nothing wr wr.drew:=Ext.drew (Ext.refl _ _)
   change wpAnyH _ _ _ _ _ _ _ _ wr.drew
   generalize wr.drew=Wd at hd hd0 ⊢
   refine zV 0 (.pointer (some ⟨w.heap.size+1+1,2,none⟩)) rfl (by kernel_rfl) hd (fun _ _ _ h=>h) ?_ ?_
   ·intro W' hS'
    go_simp
   refine zV 2 (.pointer (some ⟨w.heap.size,2,none⟩)) rfl (by kernel_rfl) hd (fun _ _ _ h=>h) ?_ ?_
   ·intro W' hS'
    go_simp
   refine zV 3 (.slice (some ⟨b,off,none⟩) s.nJ s.cJ) rfl (by kernel_rfl) hd (fun _ _ _ h=>h) ?_ ?_
   ·intro W' hS'
    have q3:W'.cell? ⟨w.heap.size,2,none⟩=some (.slice (some ⟨b,off,none⟩) s.nJ s.cJ):=hS'.cell k2 hns
    go_simp
   refine zV 4 (.int .i64 (t:Int)) rfl (by kernel_rfl) hd (fun _ _ _ h=>h) ?_ ?_
   ·intro W' hS'
    go_simp
   refine zV 5 (.pointer (some ⟨b,off+t*7,none⟩)) rfl (by kernel_rfl) hd (fun _ _ _ h=>h) ?_ ?_
   ·intro W' hS'
    go_simp
   refine zV 6 (.agg #[.int .i64 x.id,.int .i64 x.ty,.int .i64 x.prio,.int .i64 x.par,.slice AG nG cG,.int .i64 x.ver,.bool x.stopped]) rfl (by kernel_rfl) hd (fun _ _ _ h=>h) ?_ ?_
   ·intro W' hS'
    exact run_load_struct (sz:=7) (b:=b) (off:=off+t*7) rfl STJob (by go_simp) (fun j u hu=>(I.ext.trans hS' (fun q hq e=>absurd (hsb q e) (by omega))).cell (hce j u hu) (fun e=>e)) rfl
   simp only [Act.put,zA,zB,zC,zD,zE,zF]
   have hsd:=hd
   refine wpAnyH_all (rs:=[1,7]) (by kernel_rfl) (by simp) (List.forall_mem_cons.2 ⟨?_,List.forall_mem_cons.2 ⟨?_,fun _ h=>absurd h (by simp)⟩⟩)
   refine wpOp_val (v:=.slice A t c) (w':=Wd) rfl (by rfl) (by have q1:Wd.cell? ⟨w.heap.size+1+1,2,none⟩=some (.slice A t c):=hd0.c0 o2;go_simp) ⟨hsd,?_⟩
   simp only [Act.put,zA,zB,zC,zD,zE,zF]
   refine zO 7 (by kernel_rfl) ?_
   refine Ai (f:=42) (args:=#[.agg #[.int .i64 x.id,.int .i64 x.ty,.int .i64 x.prio,.int .i64 x.par,.slice AG nG cG,.int .i64 x.ver,.bool x.stopped]]) rfl (by rfl) (by go_simp) ((J9 x AG nG cG Wd (hG0.Al (I.ext.tr hd0)) hnG).mono ?_)
   rintro e W5 ⟨A5,c5,rfl,o5,hx5⟩
   have hd5:=hd0.tr hx5
   have hs5:=hd.trans hx5 (fun _ _ e=>e.elim)
   refine ⟨_,rfl,hs5,?_⟩
   simp only [Act.put,zA,zB,zC,zD,zE,zF]
   refine zO 8 (by kernel_rfl) ?_
   refine wpOp_slice1 rfl (by rfl) 23 _ rfl Gf #[.int .i64 x.id,.int .i64 x.ty,.int .i64 x.prio,.int .i64 x.par,.slice A5 nG c5,.int .i64 x.ver,.bool x.stopped] rfl rfl ⟨hs5.alloc _,?_⟩
   simp only [Act.put,zA,zB,zC,zD,zE,zF]
   rotate_left
   refine Ai (f:=42) (args:=#[.agg #[.int .i64 x.id,.int .i64 x.ty,.int .i64 x.prio,.int .i64 x.par,.slice AG nG cG,.int .i64 x.ver,.bool x.stopped]]) rfl (by rfl) (by go_simp) ((J9 x AG nG cG Wd (hG0.Al (I.ext.tr hd0)) hnG).mono ?_)
   rintro e W5 ⟨A5,c5,rfl,o5,hx5⟩
   have hd5:=hd0.tr hx5
   have hs5:=hd.trans hx5 (fun _ _ e=>e.elim)
   refine ⟨_,rfl,hs5,?_⟩
   simp only [Act.put,zA,zB,zC,zD,zE,zF]
   refine wpAnyH_all (rs:=[1,8]) (by kernel_rfl) (by simp) (List.forall_mem_cons.2 ⟨?_,List.forall_mem_cons.2 ⟨?_,fun _ h=>absurd h (by simp)⟩⟩)
   refine wpOp_val (v:=.slice A t c) (w':=W5) rfl (by rfl) (by have q1:W5.cell? ⟨w.heap.size+1+1,2,none⟩=some (.slice A t c):=hd5.c0 o2;go_simp) ⟨hs5,?_⟩
   simp only [Act.put,zA,zB,zC,zD,zE,zF]
   refine zO 8 (by kernel_rfl) ?_
   refine wpOp_slice1 rfl (by rfl) 23 _ rfl Gf #[.int .i64 x.id,.int .i64 x.ty,.int .i64 x.prio,.int .i64 x.par,.slice A5 nG c5,.int .i64 x.ver,.bool x.stopped] rfl rfl ⟨hs5.alloc _,?_⟩
   simp only [Act.put,zA,zB,zC,zD,zE,zF]
   rotate_left
   refine wpOp_slice1 rfl (by rfl) 23 _ rfl Gf #[.int .i64 x.id,.int .i64 x.ty,.int .i64 x.prio,.int .i64 x.par,.slice A5 nG c5,.int .i64 x.ver,.bool x.stopped] rfl rfl ⟨hs5.alloc _,?_⟩
   simp only [Act.put,zA,zB,zC,zD,zE,zF]
   have hd6:Ext Nothing wr (W5.alloc (.cells #[.int .i64 x.id,.int .i64 x.ty,.int .i64 x.prio,.int .i64 x.par,.slice A5 nG c5,.int .i64 x.ver,.bool x.stopped] 39)):=hd5.alloc _
   have hs6:=hs5.alloc (.cells #[.int .i64 x.id,.int .i64 x.ty,.int .i64 x.prio,.int .i64 x.par,.slice A5 nG c5,.int .i64 x.ver,.bool x.stopped] 39)
   refine zO 1 (by kernel_rfl) ?_
   refine wpOp_val (v:=.slice A t c) (w':=(W5.alloc (.cells #[.int .i64 x.id,.int .i64 x.ty,.int .i64 x.prio,.int .i64 x.par,.slice A5 nG c5,.int .i64 x.ver,.bool x.stopped] 39))) rfl (by rfl) (by have q1:(W5.alloc (.cells #[.int .i64 x.id,.int .i64 x.ty,.int .i64 x.prio,.int .i64 x.par,.slice A5 nG c5,.int .i64 x.ver,.bool x.stopped] 39)).cell? ⟨w.heap.size+1+1,2,none⟩=some (.slice A t c):=hd6.c0 o2;go_simp) ⟨hs6,?_⟩
   simp only [Act.put,zA,zB,zC,zD,zE,zF]
   clear hd6 hs6
   all_goals (
    have hx6:Ext Nothing W5 (W5.alloc (.cells #[.int .i64 x.id,.int .i64 x.ty,.int .i64 x.prio,.int .i64 x.par,.slice A5 nG c5,.int .i64 x.ver,.bool x.stopped] 39)):=(Ext.refl _ _).alloc _
    have hd6:=hd5.tr hx6
    have hs6:=hs5.trans hx6 (fun _ _ e=>e.elim)
    have hb6:Blk (W5.alloc (.cells #[.int .i64 x.id,.int .i64 x.ty,.int .i64 x.prio,.int .i64 x.par,.slice A5 nG c5,.int .i64 x.ver,.bool x.stopped] 39)) W5.heap.size 39 #[.int .i64 x.id,.int .i64 x.ty,.int .i64 x.prio,.int .i64 x.par,.slice A5 nG c5,.int .i64 x.ver,.bool x.stopped]:=Blk.new _ _ _
    have hz6:=hd6.size
    have I6:=I.AP hd6
    have HJ6:=HJ.keep hd6 Apart.none
    have hg6:Cq w.heap.size (W5.alloc (.cells #[.int .i64 x.id,.int .i64 x.ty,.int .i64 x.prio,.int .i64 x.par,.slice A5 nG c5,.int .i64 x.ver,.bool x.stopped] 39)) (x,.slice A5 nG c5):=⟨A5,nG,c5,rfl,Ag (Bj o5 (by have:=(I.ext.tr hd0).size;omega)) hx6 Apart.none,hG0.len,hnG⟩
    have HO6:=HJ6.own
    rw [HYL.out] at HO6
    have hwz:=I6.ext.size
    generalize W5.heap.size=pb at hb6 ⊢
    clear hx6 o5 hx5 hs5 hd5
    generalize (W5.alloc (.cells #[.int .i64 x.id,.int .i64 x.ty,.int .i64 x.prio,.int .i64 x.par,.slice A5 nG c5,.int .i64 x.ver,.bool x.stopped] 39))=W6 at hd6 hs6 hb6 hz6 I6 HJ6 hg6 HO6 hwz ⊢
    refine zO 9 (by kernel_rfl) ?_
    refine Jv rfl (by rfl) _ _ 23 rfl w.heap.size Gf (.slice A t c) t (ys.flatMap JobV.cells) rfl HO6 pb 1 #[.int .i64 x.id,.int .i64 x.ty,.int .i64 x.prio,.int .i64 x.par,.slice A5 nG c5,.int .i64 x.ver,.bool x.stopped] rfl hb6 rfl rfl (by omega) hwz ?_
    intro A7 c7 W7 o7 g7
    have hs7:=hs6.grown g7 (fun g e=>.inr (.inr e))
    refine ⟨hs7,?_⟩
    simp only [Act.put,zA,zB,zC,zD,zE,zF]
    have I7:=I6.grown (Bj HO6 (Nat.le_refl _)) (by decide) g7
    have HJ7:=HJ6.push hg6 (by rw [HYL.out];exact o7) g7
    have f7:W7.frozen? ⟨w.heap.size+1+1,2,none⟩=false:=I7.out.frozen 2
    have q7:W7.cell? ⟨w.heap.size+1+1,2,none⟩=some (.slice A t c):=I7.out.cell 2
    have hx8:Ext (fun q=>q=w.heap.size+1+1) W7 (W7.setCell ⟨w.heap.size+1+1,2,none⟩ (.slice A7 (t+1) c7)):=Ext.set1 _ _ _ _
    have HJ8:=HJ7.keep hx8 (Apart.one I7.out (by decide))
    have I8:=I7.put 2 (.slice A7 (t+1) c7)
    have hs8:=hs7.setCell (p:=⟨w.heap.size+1+1,2,none⟩) (.inr (.inl rfl)) (.slice A7 (t+1) c7)
    refine zO 10 (by kernel_rfl) ?_
    refine wpOp_val (v:=.pointer (some ⟨w.heap.size+1+1,2,none⟩)) (w':=W7) rfl (by rfl) (by go_simp) ⟨hs7,?_⟩
    simp only [Act.put,zA,zB,zC,zD,zE,zF]
    refine zO 11 (by kernel_rfl) ?_
    refine AC (w':=W7.setCell ⟨w.heap.size+1+1,2,none⟩ (.slice A7 (t+1) c7)) rfl (by rfl) (by go_simp) ⟨hs8,wpAnyH_done (by kernel_rfl) ?_ _⟩
    simp only [Act.put,zA,zB,zC,zD,zE,zF]
    clear f7 q7 hs8 hs7 HJ7 I7 hx8 o7 g7
    generalize W7.setCell ⟨w.heap.size+1+1,2,none⟩ (.slice A7 (t+1) c7)=W8 at HJ8 I8 ⊢
    go_wp2
    go_roundw
    case rel=>exact ⟨t+1,by omega,by go_num,ys ++ [(x,.slice A5 nG c5)],A7,c7,by rw [List.length_append,HYL.out];rfl,by rw [HYN.out,List.map_append];rfl,I8,HJ8⟩
    case measure=>simp [intOf];omega)
  obtain rfl:t=s.nJ:=by omega
  have HM1:=Lib.hid (show ys.map (·.1)=s.jobs.map (·.1) by rw [hym,List.take_of_length_le (by have:=hlJ.out;omega)])
  have HL1:=Lib.hid hyl
  clear hym hyl
  go_wp2
  obtain ⟨wb,rfl⟩ : ∃ wb:World,wb=wr:=⟨_,rfl⟩
  have hwb:=I.ext.size
  obtain ⟨A1,rfl⟩ : ∃ A1,A1=A:=⟨_,rfl⟩
  obtain ⟨c1,rfl⟩ : ∃ c1,c1=c:=⟨_,rfl⟩
  obtain ⟨ys1,rfl⟩ : ∃ ys1,ys1=ys:=⟨_,rfl⟩
  have hI:=I
  have HA0:=HJ
  have HAlt:∀ q,(Value.slice A1 s.nJ c1).ownBlock=some q→q < wb.heap.size:=fun q e=>CB HJ.own e
  clear I HJ k2 hlt ht
  go_loopw [5] (fun i W=>∃ t:Nat,t≤s.nS∧i=.int .i64 t∧∃ (zs:List JobV) (B:Option Addr) (d:Nat),zs.length=t∧zs.map (·.1)=(s.stable.take t).map (·.1)∧CS w s W #[.int .i64 s.index,.int .i64 s.next,.slice A1 s.nJ c1,.slice B t d,.slice none 0 0,.slice none 0 0,.slice none 0 0,.slice none 0 0,.slice none 0 0]∧BC wb.heap.size W (.slice B t d) zs∧BC w.heap.size W (.slice A1 s.nJ c1) ys1∧wb.heap.size≤W.heap.size) (fun i _=>s.nS - (intOf i).toNat)
  case atStart=>exact ⟨0,Nat.zero_le _,rfl,[],none,0,rfl,rfl,hI,⟨World.ownsRow_nil _ _ _ _,by simp⟩,HA0,Nat.le_refl _⟩
  case round =>
   clear hI HA0
   obtain ⟨t,ht,rfl,zs,B,d,hyl,hym,I,HJ,HA0,hbr⟩:=hrel
   have k3:wr.cell? ⟨w.heap.size,3,none⟩=some (.slice s.AS s.nS s.cS):=I.src.cell 3
   by_cases hlt:t < s.nS
   ·obtain ⟨hjn,b,off,hAe,hce⟩:=h.sS.get (Ext.refl Nothing w) hlt
    have hxo:=h.kS _ (List.getElem_mem hjn)
    have hyn:(s.stable.take (t+1)).map (·.1)=zs.map (·.1) ++ [s.stable[t].1]:=by rw [show s.stable.take (t+1)=s.stable.take t ++ [s.stable[t]] by rw [List.take_add_one,List.getElem?_eq_getElem hjn];rfl,List.map_append,← hym];rfl
    generalize hxx:s.stable[t]=xv at hce hxo hyn
    obtain ⟨x,vg⟩:=xv
    obtain ⟨AG,nG,cG,hv,hG0,hnG⟩:=hxo
    simp only at hv hG0 hyn
    subst hv
    clear hxx hjn
    rw [hAe] at k3
    have HA:=Lib.hid hAe
    have HYM:=Lib.hid hym
    have HYN:=Lib.hid hyn
    have HYL:=Lib.hid hyl
    clear hAe hym hyn hyl
    have hk0:(0:Int)≤(t:Int):=by omega
    have hk1:(t:Int) < s.nS:=by omega
    go_wp2
    have o2:wr.cell? ⟨w.heap.size+1+1,3,none⟩=some (.slice B t d):=I.out.cell 3
    have hsb:∀ q,(q=w.heap.size+1+1 ∨ (Value.slice B t d).ownBlock=some q)→w.heap.size≤q:=fun q e=>by rcases e with e|e;omega;exact (Nat.le_trans hwb) (BM HJ.own e)
    have hrow:(Value.slice B t d).ownBlock ≠ some w.heap.size:=own_ne HJ.own I.src (by decide)
    have hns:¬ (w.heap.size=w.heap.size+1+1 ∨ (Value.slice B t d).ownBlock=some w.heap.size):=fun e=>by rcases e with e|e;omega;exact hrow e
    refine wp_region_held (S:=fun W=>Ext (fun q=>q=w.heap.size+1+1 ∨ (Value.slice B t d).ownBlock=some q) wr W) (by kernel_rfl) ?_
    have hd:Ext (fun q=>q=w.heap.size+1+1 ∨ (Value.slice B t d).ownBlock=some q) wr wr.drew:=Ext.drew (Ext.refl _ _)
    have hd0:Ext Nothing wr wr.drew:=Ext.drew (Ext.refl _ _)
    change wpAnyH _ _ _ _ _ _ _ _ wr.drew
    generalize wr.drew=Wd at hd hd0 ⊢
    refine zV 0 (.pointer (some ⟨w.heap.size+1+1,3,none⟩)) rfl (by kernel_rfl) hd (fun _ _ _ h=>h) ?_ ?_
    ·intro W' hS'
     go_simp
    refine zV 2 (.pointer (some ⟨w.heap.size,3,none⟩)) rfl (by kernel_rfl) hd (fun _ _ _ h=>h) ?_ ?_
    ·intro W' hS'
     go_simp
    refine zV 3 (.slice (some ⟨b,off,none⟩) s.nS s.cS) rfl (by kernel_rfl) hd (fun _ _ _ h=>h) ?_ ?_
    ·intro W' hS'
     have q3:W'.cell? ⟨w.heap.size,3,none⟩=some (.slice (some ⟨b,off,none⟩) s.nS s.cS):=hS'.cell k3 hns
     go_simp
    refine zV 4 (.int .i64 (t:Int)) rfl (by kernel_rfl) hd (fun _ _ _ h=>h) ?_ ?_
    ·intro W' hS'
     go_simp
    refine zV 5 (.pointer (some ⟨b,off+t*7,none⟩)) rfl (by kernel_rfl) hd (fun _ _ _ h=>h) ?_ ?_
    ·intro W' hS'
     go_simp
    refine zV 6 (.agg #[.int .i64 x.id,.int .i64 x.ty,.int .i64 x.prio,.int .i64 x.par,.slice AG nG cG,.int .i64 x.ver,.bool x.stopped]) rfl (by kernel_rfl) hd (fun _ _ _ h=>h) ?_ ?_
    ·intro W' hS'
     exact run_load_struct (sz:=7) (b:=b) (off:=off+t*7) rfl STJob (by go_simp) (fun j u hu=>(I.ext.trans hS' (fun q hq e=>absurd (hsb q e) (by omega))).cell (hce j u hu) (fun e=>e)) rfl
    simp only [Act.put,zA,zB,zC,zD,zE,zF]
    have hsd:=hd
    refine wpAnyH_all (rs:=[1,7]) (by kernel_rfl) (by simp) (List.forall_mem_cons.2 ⟨?_,List.forall_mem_cons.2 ⟨?_,fun _ h=>absurd h (by simp)⟩⟩)
    refine wpOp_val (v:=.slice B t d) (w':=Wd) rfl (by rfl) (by have q1:Wd.cell? ⟨w.heap.size+1+1,3,none⟩=some (.slice B t d):=hd0.c0 o2;go_simp) ⟨hsd,?_⟩
    simp only [Act.put,zA,zB,zC,zD,zE,zF]
    refine zO 7 (by kernel_rfl) ?_
    refine Ai (f:=42) (args:=#[.agg #[.int .i64 x.id,.int .i64 x.ty,.int .i64 x.prio,.int .i64 x.par,.slice AG nG cG,.int .i64 x.ver,.bool x.stopped]]) rfl (by rfl) (by go_simp) ((J9 x AG nG cG Wd (hG0.Al (I.ext.tr hd0)) hnG).mono ?_)
    rintro e W5 ⟨A5,c5,rfl,o5,hx5⟩
    have hd5:=hd0.tr hx5
    have hs5:=hd.trans hx5 (fun _ _ e=>e.elim)
    refine ⟨_,rfl,hs5,?_⟩
    simp only [Act.put,zA,zB,zC,zD,zE,zF]
    refine zO 8 (by kernel_rfl) ?_
    refine wpOp_slice1 rfl (by rfl) 23 _ rfl Gf #[.int .i64 x.id,.int .i64 x.ty,.int .i64 x.prio,.int .i64 x.par,.slice A5 nG c5,.int .i64 x.ver,.bool x.stopped] rfl rfl ⟨hs5.alloc _,?_⟩
    simp only [Act.put,zA,zB,zC,zD,zE,zF]
    rotate_left
    refine Ai (f:=42) (args:=#[.agg #[.int .i64 x.id,.int .i64 x.ty,.int .i64 x.prio,.int .i64 x.par,.slice AG nG cG,.int .i64 x.ver,.bool x.stopped]]) rfl (by rfl) (by go_simp) ((J9 x AG nG cG Wd (hG0.Al (I.ext.tr hd0)) hnG).mono ?_)
    rintro e W5 ⟨A5,c5,rfl,o5,hx5⟩
    have hd5:=hd0.tr hx5
    have hs5:=hd.trans hx5 (fun _ _ e=>e.elim)
    refine ⟨_,rfl,hs5,?_⟩
    simp only [Act.put,zA,zB,zC,zD,zE,zF]
    refine wpAnyH_all (rs:=[1,8]) (by kernel_rfl) (by simp) (List.forall_mem_cons.2 ⟨?_,List.forall_mem_cons.2 ⟨?_,fun _ h=>absurd h (by simp)⟩⟩)
    refine wpOp_val (v:=.slice B t d) (w':=W5) rfl (by rfl) (by have q1:W5.cell? ⟨w.heap.size+1+1,3,none⟩=some (.slice B t d):=hd5.c0 o2;go_simp) ⟨hs5,?_⟩
    simp only [Act.put,zA,zB,zC,zD,zE,zF]
    refine zO 8 (by kernel_rfl) ?_
    refine wpOp_slice1 rfl (by rfl) 23 _ rfl Gf #[.int .i64 x.id,.int .i64 x.ty,.int .i64 x.prio,.int .i64 x.par,.slice A5 nG c5,.int .i64 x.ver,.bool x.stopped] rfl rfl ⟨hs5.alloc _,?_⟩
    simp only [Act.put,zA,zB,zC,zD,zE,zF]
    rotate_left
    refine wpOp_slice1 rfl (by rfl) 23 _ rfl Gf #[.int .i64 x.id,.int .i64 x.ty,.int .i64 x.prio,.int .i64 x.par,.slice A5 nG c5,.int .i64 x.ver,.bool x.stopped] rfl rfl ⟨hs5.alloc _,?_⟩
    simp only [Act.put,zA,zB,zC,zD,zE,zF]
    have hd6:Ext Nothing wr (W5.alloc (.cells #[.int .i64 x.id,.int .i64 x.ty,.int .i64 x.prio,.int .i64 x.par,.slice A5 nG c5,.int .i64 x.ver,.bool x.stopped] 39)):=hd5.alloc _
    have hs6:=hs5.alloc (.cells #[.int .i64 x.id,.int .i64 x.ty,.int .i64 x.prio,.int .i64 x.par,.slice A5 nG c5,.int .i64 x.ver,.bool x.stopped] 39)
    refine zO 1 (by kernel_rfl) ?_
    refine wpOp_val (v:=.slice B t d) (w':=(W5.alloc (.cells #[.int .i64 x.id,.int .i64 x.ty,.int .i64 x.prio,.int .i64 x.par,.slice A5 nG c5,.int .i64 x.ver,.bool x.stopped] 39))) rfl (by rfl) (by have q1:(W5.alloc (.cells #[.int .i64 x.id,.int .i64 x.ty,.int .i64 x.prio,.int .i64 x.par,.slice A5 nG c5,.int .i64 x.ver,.bool x.stopped] 39)).cell? ⟨w.heap.size+1+1,3,none⟩=some (.slice B t d):=hd6.c0 o2;go_simp) ⟨hs6,?_⟩
    simp only [Act.put,zA,zB,zC,zD,zE,zF]
    clear hd6 hs6
    all_goals (
     have hx6:Ext Nothing W5 (W5.alloc (.cells #[.int .i64 x.id,.int .i64 x.ty,.int .i64 x.prio,.int .i64 x.par,.slice A5 nG c5,.int .i64 x.ver,.bool x.stopped] 39)):=(Ext.refl _ _).alloc _
     have hd6:=hd5.tr hx6
     have hs6:=hs5.trans hx6 (fun _ _ e=>e.elim)
     have hb6:Blk (W5.alloc (.cells #[.int .i64 x.id,.int .i64 x.ty,.int .i64 x.prio,.int .i64 x.par,.slice A5 nG c5,.int .i64 x.ver,.bool x.stopped] 39)) W5.heap.size 39 #[.int .i64 x.id,.int .i64 x.ty,.int .i64 x.prio,.int .i64 x.par,.slice A5 nG c5,.int .i64 x.ver,.bool x.stopped]:=Blk.new _ _ _
     have hz6:=hd6.size
     have I6:=I.AP hd6
     have HJ6:=HJ.keep hd6 Apart.none
     have hg6:Cq wb.heap.size (W5.alloc (.cells #[.int .i64 x.id,.int .i64 x.ty,.int .i64 x.prio,.int .i64 x.par,.slice A5 nG c5,.int .i64 x.ver,.bool x.stopped] 39)) (x,.slice A5 nG c5):=⟨A5,nG,c5,rfl,Ag (Bj o5 (by have:=hd0.size;omega)) hx6 Apart.none,hG0.len,hnG⟩
     have HO6:=HJ6.own
     rw [HYL.out] at HO6
     have hwz:=I6.ext.size
     generalize W5.heap.size=pb at hb6 ⊢
     clear hx6 o5 hx5 hs5 hd5
     generalize (W5.alloc (.cells #[.int .i64 x.id,.int .i64 x.ty,.int .i64 x.prio,.int .i64 x.par,.slice A5 nG c5,.int .i64 x.ver,.bool x.stopped] 39))=W6 at hd6 hs6 hb6 hz6 I6 HJ6 hg6 HO6 hwz ⊢
     refine zO 9 (by kernel_rfl) ?_
     refine Jv rfl (by rfl) _ _ 23 rfl wb.heap.size Gf (.slice B t d) t (zs.flatMap JobV.cells) rfl HO6 pb 1 #[.int .i64 x.id,.int .i64 x.ty,.int .i64 x.prio,.int .i64 x.par,.slice A5 nG c5,.int .i64 x.ver,.bool x.stopped] rfl hb6 rfl rfl (by omega) (by omega) ?_
     intro A7 c7 W7 o7 g7
     have hs7:=hs6.grown g7 (fun g e=>.inr (.inr e))
     refine ⟨hs7,?_⟩
     simp only [Act.put,zA,zB,zC,zD,zE,zF]
     have I7:=I6.grown (Bj HO6 hwb) (by decide) g7
     have HJ7:=HJ6.push hg6 (by rw [HYL.out];exact o7) g7
     have f7:W7.frozen? ⟨w.heap.size+1+1,3,none⟩=false:=I7.out.frozen 3
     have q7:W7.cell? ⟨w.heap.size+1+1,3,none⟩=some (.slice B t d):=I7.out.cell 3
     have hx8:Ext (fun q=>q=w.heap.size+1+1) W7 (W7.setCell ⟨w.heap.size+1+1,3,none⟩ (.slice A7 (t+1) c7)):=Ext.set1 _ _ _ _
     have HA07:=(HA0.keep hd6 Apart.none).keepR HAlt (Ext.BI (S:=fun q=>(Value.slice B t d).ownBlock=some q) g7 (fun _ e=>e)) (fun q e=>BM HO6 e) (Apart.row HO6 (by decide))
     have HA08:=HA07.keep hx8 (Apart.one I7.out (by decide))
     have HJ8:=HJ7.keep hx8 (Apart.one I7.out (by decide))
     have I8:=I7.put 3 (.slice A7 (t+1) c7)
     have hs8:=hs7.setCell (p:=⟨w.heap.size+1+1,3,none⟩) (.inr (.inl rfl)) (.slice A7 (t+1) c7)
     refine zO 10 (by kernel_rfl) ?_
     refine wpOp_val (v:=.pointer (some ⟨w.heap.size+1+1,3,none⟩)) (w':=W7) rfl (by rfl) (by go_simp) ⟨hs7,?_⟩
     simp only [Act.put,zA,zB,zC,zD,zE,zF]
     refine zO 11 (by kernel_rfl) ?_
     refine AC (w':=W7.setCell ⟨w.heap.size+1+1,3,none⟩ (.slice A7 (t+1) c7)) rfl (by rfl) (by go_simp) ⟨hs8,wpAnyH_done (by kernel_rfl) ?_ _⟩
     simp only [Act.put,zA,zB,zC,zD,zE,zF]
     have hz8:=hs8.size
     clear f7 q7 hs8 hs7 HJ7 I7 hx8 o7 g7
     generalize W7.setCell ⟨w.heap.size+1+1,3,none⟩ (.slice A7 (t+1) c7)=W8 at HJ8 I8 HA08 hz8 ⊢
     go_wp2
     go_roundw
     case rel=>exact ⟨t+1,by omega,by go_num,zs ++ [(x,.slice A5 nG c5)],A7,c7,by rw [List.length_append,HYL.out];rfl,by rw [HYN.out,List.map_append];rfl,I8,HJ8,HA08,by omega⟩
     case measure=>simp [intOf];omega)
   obtain rfl:t=s.nS:=by omega
   have HM2:=Lib.hid (show zs.map (·.1)=s.stable.map (·.1) by rw [hym,List.take_of_length_le (by have:=hlS.out;omega)])
   have HL2:=Lib.hid hyl
   clear hym hyl hlt ht
   have hsep:∀ q,(Value.slice A1 s.nJ c1).ownBlock=some q→(Value.slice B s.nS d).ownBlock ≠ some q:=fun q h1 h2=>by
    have e1:=HAlt q h1
    have e2:=BM HJ.own h2
    omega
   have C:Cu w s wr (.slice A1 s.nJ c1) (.slice B s.nS d) (.slice none 0 0) (.slice none 0 0) (.slice none 0 0) (.slice none 0 0) (.slice none 0 0) ys1 zs [] [] [] [] []:=⟨I,HA0,HJ.base hwb,World.ownsRow_nil _ _ _ _,World.ownsRow_nil _ _ _ _,World.ownsRow_nil _ _ _ _,World.ownsRow_nil _ _ _ _,⟨World.ownsRow_nil _ _ _ _,by simp⟩⟩
   clear I HA0 HJ
   have k4:wr.cell? ⟨w.heap.size,4,none⟩=some (.slice s.AN s.nN s.cN):=C.i.src.cell 4
   have q4:wr.cell? ⟨w.heap.size+1+1,4,none⟩=some (.slice none 0 0):=C.i.out.cell 4
   go_wp2_with (first|(at_builtin;refine CR rfl _ _ 24 rfl w.heap.size QB (.slice none 0 0) 0 [] rfl (World.ownsRow_nil ..) s.AN s.nN s.cN (s.nodes.map NodD.cells) rfl (h.sN.Al C.i.ext) (Ei (fun _=>rfl) _) (by omega) C.i.ext.size ?_;intro E1 e1 W1 o1 g1;simp only [Nat.zero_add];have z1:W1.ownsRow w.heap.size 43 8 (.slice E1 s.nN e1) s.nodes.length (s.nodes.flatMap NodD.cells):=(by have o:=o1;rw [Nat.zero_add] at o;rw [hlN.out] at o ⊢;exact o);have G1:CS w s W1 _:=C.i.AP (Ext.BI (S:=Nothing) g1 (fun b e=>by simp [Value.ownBlock] at e));have f1:W1.frozen? ⟨w.heap.size+1+1,4,none⟩=false:=G1.out.frozen 4;have r1:W1.cell? ⟨w.heap.size+1+1,4,none⟩=some (.slice none 0 0):=G1.out.cell 4;have C1:=C.BP z1 g1;have k5:(W1.setCell ⟨w.heap.size+1+1,4,none⟩ (.slice E1 s.nN e1)).cell? ⟨w.heap.size,5,none⟩=some (.slice s.AA s.nA s.cA):=C1.i.src.cell 5;have q5:(W1.setCell ⟨w.heap.size+1+1,4,none⟩ (.slice E1 s.nN e1)).cell? ⟨w.heap.size+1+1,5,none⟩=some (.slice none 0 0):=C1.i.out.cell 5)|(at_builtin;refine CR rfl _ _ 25 rfl w.heap.size SRAlloc (.slice none 0 0) 0 [] rfl (World.ownsRow_nil ..) s.AA s.nA s.cA (s.allocs.map Ac.cells) rfl (h.sA.Al C1.i.ext) (Ei (fun _=>rfl) _) (by omega) C1.i.ext.size ?_;intro E2 e2 W2 o2 g2;simp only [Nat.zero_add];have z2:W2.ownsRow w.heap.size 55 11 (.slice E2 s.nA e2) s.allocs.length (s.allocs.flatMap Ac.cells):=(by have o:=o2;rw [Nat.zero_add] at o;rw [hlA.out] at o ⊢;exact o);have G2:CS w s W2 _:=C1.i.AP (Ext.BI (S:=Nothing) g2 (fun b e=>by simp [Value.ownBlock] at e));have f2:W2.frozen? ⟨w.heap.size+1+1,5,none⟩=false:=G2.out.frozen 5;have r2:W2.cell? ⟨w.heap.size+1+1,5,none⟩=some (.slice none 0 0):=G2.out.cell 5;have C2:=C1.I9 z2 g2;have k6:(W2.setCell ⟨w.heap.size+1+1,5,none⟩ (.slice E2 s.nA e2)).cell? ⟨w.heap.size,6,none⟩=some (.slice s.AE s.nE s.cE):=C2.i.src.cell 6;have q6:(W2.setCell ⟨w.heap.size+1+1,5,none⟩ (.slice E2 s.nA e2)).cell? ⟨w.heap.size+1+1,6,none⟩=some (.slice none 0 0):=C2.i.out.cell 6)|(at_builtin;refine CR rfl _ _ 26 rfl w.heap.size Qo (.slice none 0 0) 0 [] rfl (World.ownsRow_nil ..) s.AE s.nE s.cE (s.evals.map EvalD.cells) rfl (h.sE.Al C2.i.ext) (Ei (fun _=>rfl) _) (by omega) C2.i.ext.size ?_;intro E3 e3 W3 o3 g3;simp only [Nat.zero_add];have z3:W3.ownsRow w.heap.size 68 4 (.slice E3 s.nE e3) s.evals.length (s.evals.flatMap EvalD.cells):=(by have o:=o3;rw [Nat.zero_add] at o;rw [hlE.out] at o ⊢;exact o);have G3:CS w s W3 _:=C2.i.AP (Ext.BI (S:=Nothing) g3 (fun b e=>by simp [Value.ownBlock] at e));have f3:W3.frozen? ⟨w.heap.size+1+1,6,none⟩=false:=G3.out.frozen 6;have r3:W3.cell? ⟨w.heap.size+1+1,6,none⟩=some (.slice none 0 0):=G3.out.cell 6;have C3:=C2.Bf z3 g3;have k7:(W3.setCell ⟨w.heap.size+1+1,6,none⟩ (.slice E3 s.nE e3)).cell? ⟨w.heap.size,7,none⟩=some (.slice s.AD s.nD s.cD):=C3.i.src.cell 7;have q7:(W3.setCell ⟨w.heap.size+1+1,6,none⟩ (.slice E3 s.nE e3)).cell? ⟨w.heap.size+1+1,7,none⟩=some (.slice none 0 0):=C3.i.out.cell 7)|(at_builtin;refine CR rfl _ _ 27 rfl w.heap.size Oj (.slice none 0 0) 0 [] rfl (World.ownsRow_nil ..) s.AD s.nD s.cD (s.deploys.map DepD.cells) rfl (h.sD.Al C3.i.ext) (Ei (fun _=>rfl) _) (by omega) C3.i.ext.size ?_;intro E4 e4 W4 o4 g4;simp only [Nat.zero_add];have z4:W4.ownsRow w.heap.size 74 4 (.slice E4 s.nD e4) s.deploys.length (s.deploys.flatMap DepD.cells):=(by have o:=o4;rw [Nat.zero_add] at o;rw [hlD.out] at o ⊢;exact o);have G4:CS w s W4 _:=C3.i.AP (Ext.BI (S:=Nothing) g4 (fun b e=>by simp [Value.ownBlock] at e));have f4:W4.frozen? ⟨w.heap.size+1+1,7,none⟩=false:=G4.out.frozen 7;have r4:W4.cell? ⟨w.heap.size+1+1,7,none⟩=some (.slice none 0 0):=G4.out.cell 7;have C4:=C3.DT z4 g4))
   generalize (W4.setCell ⟨w.heap.size+1+1,7,none⟩ (.slice E4 s.nD e4))=W at C4 ⊢
   clear C C1 C2 C3 G1 G2 G3 G4 k4 k5 k6 k7 q4 q5 q6 q7 f1 f2 f3 f4 r1 r2 r3 r4 z1 z2 z3 z4 o1 o2 o3 o4 g1 g2 g3 g4
   go_loopw [6] (fun i W=>∃ t:Nat,t≤s.nX∧i=.int .i64 t∧∃ (xs:List SeenV) (X:Option Addr) (x:Nat),xs.length=t∧xs.map (·.1)=(s.seen.take t).map (·.1)∧Cu w s W (.slice A1 s.nJ c1) (.slice B s.nS d) (.slice E1 s.nN e1) (.slice E2 s.nA e2) (.slice E3 s.nE e3) (.slice E4 s.nD e4) (.slice X t x) ys1 zs s.nodes s.allocs s.evals s.deploys xs) (fun i _=>s.nX - (intOf i).toNat)
   case atStart=>exact ⟨0,Nat.zero_le _,rfl,[],none,0,rfl,rfl,C4⟩
   case round =>
    clear C4
    obtain ⟨t,ht,rfl,xs,X,xc,hyl,hym,C⟩:=hrel
    have k8:wr.cell? ⟨w.heap.size,8,none⟩=some (.slice s.AX s.nX s.cX):=C.i.src.cell 8
    by_cases hlt:t < s.nX
    ·obtain ⟨hjn,b,off,hAe,hce⟩:=h.sX.get C.i.ext hlt
     have hxo:=h.kX _ (List.getElem_mem hjn)
     have hyn:(s.seen.take (t+1)).map (·.1)=xs.map (·.1) ++ [s.seen[t].1]:=by rw [show s.seen.take (t+1)=s.seen.take t ++ [s.seen[t]] by rw [List.take_add_one,List.getElem?_eq_getElem hjn];rfl,List.map_append,← hym];rfl
     generalize hxx:s.seen[t]=yv at hce hxo hyn
     obtain ⟨y,vg⟩:=yv
     obtain ⟨AG,nG,cG,hv,hG0,hnG⟩:=hxo
     simp only at hv hG0 hyn
     subst hv
     clear hxx hjn
     rw [hAe] at k8
     have HA:=Lib.hid hAe
     have HYN:=Lib.hid hyn
     have HYL:=Lib.hid hyl
     clear hAe hym hyn hyl
     have hk0:(0:Int)≤(t:Int):=by omega
     have hk1:(t:Int) < s.nX:=by omega
     have hcf:∀ q v,(#[.int .i64 y.client,.int .i64 y.req,.int .i64 y.answer.code,.int .i64 y.answer.value,.slice AG nG cG]:Array Value).toList[q]? = some v→wr.cell? ⟨b,off+t*5+q,none⟩=some v:=hce
     have hxB:Ext Nothing wr (wr.alloc (.cells #[.int .i64 y.client,.int .i64 y.req,.int .i64 y.answer.code,.int .i64 y.answer.value,.slice AG nG cG] 89)):=(Ext.refl _ _).alloc _
     have hBB:Blk (wr.alloc (.cells #[.int .i64 y.client,.int .i64 y.req,.int .i64 y.answer.code,.int .i64 y.answer.value,.slice AG nG cG] 89)) wr.heap.size 89 #[.int .i64 y.client,.int .i64 y.req,.int .i64 y.answer.code,.int .i64 y.answer.value,.slice AG nG cG]:=Blk.new _ _ _
     have hGB:=hG0.Al (C.i.ext.tr hxB)
     have hzB:=(C.i.ext.tr hxB).size
     have hzr:=C.i.ext.size
     have b4:(wr.alloc (.cells #[.int .i64 y.client,.int .i64 y.req,.int .i64 y.answer.code,.int .i64 y.answer.value,.slice AG nG cG] 89)).cell? ⟨wr.heap.size,4,none⟩=some (.slice AG nG cG):=hBB.cell 4
     go_wp2_with (first|(refine Ad rfl 89 _ rfl Df b (off+t*5) rfl #[.int .i64 y.client,.int .i64 y.req,.int .i64 y.answer.code,.int .i64 y.answer.value,.slice AG nG cG] hcf rfl ?_)|(at_builtin;refine CR rfl _ _ 25 rfl w.heap.size SRAlloc (.slice none 0 0) 0 [] rfl (World.ownsRow_nil ..) AG nG cG (y.answer.allocs.map Ac.cells) rfl hGB (Ei (fun _=>rfl) _) (by omega) hzB ?_;intro F f W1 o1 g1;simp only [Nat.zero_add];have hx1:=Ext.BI (S:=Nothing) g1 (fun b e=>by simp [Value.ownBlock] at e);have hB1:=hBB.e0 hx1;have f4:W1.frozen? ⟨wr.heap.size,4,none⟩=false:=hB1.frozen 4;have r4:W1.cell? ⟨wr.heap.size,4,none⟩=some (.slice AG nG cG):=hB1.cell 4;have hB2:Blk (W1.setCell ⟨wr.heap.size,4,none⟩ (.slice F nG f)) wr.heap.size 89 #[.int .i64 y.client,.int .i64 y.req,.int .i64 y.answer.code,.int .i64 y.answer.value,.slice F nG f]:=hB1.Bi 4 _;have hx2:Ext Nothing wr (W1.setCell ⟨wr.heap.size,4,none⟩ (.slice F nG f)):=(hxB.tr hx1).trans (Ext.set1 _ _ _ _) (fun q hq e=>by omega);have C2:=C.AP hx2;have o8:(W1.setCell ⟨wr.heap.size,4,none⟩ (.slice F nG f)).cell? ⟨w.heap.size+1+1,8,none⟩=some (.slice X t xc):=C2.i.out.cell 8;have hx3:Ext Nothing (W1.setCell ⟨wr.heap.size,4,none⟩ (.slice F nG f)) ((W1.setCell ⟨wr.heap.size,4,none⟩ (.slice F nG f)).alloc (.cells #[.int .i64 y.client,.int .i64 y.req,.int .i64 y.answer.code,.int .i64 y.answer.value,.slice F nG f] 89)):=(Ext.refl _ _).alloc _;have C3:=C2.AP hx3;have hB3:Blk ((W1.setCell ⟨wr.heap.size,4,none⟩ (.slice F nG f)).alloc (.cells #[.int .i64 y.client,.int .i64 y.req,.int .i64 y.answer.code,.int .i64 y.answer.value,.slice F nG f] 89)) (W1.setCell ⟨wr.heap.size,4,none⟩ (.slice F nG f)).heap.size 89 #[.int .i64 y.client,.int .i64 y.req,.int .i64 y.answer.code,.int .i64 y.answer.value,.slice F nG f]:=Blk.new _ _ _;have HO3:=C3.x.own;rw [HYL.out] at HO3;have ha1:Fz w.heap.size ((W1.setCell ⟨wr.heap.size,4,none⟩ (.slice F nG f)).alloc (.cells #[.int .i64 y.client,.int .i64 y.req,.int .i64 y.answer.code,.int .i64 y.answer.value,.slice F nG f] 89)) (y,.slice F nG f):=⟨F,nG,f,rfl,Ag (Ag (by have o:=o1;rw [Nat.zero_add] at o;exact o) (Ext.set1 W1 wr.heap.size 4 (.slice F nG f)) (Apart.one hB1 (by decide))) hx3 Apart.none,hG0.len,hnG⟩)|(refine Ae rfl 89 _ rfl Df wr.heap.size rfl #[.int .i64 y.client,.int .i64 y.req,.int .i64 y.answer.code,.int .i64 y.answer.value,.slice F nG f] hB2 rfl ?_)|(refine AZ rfl 28 _ rfl OB #[.int .i64 y.client,.int .i64 y.req,.int .i64 y.answer.code,.int .i64 y.answer.value,.slice F nG f] rfl rfl ?_)|(at_builtin;refine G6 rfl _ _ 28 rfl w.heap.size OB (.slice X t xc) t (xs.flatMap SeenV.cells) rfl HO3 (W1.setCell ⟨wr.heap.size,4,none⟩ (.slice F nG f)).heap.size 1 #[.int .i64 y.client,.int .i64 y.req,.int .i64 y.answer.code,.int .i64 y.answer.value,.slice F nG f] rfl hB3 rfl rfl (by omega) C3.i.ext.size ?_;intro A7 c7 W7 o7 g7;have I7:=C3.i.grown HO3 (by decide) g7;have f7:W7.frozen? ⟨w.heap.size+1+1,8,none⟩=false:=I7.out.frozen 8;have q7:W7.cell? ⟨w.heap.size+1+1,8,none⟩=some (.slice X t xc):=I7.out.cell 8;have C8:=C3.Rn ha1 (by rw [HYL.out];exact o7) g7))
     go_roundw
     case rel=>exact ⟨t+1,by omega,by go_num,xs ++ [(y,.slice F nG f)],A7,c7,by rw [List.length_append,HYL.out];rfl,by rw [HYN.out,List.map_append];rfl,C8⟩
     case measure=>simp [intOf];omega
    obtain rfl:t=s.nX:=by omega
    have HM3:=Lib.hid (show xs.map (·.1)=s.seen.map (·.1) by rw [hym,List.take_of_length_le (by have:=hlX.out;omega)])
    have HL3:=Lib.hid hyl
    clear hym hyl hlt ht
    have hout:=C.i.out
    have hres:=C.i.res
    go_wp2_with (first|(refine Ae rfl 30 _ rfl Aj (w.heap.size+1+1) rfl #[.int .i64 s.index,.int .i64 s.next,.slice A1 s.nJ c1,.slice B s.nS d,.slice E1 s.nN e1,.slice E2 s.nA e2,.slice E3 s.nE e3,.slice E4 s.nD e4,.slice X s.nX xc] hout rfl ?_)|(refine Af rfl 30 _ _ rfl Aj (w.heap.size+1) rfl #[.int .i64 s.index,.int .i64 s.next,.slice A1 s.nJ c1,.slice B s.nS d,.slice E1 s.nN e1,.slice E2 s.nA e2,.slice E3 s.nE e3,.slice E4 s.nD e4,.slice X s.nX xc] rfl hres rfl rfl rfl ?_;intro W9 hr9 hx9))
    have C9:=C.n
    have ap:∀ {T:List TypeId},30 ∉ T→Apart wr (fun q=>q=w.heap.size+1) T:=fun h=>Apart.one hres h
    refine bodyPost_ret (results_cell rfl Aj (g:=w.heap.size+1) rfl hr9 rfl) rfl ⟨⟨s.index,s.next,A1,s.nJ,c1,ys1,B,s.nS,d,zs,E1,s.nN,e1,s.nodes,E2,s.nA,e2,s.allocs,E3,s.nE,e3,s.evals,E4,s.nD,e4,s.deploys,X,s.nX,xc,xs⟩,rfl,?_,C.i.ext.trans hx9 (fun q hq e=>by omega)⟩
    exact ⟨rfl,rfl,C.j.keep hx9 (ap (by decide)),HL1.out.symm,HM1.out,C.t.keep hx9 (ap (by decide)),HL2.out.symm,HM2.out,Ag C.n hx9 (ap (by decide)),hlN.out,rfl,Ag C.a hx9 (ap (by decide)),hlA.out,rfl,Ag C.e hx9 (ap (by decide)),hlE.out,rfl,Ag C.d hx9 (ap (by decide)),hlD.out,rfl,C.x.keep hx9 (ap (by decide)),HL3.out.symm,HM3.out,hsep⟩
end Go.Proofs.YtccekmeifanipaaGreat
