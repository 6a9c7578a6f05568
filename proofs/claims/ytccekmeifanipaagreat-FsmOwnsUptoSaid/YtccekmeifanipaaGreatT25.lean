/- Parts of the proof: MCopy -/
import Derived.Test.YtccekmeifanipaaGreatT16
import Derived.Test.YtccekmeifanipaaGreatT13
namespace Go.Proofs.YtccekmeifanipaaGreat
set_option linter.unusedVariables false
set_option linter.unusedSimpArgs false
set_option linter.unusedSectionVars false
open Go.RowKit
def De (w:World) (xs:List JobV):Prop:=∀ x∈xs,∃ A n c,x.2=.slice A n c∧Sl w 3 A n (x.1.groups.map Ao.cells)∧n≤1048576
structure Aa.Lay (w:World) (s:Aa):Prop where
 sJ:Sl w 7 s.AJ s.nJ (s.jobs.map JobV.cells)
 kJ:De w s.jobs
 mJ:s.nJ≤1048576
 sS:Sl w 7 s.AS s.nS (s.stable.map JobV.cells)
 kS:De w s.stable
 mS:s.nS≤1048576
 sN:Sl w 8 s.AN s.nN (s.nodes.map NodD.cells)
 mN:s.nN≤1048576
 sA:Sl w 11 s.AA s.nA (s.allocs.map Ac.cells)
 mA:s.nA≤1048576
 sE:Sl w 4 s.AE s.nE (s.evals.map EvalD.cells)
 mE:s.nE≤1048576
 sD:Sl w 4 s.AD s.nD (s.deploys.map DepD.cells)
 mD:s.nD≤1048576
 sX:Sl w 5 s.AX s.nX (s.seen.map SeenV.cells)
 kX:∀ x∈s.seen,∃ A n c,x.2=.slice A n c∧Sl w 11 A n (x.1.answer.allocs.map Ac.cells)∧n≤1048576
 mX:s.nX≤1048576
theorem Aa.Lay.Al {w w' : World} {s:Aa} (h:s.Lay w) (hx:Ext Nothing w w'):s.Lay w' :=
 ⟨h.sJ.Al hx,fun x hm=>by obtain ⟨A,n,c,a,b,d⟩:=h.kJ x hm;exact ⟨A,n,c,a,b.Al hx,d⟩,h.mJ,h.sS.Al hx,fun x hm=>by obtain ⟨A,n,c,a,b,d⟩:=h.kS x hm;exact ⟨A,n,c,a,b.Al hx,d⟩,h.mS,h.sN.Al hx,h.mN,h.sA.Al hx,h.mA,h.sE.Al hx,h.mE,h.sD.Al hx,h.mD,h.sX.Al hx,fun x hm=>by obtain ⟨A,n,c,a,b,d⟩:=h.kX x hm;exact ⟨A,n,c,a,b.Al hx,d⟩,h.mX⟩
theorem Aw.lay {base:Nat} {w:World} {s:Aa} (h:Aw base w s) (hJ:s.jobs.length≤1048576) (hS:s.stable.length≤1048576) (hN:s.nodes.length≤1048576) (hA:s.allocs.length≤1048576) (hE:s.evals.length≤1048576) (hD:s.deploys.length≤1048576) (hX:s.seen.length≤1048576):s.Lay w:=by
 have job:∀ {v:Value} {l:List JobV},BC base w v l→De w l:=fun hj x hx=>by
  obtain ⟨A,n,c,g1,g2,g3,g4⟩:=hj.grp x hx
  exact ⟨A,n,c,g1,Sl.Bd (fun _=>rfl) g2 g3,g4⟩
 refine ⟨h.slJ,job h.j,by have:=h.jl;omega,h.slT,job h.t,by have:=h.tl;omega,h.slN,by have:=h.nl;omega,h.slA,by have:=h.al;omega,h.slE,by have:=h.el;omega,h.slD,by have:=h.dl;omega,h.slX,fun x hx=>?_,by have:=h.xl;omega⟩
 obtain ⟨A,c,h3,h4⟩:=h.xa x hx
 exact ⟨A,0,c,h3,by rw [h4];exact Sl.nil _ _ _,by omega⟩
theorem F6 {w w' : World} {xs:List JobV} (h:De w xs) (hx:Ext Nothing w w'):De w' xs:=fun x hx'=>by
 obtain ⟨A,n,c,h1,h2,h4⟩:=h x hx'
 exact ⟨A,n,c,h1,h2.Al hx,h4⟩
set_option maxRecDepth 20000 in
set_option maxHeartbeats 4000000 in
theorem Og (x0 x1 x2 x3:Int) (xg:List Ao) (x5:Int) (x6:Bool) (GA:Option Addr) (gn gc:Nat) (w:World) (hG:Sl w 3 GA gn (xg.map Ao.cells)) (hgn:gn≤1048576) :
  Calls Tryz.prog 59 #[.agg #[.int .i64 x0,.int .i64 x1,.int .i64 x2,.int .i64 x3,.slice GA gn gc,.int .i64 x5,.bool x6]] w fun e w'=>∃ GA2 gc2,e=.returned (.agg #[.int .i64 x0,.int .i64 x1,.int .i64 x2,.int .i64 x3,.slice GA2 xg.length gc2,.int .i64 x5,.bool x6])∧w'.ownsRow w.heap.size 66 3 (.slice GA2 xg.length gc2) xg.length (xg.flatMap Ao.cells)∧Ext Nothing w w':=by
 have hxW:Ext Nothing w ((w.alloc (.cells #[.int .i64 x0,.int .i64 x1,.int .i64 x2,.int .i64 x3,.slice GA gn gc,.int .i64 x5,.bool x6] 39)).alloc (.cells #[.int .i64 0,.int .i64 0,.int .i64 0,.int .i64 0,.slice none 0 0,.int .i64 0,.bool false] 39)):=Ext.Ay
 have hC:Blk ((w.alloc (.cells #[.int .i64 x0,.int .i64 x1,.int .i64 x2,.int .i64 x3,.slice GA gn gc,.int .i64 x5,.bool x6] 39)).alloc (.cells #[.int .i64 0,.int .i64 0,.int .i64 0,.int .i64 0,.slice none 0 0,.int .i64 0,.bool false] 39)) w.heap.size 39 #[.int .i64 x0,.int .i64 x1,.int .i64 x2,.int .i64 x3,.slice GA gn gc,.int .i64 x5,.bool x6]:=(Blk.new w _ _).e0 Ext.Ay
 have hR:Blk ((w.alloc (.cells #[.int .i64 x0,.int .i64 x1,.int .i64 x2,.int .i64 x3,.slice GA gn gc,.int .i64 x5,.bool x6] 39)).alloc (.cells #[.int .i64 0,.int .i64 0,.int .i64 0,.int .i64 0,.slice none 0 0,.int .i64 0,.bool false] 39)) (w.heap.size+1) 39 #[.int .i64 0,.int .i64 0,.int .i64 0,.int .i64 0,.slice none 0 0,.int .i64 0,.bool false]:=Blk.new' _ _ _ (by simp)
 have hgs:=hG.Al hxW
 have hzW:=hxW.size
 have hgn2:gn≤67108864:=by omega
 go_enter Tryz.func59,Tryz.ntmps59
 go_upto_region 1 with (first|go_skip|go_guarded)
 generalize hCC:w.heap.size=C at hC hR hzW ⊢
 have HC:=Lib.hid hCC
 clear hCC
 generalize ((w.alloc (.cells #[.int .i64 x0,.int .i64 x1,.int .i64 x2,.int .i64 x3,.slice GA gn gc,.int .i64 x5,.bool x6] 39)).alloc (.cells #[.int .i64 0,.int .i64 0,.int .i64 0,.int .i64 0,.slice none 0 0,.int .i64 0,.bool false] 39))=W at hxW hC hR hgs hzW ⊢
 have k4:W.cell? ⟨C,4,none⟩=some (.slice GA gn gc):=hC.cell 4
 go_upto_region 2 with (first|go_skip|go_guarded|(go_at_call 84;(with_reducible refine (FM GA gn gc xg W hgs hgn2).mono ?_);rintro e w6 ⟨v',rfl,hog,hx6⟩;obtain ⟨GA2,gc2,rfl⟩:=Bn hog;have hC6:=hC.e0 hx6;have k4:w6.cell? ⟨C,4,none⟩=some (.slice GA gn gc):=hC6.cell 4;have k4f:w6.frozen? ⟨C,4,none⟩=false:=hC6.frozen 4))
 have hC7:Blk (w6.setCell ⟨C,4,none⟩ (.slice GA2 xg.length gc2)) C 39 #[.int .i64 x0,.int .i64 x1,.int .i64 x2,.int .i64 x3,.slice GA2 xg.length gc2,.int .i64 x5,.bool x6]:=hC6.Bi 4 _
 have hs7:Ext (fun q=>q=C) w6 (w6.setCell ⟨C,4,none⟩ (.slice GA2 xg.length gc2)):=Ext.set1 _ _ _ _
 have hR7:=(hR.e0 hx6).ext hs7 (fun e=>absurd (show C+1=C from e) (by omega))
 have hx7:Ext Nothing w (w6.setCell ⟨C,4,none⟩ (.slice GA2 xg.length gc2)):=(hxW.tr hx6).trans hs7 (fun q hq e=>absurd (show q=C from e) (by have:=HC.out;omega))
 have hog7:=Am (Bj hog (show w.heap.size≤W.heap.size by have:=HC.out;omega)) hs7 (fun g hg e=>own_ne hog hC6 (by decide) (by rw [← show g=C from e];exact hg))
 clear hs7 hC6 k4 k4f hog hC hR hgs
 generalize (w6.setCell ⟨C,4,none⟩ (.slice GA2 xg.length gc2))=w7 at hC7 hR7 hx7 hog7 ⊢
 go_wp2_with (first|go_skip|go_guarded|((with_reducible refine isW ?_);refine Ae rfl 39 _ rfl STJob C rfl #[.int .i64 x0,.int .i64 x1,.int .i64 x2,.int .i64 x3,.slice GA2 xg.length gc2,.int .i64 x5,.bool x6] hC7 rfl ?_)|((with_reducible refine isW ?_);refine Af rfl 39 _ _ rfl STJob (C+1) rfl #[.int .i64 x0,.int .i64 x1,.int .i64 x2,.int .i64 x3,.slice GA2 xg.length gc2,.int .i64 x5,.bool x6] rfl hR7 rfl rfl rfl ?_;intro w9 hR9 hx9))
 exact bodyPost_ret (results_cell rfl STJob (g:=C+1) rfl hR9 rfl) rfl ⟨GA2,gc2,rfl,Am hog7 hx9 (fun g hg e=>own_ne hog7 hR7 (by decide) (by rw [← show g=C+1 from e];exact hg)),hx7.trans hx9 (fun q hq e=>absurd (show q=C+1 from e) (by have:=HC.out;omega))⟩
set_option maxRecDepth 20000 in
set_option maxHeartbeats 4000000 in
theorem Fp (A:Option Addr) (n c:Nat) (xs:List JobV) (w:World) (h:Sl w 7 A n (xs.map JobV.cells)) (hk:De w xs) (hn:n≤1048576) :
  Calls Tryz.prog 43 #[.slice A n c] w fun e w'=>∃ A1 c1 ys,e=.returned (.slice A1 ys.length c1)∧BC w.heap.size w' (.slice A1 ys.length c1) ys∧ys.map (·.1)=xs.map (·.1)∧Ext Nothing w w':=by
 have hk:∀ x∈xs,∃ A n c,x.2=.slice A n c∧Sl w 3 A n (x.1.groups.map Ao.cells)∧n≤1048576:=hk
 have hlen:=Lib.hid h.len
 go_enter Tryz.func43,Tryz.ntmps43
 go_wp2
 go_loopw [8,3] (fun a0 a1 wr=>∃ t:Nat,t≤n∧a0=.int .i64 t∧∃ B cb ys,a1=.slice B ys.length cb∧BC w.heap.size wr (.slice B ys.length cb) ys∧Hid (ys.map (·.1)=(xs.take t).map (·.1)∧ys.length=t)∧Ext Nothing w wr) (fun a0 a1 _=>n - (intOf a0).toNat)
 case atStart=>exact ⟨0,Nat.zero_le _,rfl,none,0,[],rfl,⟨World.ownsRow_nil _ _ _ _,fun y hy=>absurd hy (by simp)⟩,Lib.hid ⟨rfl,rfl⟩,Ext.refl _ _⟩
 case round =>
  obtain ⟨t,ht,rfl,B,cb,ys,rfl,hJI,hD,hx⟩:=hrel
  by_cases hlt:t < n
  ·obtain ⟨hjn,a,off,hAe,hce⟩:=h.get hx hlt
   have hok:=hk (xs[t]'hjn) (List.getElem_mem hjn)
   have hnx:xs.take (t+1)=xs.take t ++ [xs[t]'hjn]:=by rw [List.take_add_one,List.getElem?_eq_getElem hjn];rfl
   have hce:∀ j u,(JobV.cells (xs[t]'hjn))[j]? = some u→wr.cell? ⟨a,off+t*7+j,none⟩=some u:=hce
   generalize (xs[t]'hjn)=x at hce hok hnx
   obtain ⟨⟨x0,x1,x2,x3,xg,x5,x6⟩,xv⟩:=x
   obtain ⟨GA,gn,gc,hgv,hgs,hgn⟩:=hok
   change xv=_ at hgv
   subst hgv
   have hce:∀ j u,(#[.int .i64 x0,.int .i64 x1,.int .i64 x2,.int .i64 x3,.slice GA gn gc,.int .i64 x5,.bool x6]:Array Value).toList[j]? = some u→wr.cell? ⟨a,off+t*7+j,none⟩=some u:=hce
   rw [hAe]
   have HA:=Lib.hid hAe
   have HT:=Lib.hid hlt
   have HNX:=Lib.hid hnx
   have hk0:(0:Int)≤(t:Int):=by omega
   have hk1:(t:Int) < n:=by omega
   clear hAe hlt hnx
   have hxq:Ext Nothing wr (wr.alloc (.cells #[.int .i64 x0,.int .i64 x1,.int .i64 x2,.int .i64 x3,.slice GA gn gc,.int .i64 x5,.bool x6] 39)):=Ext.Ay
   have hQ:Blk (wr.alloc (.cells #[.int .i64 x0,.int .i64 x1,.int .i64 x2,.int .i64 x3,.slice GA gn gc,.int .i64 x5,.bool x6] 39)) wr.heap.size 39 #[.int .i64 x0,.int .i64 x1,.int .i64 x2,.int .i64 x3,.slice GA gn gc,.int .i64 x5,.bool x6]:=Blk.new _ _ _
   go_upto_region 5 with (first|go_skip|go_guarded|((with_reducible refine isW ?_);refine Ad rfl 39 _ rfl STJob a (off+t*7) rfl #[.int .i64 x0,.int .i64 x1,.int .i64 x2,.int .i64 x3,.slice GA gn gc,.int .i64 x5,.bool x6] hce rfl ?_))
   have hJq:=hJI.keep hxq Apart.none
   have hxz:=hx.tr hxq
   have hgq:=hgs.Al hxz
   have hzz:=hxz.size
   generalize wr.heap.size=Q at hQ ⊢
   generalize (wr.alloc (.cells #[.int .i64 x0,.int .i64 x1,.int .i64 x2,.int .i64 x3,.slice GA gn gc,.int .i64 x5,.bool x6] 39))=wq at hxq hQ hJq hxz hgq hzz ⊢
   clear hce hJI hx hxq
   have hbn:ys.length < 67108864:=by have:=hD.out.2;omega
   go_wp2_with (first|go_skip|go_guarded|((with_reducible refine isW ?_);refine Ae rfl 39 _ rfl STJob Q rfl #[.int .i64 x0,.int .i64 x1,.int .i64 x2,.int .i64 x3,.slice GA gn gc,.int .i64 x5,.bool x6] hQ rfl ?_)|(go_at_call 59;(with_reducible refine (Og x0 x1 x2 x3 xg x5 x6 GA gn gc wq hgq hgn).mono ?_);rintro e w6 ⟨GA2,gc2,rfl,hog,hx6⟩;have hJ6:=hJq.keep hx6 Apart.none;have hz6:=hx6.size;have hb6:w.heap.size≤w6.heap.size:=(by omega))|((with_reducible refine Jh ?_);refine D7 rfl rfl 23 _ rfl _ _ rfl Gf #[.int .i64 x0,.int .i64 x1,.int .i64 x2,.int .i64 x3,.slice GA2 xg.length gc2,.int .i64 x5,.bool x6] rfl rfl w.heap.size (.slice B ys.length cb) ys.length (ys.flatMap JobV.cells) rfl rfl hJ6.own rfl hbn hb6 ?_;intro B2 cb2 w7 ho7 hx7))
   have hy6:Cq w.heap.size w6 ((⟨x0,x1,x2,x3,xg,x5,x6⟩,.slice GA2 xg.length gc2):JobV):=Cq.new (j:=⟨x0,x1,x2,x3,xg,x5,x6⟩) hog rfl (by have h9:=hgs.len;omega) hzz
   have hap:Apart w6 (fun q=>(Value.slice B ys.length cb).ownBlock=some q) [66]:=Apart.row hJ6.own (by decide)
   have ho8:=CG (x:=((⟨x0,x1,x2,x3,xg,x5,x6⟩,.slice GA2 xg.length gc2):JobV)) ho7 rfl rfl
   have hJ8:BC w.heap.size w7 (.slice B2 (ys ++ [((⟨x0,x1,x2,x3,xg,x5,x6⟩,.slice GA2 xg.length gc2):JobV)]).length cb2) (ys ++ [((⟨x0,x1,x2,x3,xg,x5,x6⟩,.slice GA2 xg.length gc2):JobV)]):=⟨ho8,fun z hz=>(List.mem_append.1 hz).elim (fun hz=>(hJ6.grp z hz).keep hx7 hap) (fun hz=>by rw [List.mem_singleton] at hz;subst hz;exact hy6.keep hx7 hap)⟩
   have HLL:=Lib.hid (show (ys ++ [((⟨x0,x1,x2,x3,xg,x5,x6⟩,.slice GA2 xg.length gc2):JobV)]).length=ys.length+1 by simp)
   have hx8:Ext Nothing w w7:=(hxz.tr hx6).trans hx7 (fun q hq e=>absurd (BM hJ6.own e) (by omega))
   have HJ8:=hJ8
   clear hJ8 ho7 ho8
   go_roundw
   case rel=>(try rw [← HA.out]);exact ⟨t+1,HT.out,by go_num,B2,cb2,ys ++ [((⟨x0,x1,x2,x3,xg,x5,x6⟩,.slice GA2 xg.length gc2):JobV)],by first|rfl|(rw [HLL.out]),HJ8,Lib.hid ⟨by rw [List.map_append,hD.out.1,HNX.out,List.map_append];rfl,by rw [HLL.out,hD.out.2]⟩,hx8⟩
   case measure=>have:=HT.out;simp [intOf];omega
  have hnl:¬ ((t:Int) < n):=by omega
  have HZ:=Lib.hid (show ys.map (·.1)=xs.map (·.1) by rw [hD.out.1,List.take_of_length_le (by have:=hlen.out;omega)])
  go_wp2
  go_ret
  exact ⟨B,cb,ys,rfl,hJI,HZ.out,hx⟩
theorem Ka {l:List SeenV} {i:Nat} {x y:SeenV} (h:l[i]? = some x) (e:y.1=x.1):(l.set i y).map (·.1)=l.map (·.1):=by
 rw [List.map_set,e]
 exact set_self (by rw [List.getElem?_map,h];rfl)
set_option maxRecDepth 20000 in
set_option maxHeartbeats 16000000 in
theorem Nc (s:Aa) (w:World) (h:s.Lay w) :
  Calls Tryz.prog 29 #[.agg s.arr] w fun e w'=>∃ s',e=.returned (.agg s'.arr)∧EO w.heap.size w' s s'∧Ext Nothing w w':=by
 have hxW:Ext Nothing w ((w.alloc (.cells s.arr 30)).alloc (.cells #[.int .i64 0,.int .i64 0,.slice none 0 0,.slice none 0 0,.slice none 0 0,.slice none 0 0,.slice none 0 0,.slice none 0 0,.slice none 0 0] 30)):=Ext.Ay
 have hB:Blk ((w.alloc (.cells s.arr 30)).alloc (.cells #[.int .i64 0,.int .i64 0,.slice none 0 0,.slice none 0 0,.slice none 0 0,.slice none 0 0,.slice none 0 0,.slice none 0 0,.slice none 0 0] 30)) w.heap.size 30 s.arr:=(Blk.new w _ _).e0 Ext.Ay
 have hR:Blk ((w.alloc (.cells s.arr 30)).alloc (.cells #[.int .i64 0,.int .i64 0,.slice none 0 0,.slice none 0 0,.slice none 0 0,.slice none 0 0,.slice none 0 0,.slice none 0 0,.slice none 0 0] 30)) (w.heap.size+1) 30 #[.int .i64 0,.int .i64 0,.slice none 0 0,.slice none 0 0,.slice none 0 0,.slice none 0 0,.slice none 0 0,.slice none 0 0,.slice none 0 0]:=Blk.new' _ _ _ (by simp)
 go_enter Tryz.func29,Tryz.ntmps29
 go_upto_region 1 with (first|go_skip|go_guarded)
 generalize hBB:w.heap.size=B at hB hR ⊢
 have HB:=Lib.hid hBB
 clear hBB
 generalize ((w.alloc (.cells s.arr 30)).alloc (.cells #[.int .i64 0,.int .i64 0,.slice none 0 0,.slice none 0 0,.slice none 0 0,.slice none 0 0,.slice none 0 0,.slice none 0 0,.slice none 0 0] 30))=W at hxW hB hR ⊢
 have k1:=h.kJ
 have k2:=h.kS
 have m1:=h.mJ
 have m2:=h.mS
 have m3:=h.mN
 have m4:=h.mA
 have m5:=h.mE
 have m6:=h.mD
 have m7:=h.mX
 have HSJ:=Lib.hid h.sJ
 have HSS:=Lib.hid h.sS
 have HSN:=Lib.hid h.sN
 have HSA:=Lib.hid h.sA
 have HSE:=Lib.hid h.sE
 have HSD:=Lib.hid h.sD
 have HSX:=Lib.hid h.sX
 skip
 go_cut [] from 4 to 11 (fun wx=>∃ A1 c1 ys A2 c2 zs,BC w.heap.size wx (.slice A1 ys.length c1) ys∧Hid (ys.map (·.1)=s.jobs.map (·.1))∧BC w.heap.size wx (.slice A2 zs.length c2) zs∧Hid (zs.map (·.1)=s.stable.map (·.1))∧Hid (∀ q,(Value.slice A1 ys.length c1).ownBlock=some q→(Value.slice A2 zs.length c2).ownBlock ≠ some q)∧Blk wx B 30 #[.int .i64 s.index,.int .i64 s.next,.slice A1 ys.length c1,.slice A2 zs.length c2,.slice s.AN s.nN s.cN,.slice s.AA s.nA s.cA,.slice s.AE s.nE s.cE,.slice s.AD s.nD s.cD,.slice s.AX s.nX s.cX]∧Blk wx (B+1) 30 #[.int .i64 0,.int .i64 0,.slice none 0 0,.slice none 0 0,.slice none 0 0,.slice none 0 0,.slice none 0 0,.slice none 0 0,.slice none 0 0]∧Ext Nothing w wx)
 case first =>
  have hd:Ext Nothing W W.drew:=(Ext.refl _ _).drew
  refine zS (S:=fun W'=>Ext (fun q=>q=B) W W') (by kernel_rfl) ?_
  have hS:=hd.any (S:=fun q=>q=B)
  generalize W.drew=Wd at hd hS ⊢
  refine zV 0 (.pointer (some ⟨B,2,none⟩)) rfl (by kernel_rfl) hS (fun _ _ _ h=>h) (fun W' hS'=>by go_simp) ?_
  refine zV 3 (.pointer (some ⟨B,3,none⟩)) rfl (by kernel_rfl) hS (fun _ _ _ h=>h) (fun W' hS'=>by go_simp) ?_
  (try simp only [Act.put,zA,zB,zC,zD,zE,zF])
  refine wpAnyH_all (rs:=[1,4]) (by kernel_rfl) (by simp) (List.forall_mem_cons.2 ⟨?_,List.forall_mem_cons.2 ⟨?_,fun _ h=>absurd h (by simp)⟩⟩)
  refine wpOp_val (v:=.slice s.AJ s.nJ s.cJ) (w':=Wd) rfl (by rfl) (by have q:=(hB.e0 hd).cell 2;go_simp) ⟨hS,?_⟩
  (try simp only [Act.put,zA,zB,zC,zD,zE,zF])
  refine wpAnyH_all (rs:=[2,4]) (by kernel_rfl) (by simp) (List.forall_mem_cons.2 ⟨?_,List.forall_mem_cons.2 ⟨?_,fun _ h=>absurd h (by simp)⟩⟩)
  refine Ai (f:=43) (args:=#[.slice s.AJ s.nJ s.cJ]) rfl (by rfl) (by go_simp) ((Fp s.AJ s.nJ s.cJ s.jobs Wd (HSJ.out.Al (hxW.tr hd)) (F6 k1 (hxW.tr hd)) m1).mono ?_)
  rintro e w2 ⟨A1,c1,ys,rfl,hJs,hym,hx2⟩
  have hd2:=hd.tr hx2
  refine ⟨_,rfl,hd2.any,?_⟩
  (try simp only [Act.put,zA,zB,zC,zD,zE,zF])
  refine zO 4 (by kernel_rfl) ?_
  refine wpOp_val (v:=.slice s.AS s.nS s.cS) (w':=w2) rfl (by rfl) (by have q:=(hB.e0 hd2).cell 3;go_simp) ⟨hd2.any,?_⟩
  (try simp only [Act.put,zA,zB,zC,zD,zE,zF])
  rotate_left
  refine wpOp_val (v:=.slice s.AS s.nS s.cS) (w':=Wd) rfl (by rfl) (by have q:=(hB.e0 hd).cell 3;go_simp) ⟨hS,?_⟩
  (try simp only [Act.put,zA,zB,zC,zD,zE,zF])
  refine zO 2 (by kernel_rfl) ?_
  refine Ai (f:=43) (args:=#[.slice s.AJ s.nJ s.cJ]) rfl (by rfl) (by go_simp) ((Fp s.AJ s.nJ s.cJ s.jobs Wd (HSJ.out.Al (hxW.tr hd)) (F6 k1 (hxW.tr hd)) m1).mono ?_)
  rintro e w2 ⟨A1,c1,ys,rfl,hJs,hym,hx2⟩
  have hd2:=hd.tr hx2
  refine ⟨_,rfl,hd2.any,?_⟩
  (try simp only [Act.put,zA,zB,zC,zD,zE,zF])
  rotate_left
  refine wpOp_val (v:=.slice s.AS s.nS s.cS) (w':=Wd) rfl (by rfl) (by have q:=(hB.e0 hd).cell 3;go_simp) ⟨hS,?_⟩
  (try simp only [Act.put,zA,zB,zC,zD,zE,zF])
  refine zO 1 (by kernel_rfl) ?_
  refine wpOp_val (v:=.slice s.AJ s.nJ s.cJ) (w':=Wd) rfl (by rfl) (by have q:=(hB.e0 hd).cell 2;go_simp) ⟨hS,?_⟩
  (try simp only [Act.put,zA,zB,zC,zD,zE,zF])
  refine zO 2 (by kernel_rfl) ?_
  refine Ai (f:=43) (args:=#[.slice s.AJ s.nJ s.cJ]) rfl (by rfl) (by go_simp) ((Fp s.AJ s.nJ s.cJ s.jobs Wd (HSJ.out.Al (hxW.tr hd)) (F6 k1 (hxW.tr hd)) m1).mono ?_)
  rintro e w2 ⟨A1,c1,ys,rfl,hJs,hym,hx2⟩
  have hd2:=hd.tr hx2
  refine ⟨_,rfl,hd2.any,?_⟩
  (try simp only [Act.put,zA,zB,zC,zD,zE,zF])
  all_goals (
   refine zV 6 (.pointer (some ⟨B,2,none⟩)) rfl (by kernel_rfl) (hd2.any) (fun _ _ _ h=>h) (fun W' hS'=>by go_simp) ?_
   (try simp only [Act.put,zA,zB,zC,zD,zE,zF])
   refine zO 5 (by kernel_rfl) ?_
   refine Ai (f:=43) (args:=#[.slice s.AS s.nS s.cS]) rfl (by rfl) (by go_simp) ((Fp s.AS s.nS s.cS s.stable w2 (HSS.out.Al (hxW.tr hd2)) (F6 k2 (hxW.tr hd2)) m2).mono ?_)
   rintro e w3 ⟨A2,c2,zs,rfl,hTs,hzm,hx3⟩
   have hd3:=hd2.tr hx3
   refine ⟨_,rfl,hd3.any,?_⟩
   (try simp only [Act.put,zA,zB,zC,zD,zE,zF])
   refine zO 7 (by kernel_rfl) ?_
   have hB3:=hB.e0 hd3
   have r1:w3.cell? ⟨B,2,none⟩=some (.slice s.AJ s.nJ s.cJ):=hB3.cell 2
   have r1f:w3.frozen? ⟨B,2,none⟩=false:=hB3.frozen 2
   refine AC (w':=w3.setCell ⟨B,2,none⟩ (.slice A1 ys.length c1)) rfl (by rfl) (by go_simp) ⟨hd3.any.trans (Ext.set1 w3 B 2 _) (fun _ _ e=>e),?_⟩
   refine zV 8 (.pointer (some ⟨B,3,none⟩)) rfl (by kernel_rfl) (hd3.any.trans (Ext.set1 w3 B 2 _) (fun _ _ e=>e)) (fun _ _ _ h=>h) (fun W' hS'=>by go_simp) ?_
   (try simp only [Act.put,zA,zB,zC,zD,zE,zF])
   refine zO 9 (by kernel_rfl) ?_
   have hB4:=hB3.Bi 2 (.slice A1 ys.length c1)
   have r2:(w3.setCell ⟨B,2,none⟩ (.slice A1 ys.length c1)).cell? ⟨B,3,none⟩=some (.slice s.AS s.nS s.cS):=hB4.cell 3
   have r2f:(w3.setCell ⟨B,2,none⟩ (.slice A1 ys.length c1)).frozen? ⟨B,3,none⟩=false:=hB4.frozen 3
   refine AC (w':=((w3.setCell ⟨B,2,none⟩ (.slice A1 ys.length c1)).setCell ⟨B,3,none⟩ (.slice A2 zs.length c2))) rfl (by rfl) (by go_simp) ⟨(hd3.any.trans (Ext.set1 w3 B 2 _) (fun _ _ e=>e)).trans (Ext.set1 _ B 3 _) (fun _ _ e=>e),?_⟩
   (try simp only [Act.put,zA,zB,zC,zD,zE,zF])
   refine wpAnyH_done (by kernel_rfl) ?_ _
   (try simp only [Act.put,zA,zB,zC,zD,zE,zF])
   have hB5:=hB4.Bi 3 (.slice A2 zs.length c2)
   have hsB:Ext (fun q=>q=B) w3 ((w3.setCell ⟨B,2,none⟩ (.slice A1 ys.length c1)).setCell ⟨B,3,none⟩ (.slice A2 zs.length c2)):=(Ext.set1 w3 B 2 _).trans (Ext.set1 _ B 3 _) (fun _ _ e=>e)
   clear r1 r1f r2 r2f hB4 hS
   have hap3:∀ {T:List TypeId},30 ∉ T→Apart w3 (fun q=>q=B) T:=fun hT=>Apart.one hB3 hT
   generalize ((w3.setCell ⟨B,2,none⟩ (.slice A1 ys.length c1)).setCell ⟨B,3,none⟩ (.slice A2 zs.length c2))=w4 at hB5 hsB ⊢
   go_wp2
   go_meet
   have hzd:=hd.size
   have hzd2:=hd2.size
   have hzw:=hxW.size
   have hxn:Ext Nothing w w4:=(hxW.tr hd3).trans hsB (fun q hq e=>absurd (show q=B from e) (by have:=HB.out;omega))
   have hsepd:∀ q,(Value.slice A1 ys.length c1).ownBlock=some q→(Value.slice A2 zs.length c2).ownBlock ≠ some q:=fun q h1 h2=>by have:=CB hJs.own h1;have:=BM hTs.own h2;omega
   exact ⟨A1,c1,ys,A2,c2,zs,BC.base ((hJs.keep hx3 Apart.none).keep hsB (hap3 (by decide))) (by omega),Lib.hid hym,BC.base (hTs.keep hsB (hap3 (by decide))) (by omega),Lib.hid hzm,Lib.hid hsepd,hB5,(hR.e0 hd3).ext hsB (fun e=>absurd (show B+1=B from e) (by omega)),hxn⟩
   )
 case rest =>
  obtain ⟨A1,c1,ys,A2,c2,zs,hJ,hym,hT,hzm,hsep,hB4,hR4,hx4⟩:=hcut
  clear hB hR hxW
  obtain ⟨w4,rfl⟩ : ∃ w4:World,w4=wc:=⟨_,rfl⟩
  go_upto_region 2 with (first|go_skip|go_guarded)
  go_cut [] from 12 to 19 (fun wx=>∃ A3 c3 A4 c4,BC w.heap.size wx (.slice A1 ys.length c1) ys∧BC w.heap.size wx (.slice A2 zs.length c2) zs∧wx.ownsRow w.heap.size 43 8 (.slice A3 s.nodes.length c3) s.nodes.length (s.nodes.flatMap NodD.cells)∧wx.ownsRow w.heap.size 55 11 (.slice A4 s.allocs.length c4) s.allocs.length (s.allocs.flatMap Ac.cells)∧True∧Blk wx B 30 #[.int .i64 s.index,.int .i64 s.next,.slice A1 ys.length c1,.slice A2 zs.length c2,.slice A3 s.nodes.length c3,.slice A4 s.allocs.length c4,.slice s.AE s.nE s.cE,.slice s.AD s.nD s.cD,.slice s.AX s.nX s.cX]∧Blk wx (B+1) 30 #[.int .i64 0,.int .i64 0,.slice none 0 0,.slice none 0 0,.slice none 0 0,.slice none 0 0,.slice none 0 0,.slice none 0 0,.slice none 0 0]∧Ext Nothing w wx)
  case first =>
   have hd:Ext Nothing w4 w4.drew:=(Ext.refl _ _).drew
   refine zS (S:=fun W'=>Ext (fun q=>q=B) w4 W') (by kernel_rfl) ?_
   have hS:=hd.any (S:=fun q=>q=B)
   generalize w4.drew=Wd at hd hS ⊢
   refine zV 0 (.pointer (some ⟨B,4,none⟩)) rfl (by kernel_rfl) hS (fun _ _ _ h=>h) (fun W' hS'=>by go_simp) ?_
   refine zV 3 (.pointer (some ⟨B,5,none⟩)) rfl (by kernel_rfl) hS (fun _ _ _ h=>h) (fun W' hS'=>by go_simp) ?_
   (try simp only [Act.put,zA,zB,zC,zD,zE,zF])
   refine wpAnyH_all (rs:=[1,4]) (by kernel_rfl) (by simp) (List.forall_mem_cons.2 ⟨?_,List.forall_mem_cons.2 ⟨?_,fun _ h=>absurd h (by simp)⟩⟩)
   refine wpOp_val (v:=.slice s.AN s.nN s.cN) (w':=Wd) rfl (by rfl) (by have q:=(hB4.e0 hd).cell 4;go_simp) ⟨hS,?_⟩
   (try simp only [Act.put,zA,zB,zC,zD,zE,zF])
   refine wpAnyH_all (rs:=[2,4]) (by kernel_rfl) (by simp) (List.forall_mem_cons.2 ⟨?_,List.forall_mem_cons.2 ⟨?_,fun _ h=>absurd h (by simp)⟩⟩)
   refine Ai (f:=44) (args:=#[.slice s.AN s.nN s.cN]) rfl (by rfl) (by go_simp) ((Gv s.AN s.nN s.cN s.nodes Wd (HSN.out.Al (hx4.tr hd)) (by omega)).mono ?_)
   rintro e w2 ⟨v2,rfl,ho2,hx2⟩
   obtain ⟨A3,c3,rfl⟩:=Bn ho2
   have hd2:=hd.tr hx2
   refine ⟨_,rfl,hd2.any,?_⟩
   (try simp only [Act.put,zA,zB,zC,zD,zE,zF])
   refine zO 4 (by kernel_rfl) ?_
   refine wpOp_val (v:=.slice s.AA s.nA s.cA) (w':=w2) rfl (by rfl) (by have q:=(hB4.e0 hd2).cell 5;go_simp) ⟨hd2.any,?_⟩
   (try simp only [Act.put,zA,zB,zC,zD,zE,zF])
   rotate_left
   refine wpOp_val (v:=.slice s.AA s.nA s.cA) (w':=Wd) rfl (by rfl) (by have q:=(hB4.e0 hd).cell 5;go_simp) ⟨hS,?_⟩
   (try simp only [Act.put,zA,zB,zC,zD,zE,zF])
   refine zO 2 (by kernel_rfl) ?_
   refine Ai (f:=44) (args:=#[.slice s.AN s.nN s.cN]) rfl (by rfl) (by go_simp) ((Gv s.AN s.nN s.cN s.nodes Wd (HSN.out.Al (hx4.tr hd)) (by omega)).mono ?_)
   rintro e w2 ⟨v2,rfl,ho2,hx2⟩
   obtain ⟨A3,c3,rfl⟩:=Bn ho2
   have hd2:=hd.tr hx2
   refine ⟨_,rfl,hd2.any,?_⟩
   (try simp only [Act.put,zA,zB,zC,zD,zE,zF])
   rotate_left
   refine wpOp_val (v:=.slice s.AA s.nA s.cA) (w':=Wd) rfl (by rfl) (by have q:=(hB4.e0 hd).cell 5;go_simp) ⟨hS,?_⟩
   (try simp only [Act.put,zA,zB,zC,zD,zE,zF])
   refine zO 1 (by kernel_rfl) ?_
   refine wpOp_val (v:=.slice s.AN s.nN s.cN) (w':=Wd) rfl (by rfl) (by have q:=(hB4.e0 hd).cell 4;go_simp) ⟨hS,?_⟩
   (try simp only [Act.put,zA,zB,zC,zD,zE,zF])
   refine zO 2 (by kernel_rfl) ?_
   refine Ai (f:=44) (args:=#[.slice s.AN s.nN s.cN]) rfl (by rfl) (by go_simp) ((Gv s.AN s.nN s.cN s.nodes Wd (HSN.out.Al (hx4.tr hd)) (by omega)).mono ?_)
   rintro e w2 ⟨v2,rfl,ho2,hx2⟩
   obtain ⟨A3,c3,rfl⟩:=Bn ho2
   have hd2:=hd.tr hx2
   refine ⟨_,rfl,hd2.any,?_⟩
   (try simp only [Act.put,zA,zB,zC,zD,zE,zF])
   all_goals (
    refine zV 6 (.pointer (some ⟨B,4,none⟩)) rfl (by kernel_rfl) (hd2.any) (fun _ _ _ h=>h) (fun W' hS'=>by go_simp) ?_
    (try simp only [Act.put,zA,zB,zC,zD,zE,zF])
    refine zO 5 (by kernel_rfl) ?_
    refine Ai (f:=45) (args:=#[.slice s.AA s.nA s.cA]) rfl (by rfl) (by go_simp) ((FN s.AA s.nA s.cA s.allocs w2 (HSA.out.Al (hx4.tr hd2)) (by omega)).mono ?_)
    rintro e w3 ⟨v3,rfl,ho3,hx3⟩
    obtain ⟨A4,c4,rfl⟩:=Bn ho3
    have hd3:=hd2.tr hx3
    refine ⟨_,rfl,hd3.any,?_⟩
    (try simp only [Act.put,zA,zB,zC,zD,zE,zF])
    refine zO 7 (by kernel_rfl) ?_
    have hB3:=hB4.e0 hd3
    have r1:w3.cell? ⟨B,4,none⟩=some (.slice s.AN s.nN s.cN):=hB3.cell 4
    have r1f:w3.frozen? ⟨B,4,none⟩=false:=hB3.frozen 4
    refine AC (w':=w3.setCell ⟨B,4,none⟩ (.slice A3 s.nodes.length c3)) rfl (by rfl) (by go_simp) ⟨hd3.any.trans (Ext.set1 w3 B 4 _) (fun _ _ e=>e),?_⟩
    refine zV 8 (.pointer (some ⟨B,5,none⟩)) rfl (by kernel_rfl) (hd3.any.trans (Ext.set1 w3 B 4 _) (fun _ _ e=>e)) (fun _ _ _ h=>h) (fun W' hS'=>by go_simp) ?_
    (try simp only [Act.put,zA,zB,zC,zD,zE,zF])
    refine zO 9 (by kernel_rfl) ?_
    have hB4:=hB3.Bi 4 (.slice A3 s.nodes.length c3)
    have r2:(w3.setCell ⟨B,4,none⟩ (.slice A3 s.nodes.length c3)).cell? ⟨B,5,none⟩=some (.slice s.AA s.nA s.cA):=hB4.cell 5
    have r2f:(w3.setCell ⟨B,4,none⟩ (.slice A3 s.nodes.length c3)).frozen? ⟨B,5,none⟩=false:=hB4.frozen 5
    refine AC (w':=((w3.setCell ⟨B,4,none⟩ (.slice A3 s.nodes.length c3)).setCell ⟨B,5,none⟩ (.slice A4 s.allocs.length c4))) rfl (by rfl) (by go_simp) ⟨(hd3.any.trans (Ext.set1 w3 B 4 _) (fun _ _ e=>e)).trans (Ext.set1 _ B 5 _) (fun _ _ e=>e),?_⟩
    (try simp only [Act.put,zA,zB,zC,zD,zE,zF])
    refine wpAnyH_done (by kernel_rfl) ?_ _
    (try simp only [Act.put,zA,zB,zC,zD,zE,zF])
    have hB5:=hB4.Bi 5 (.slice A4 s.allocs.length c4)
    have hsB:Ext (fun q=>q=B) w3 ((w3.setCell ⟨B,4,none⟩ (.slice A3 s.nodes.length c3)).setCell ⟨B,5,none⟩ (.slice A4 s.allocs.length c4)):=(Ext.set1 w3 B 4 _).trans (Ext.set1 _ B 5 _) (fun _ _ e=>e)
    clear r1 r1f r2 r2f hB4 hS
    have hap3:∀ {T:List TypeId},30 ∉ T→Apart w3 (fun q=>q=B) T:=fun hT=>Apart.one hB3 hT
    generalize ((w3.setCell ⟨B,4,none⟩ (.slice A3 s.nodes.length c3)).setCell ⟨B,5,none⟩ (.slice A4 s.allocs.length c4))=w9 at hB5 hsB ⊢
    go_wp2
    go_meet
    have hzd:=hd.size
    have hzd2:=hd2.size
    have hzw:=hx4.size
    have hxn:Ext Nothing w w9:=(hx4.tr hd3).trans hsB (fun q hq e=>absurd (show q=B from e) (by have:=HB.out;omega))
    exact ⟨A3,c3,A4,c4,(hJ.keep hd3 Apart.none).keep hsB (hap3 (by decide)),(hT.keep hd3 Apart.none).keep hsB (hap3 (by decide)),Ag (Am (Bj ho2 (by omega)) hx3 (fun _ _ e=>e)) hsB (hap3 (by decide)),Ag (Bj ho3 (by omega)) hsB (hap3 (by decide)),trivial,hB5,(hR4.e0 hd3).ext hsB (fun e=>absurd (show B+1=B from e) (by omega)),hxn⟩
    )
  case rest =>
   obtain ⟨A3,c3,A4,c4,hJ,hT,hn5,ha5,_,hB5a,hR5,hx5⟩:=hcut
   clear hB4 hR4 hx4
   obtain ⟨w5,rfl⟩ : ∃ w5:World,w5=wc:=⟨_,rfl⟩
   go_upto_region 3 with (first|go_skip|go_guarded)
   go_cut [] from 20 to 27 (fun wx=>∃ A5 c5 A6 c6,BC w.heap.size wx (.slice A1 ys.length c1) ys∧BC w.heap.size wx (.slice A2 zs.length c2) zs∧wx.ownsRow w.heap.size 43 8 (.slice A3 s.nodes.length c3) s.nodes.length (s.nodes.flatMap NodD.cells)∧wx.ownsRow w.heap.size 55 11 (.slice A4 s.allocs.length c4) s.allocs.length (s.allocs.flatMap Ac.cells)∧wx.ownsRow w.heap.size 68 4 (.slice A5 s.evals.length c5) s.evals.length (s.evals.flatMap EvalD.cells)∧wx.ownsRow w.heap.size 74 4 (.slice A6 s.deploys.length c6) s.deploys.length (s.deploys.flatMap DepD.cells)∧True∧Blk wx B 30 #[.int .i64 s.index,.int .i64 s.next,.slice A1 ys.length c1,.slice A2 zs.length c2,.slice A3 s.nodes.length c3,.slice A4 s.allocs.length c4,.slice A5 s.evals.length c5,.slice A6 s.deploys.length c6,.slice s.AX s.nX s.cX]∧Blk wx (B+1) 30 #[.int .i64 0,.int .i64 0,.slice none 0 0,.slice none 0 0,.slice none 0 0,.slice none 0 0,.slice none 0 0,.slice none 0 0,.slice none 0 0]∧Ext Nothing w wx)
   case first =>
    have hd:Ext Nothing w5 w5.drew:=(Ext.refl _ _).drew
    refine zS (S:=fun W'=>Ext (fun q=>q=B) w5 W') (by kernel_rfl) ?_
    have hS:=hd.any (S:=fun q=>q=B)
    generalize w5.drew=Wd at hd hS ⊢
    refine zV 0 (.pointer (some ⟨B,6,none⟩)) rfl (by kernel_rfl) hS (fun _ _ _ h=>h) (fun W' hS'=>by go_simp) ?_
    refine zV 3 (.pointer (some ⟨B,7,none⟩)) rfl (by kernel_rfl) hS (fun _ _ _ h=>h) (fun W' hS'=>by go_simp) ?_
    (try simp only [Act.put,zA,zB,zC,zD,zE,zF])
    refine wpAnyH_all (rs:=[1,4]) (by kernel_rfl) (by simp) (List.forall_mem_cons.2 ⟨?_,List.forall_mem_cons.2 ⟨?_,fun _ h=>absurd h (by simp)⟩⟩)
    refine wpOp_val (v:=.slice s.AE s.nE s.cE) (w':=Wd) rfl (by rfl) (by have q:=(hB5a.e0 hd).cell 6;go_simp) ⟨hS,?_⟩
    (try simp only [Act.put,zA,zB,zC,zD,zE,zF])
    refine wpAnyH_all (rs:=[2,4]) (by kernel_rfl) (by simp) (List.forall_mem_cons.2 ⟨?_,List.forall_mem_cons.2 ⟨?_,fun _ h=>absurd h (by simp)⟩⟩)
    refine Ai (f:=46) (args:=#[.slice s.AE s.nE s.cE]) rfl (by rfl) (by go_simp) ((Gq s.AE s.nE s.cE s.evals Wd (HSE.out.Al (hx5.tr hd)) (by omega)).mono ?_)
    rintro e w2 ⟨v2,rfl,ho2,hx2⟩
    obtain ⟨A5,c5,rfl⟩:=Bn ho2
    have hd2:=hd.tr hx2
    refine ⟨_,rfl,hd2.any,?_⟩
    (try simp only [Act.put,zA,zB,zC,zD,zE,zF])
    refine zO 4 (by kernel_rfl) ?_
    refine wpOp_val (v:=.slice s.AD s.nD s.cD) (w':=w2) rfl (by rfl) (by have q:=(hB5a.e0 hd2).cell 7;go_simp) ⟨hd2.any,?_⟩
    (try simp only [Act.put,zA,zB,zC,zD,zE,zF])
    rotate_left
    refine wpOp_val (v:=.slice s.AD s.nD s.cD) (w':=Wd) rfl (by rfl) (by have q:=(hB5a.e0 hd).cell 7;go_simp) ⟨hS,?_⟩
    (try simp only [Act.put,zA,zB,zC,zD,zE,zF])
    refine zO 2 (by kernel_rfl) ?_
    refine Ai (f:=46) (args:=#[.slice s.AE s.nE s.cE]) rfl (by rfl) (by go_simp) ((Gq s.AE s.nE s.cE s.evals Wd (HSE.out.Al (hx5.tr hd)) (by omega)).mono ?_)
    rintro e w2 ⟨v2,rfl,ho2,hx2⟩
    obtain ⟨A5,c5,rfl⟩:=Bn ho2
    have hd2:=hd.tr hx2
    refine ⟨_,rfl,hd2.any,?_⟩
    (try simp only [Act.put,zA,zB,zC,zD,zE,zF])
    rotate_left
    refine wpOp_val (v:=.slice s.AD s.nD s.cD) (w':=Wd) rfl (by rfl) (by have q:=(hB5a.e0 hd).cell 7;go_simp) ⟨hS,?_⟩
    (try simp only [Act.put,zA,zB,zC,zD,zE,zF])
    refine zO 1 (by kernel_rfl) ?_
    refine wpOp_val (v:=.slice s.AE s.nE s.cE) (w':=Wd) rfl (by rfl) (by have q:=(hB5a.e0 hd).cell 6;go_simp) ⟨hS,?_⟩
    (try simp only [Act.put,zA,zB,zC,zD,zE,zF])
    refine zO 2 (by kernel_rfl) ?_
    refine Ai (f:=46) (args:=#[.slice s.AE s.nE s.cE]) rfl (by rfl) (by go_simp) ((Gq s.AE s.nE s.cE s.evals Wd (HSE.out.Al (hx5.tr hd)) (by omega)).mono ?_)
    rintro e w2 ⟨v2,rfl,ho2,hx2⟩
    obtain ⟨A5,c5,rfl⟩:=Bn ho2
    have hd2:=hd.tr hx2
    refine ⟨_,rfl,hd2.any,?_⟩
    (try simp only [Act.put,zA,zB,zC,zD,zE,zF])
    all_goals (
     refine zV 6 (.pointer (some ⟨B,6,none⟩)) rfl (by kernel_rfl) (hd2.any) (fun _ _ _ h=>h) (fun W' hS'=>by go_simp) ?_
     (try simp only [Act.put,zA,zB,zC,zD,zE,zF])
     refine zO 5 (by kernel_rfl) ?_
     refine Ai (f:=47) (args:=#[.slice s.AD s.nD s.cD]) rfl (by rfl) (by go_simp) ((LJ s.AD s.nD s.cD s.deploys w2 (HSD.out.Al (hx5.tr hd2)) (by omega)).mono ?_)
     rintro e w3 ⟨v3,rfl,ho3,hx3⟩
     obtain ⟨A6,c6,rfl⟩:=Bn ho3
     have hd3:=hd2.tr hx3
     refine ⟨_,rfl,hd3.any,?_⟩
     (try simp only [Act.put,zA,zB,zC,zD,zE,zF])
     refine zO 7 (by kernel_rfl) ?_
     have hB3:=hB5a.e0 hd3
     have r1:w3.cell? ⟨B,6,none⟩=some (.slice s.AE s.nE s.cE):=hB3.cell 6
     have r1f:w3.frozen? ⟨B,6,none⟩=false:=hB3.frozen 6
     refine AC (w':=w3.setCell ⟨B,6,none⟩ (.slice A5 s.evals.length c5)) rfl (by rfl) (by go_simp) ⟨hd3.any.trans (Ext.set1 w3 B 6 _) (fun _ _ e=>e),?_⟩
     refine zV 8 (.pointer (some ⟨B,7,none⟩)) rfl (by kernel_rfl) (hd3.any.trans (Ext.set1 w3 B 6 _) (fun _ _ e=>e)) (fun _ _ _ h=>h) (fun W' hS'=>by go_simp) ?_
     (try simp only [Act.put,zA,zB,zC,zD,zE,zF])
     refine zO 9 (by kernel_rfl) ?_
     have hB4:=hB3.Bi 6 (.slice A5 s.evals.length c5)
     have r2:(w3.setCell ⟨B,6,none⟩ (.slice A5 s.evals.length c5)).cell? ⟨B,7,none⟩=some (.slice s.AD s.nD s.cD):=hB4.cell 7
     have r2f:(w3.setCell ⟨B,6,none⟩ (.slice A5 s.evals.length c5)).frozen? ⟨B,7,none⟩=false:=hB4.frozen 7
     refine AC (w':=((w3.setCell ⟨B,6,none⟩ (.slice A5 s.evals.length c5)).setCell ⟨B,7,none⟩ (.slice A6 s.deploys.length c6))) rfl (by rfl) (by go_simp) ⟨(hd3.any.trans (Ext.set1 w3 B 6 _) (fun _ _ e=>e)).trans (Ext.set1 _ B 7 _) (fun _ _ e=>e),?_⟩
     (try simp only [Act.put,zA,zB,zC,zD,zE,zF])
     refine wpAnyH_done (by kernel_rfl) ?_ _
     (try simp only [Act.put,zA,zB,zC,zD,zE,zF])
     have hB5:=hB4.Bi 7 (.slice A6 s.deploys.length c6)
     have hsB:Ext (fun q=>q=B) w3 ((w3.setCell ⟨B,6,none⟩ (.slice A5 s.evals.length c5)).setCell ⟨B,7,none⟩ (.slice A6 s.deploys.length c6)):=(Ext.set1 w3 B 6 _).trans (Ext.set1 _ B 7 _) (fun _ _ e=>e)
     clear r1 r1f r2 r2f hB4 hS
     have hap3:∀ {T:List TypeId},30 ∉ T→Apart w3 (fun q=>q=B) T:=fun hT=>Apart.one hB3 hT
     generalize ((w3.setCell ⟨B,6,none⟩ (.slice A5 s.evals.length c5)).setCell ⟨B,7,none⟩ (.slice A6 s.deploys.length c6))=w9 at hB5 hsB ⊢
     go_wp2
     go_meet
     have hzd:=hd.size
     have hzd2:=hd2.size
     have hzw:=hx5.size
     have hxn:Ext Nothing w w9:=(hx5.tr hd3).trans hsB (fun q hq e=>absurd (show q=B from e) (by have:=HB.out;omega))
     exact ⟨A5,c5,A6,c6,(hJ.keep hd3 Apart.none).keep hsB (hap3 (by decide)),(hT.keep hd3 Apart.none).keep hsB (hap3 (by decide)),Ag (Am hn5 hd3 (fun _ _ e=>e)) hsB (hap3 (by decide)),Ag (Am ha5 hd3 (fun _ _ e=>e)) hsB (hap3 (by decide)),Ag (Am (Bj ho2 (by omega)) hx3 (fun _ _ e=>e)) hsB (hap3 (by decide)),Ag (Bj ho3 (by omega)) hsB (hap3 (by decide)),trivial,hB5,(hR5.e0 hd3).ext hsB (fun e=>absurd (show B+1=B from e) (by omega)),hxn⟩
     )
   case rest =>
    obtain ⟨A5,c5,A6,c6,hJ,hT,hn6,ha6,he6,hd6,_,hB6,hR6,hx6⟩:=hcut
    clear hB5a hR5 hx5 hn5 ha5
    obtain ⟨w6,rfl⟩ : ∃ w6:World,w6=wc:=⟨_,rfl⟩
    have k8:w6.cell? ⟨B,8,none⟩=some (.slice s.AX s.nX s.cX):=hB6.cell 8
    have hsx6:=HSX.out.Al hx6
    have hone:∀ x∈s.seen,Value.oneCell' x.2=true:=fun x hx=>by obtain ⟨A,n,c,hv,_⟩:=h.kX x hx;rw [hv];rfl
    have hnx:s.nX≤67108864:=by omega
    go_upto_region 5 with (first|go_skip|go_guarded|(go_at_call 48;(with_reducible refine (NS s.AX s.nX s.cX s.seen w6 hsx6 hnx hone).mono ?_);rintro e w7 ⟨v7,rfl,ho7,hx7⟩;obtain ⟨A7,c7,rfl⟩:=Bn ho7;have hB7:=hB6.e0 hx7;have k8:w7.cell? ⟨B,8,none⟩=some (.slice s.AX s.nX s.cX):=hB7.cell 8;have k8f:w7.frozen? ⟨B,8,none⟩=false:=hB7.frozen 8))
    have hB8:=hB7.Bi 8 (.slice A7 s.seen.length c7)
    have hs8:Ext (fun q=>q=B) w7 (w7.setCell ⟨B,8,none⟩ (.slice A7 s.seen.length c7)):=Ext.set1 _ _ _ _
    have hap7:∀ {T:List TypeId},30 ∉ T→Apart w7 (fun q=>q=B) T:=fun hT=>Apart.one hB7 hT
    have hJ8:=(hJ.keep hx7 Apart.none).keep hs8 (hap7 (by decide))
    have hT8:=(hT.keep hx7 Apart.none).keep hs8 (hap7 (by decide))
    have hn8:=Ag (Am hn6 hx7 (fun _ _ e=>e)) hs8 (hap7 (by decide))
    have ha8:=Ag (Am ha6 hx7 (fun _ _ e=>e)) hs8 (hap7 (by decide))
    have he8:=Ag (Am he6 hx7 (fun _ _ e=>e)) hs8 (hap7 (by decide))
    have hd8:=Ag (Am hd6 hx7 (fun _ _ e=>e)) hs8 (hap7 (by decide))
    have ho8:=Ag (Bj ho7 (show w.heap.size≤w6.heap.size from hx6.size)) hs8 (hap7 (by decide))
    have hR8:=(hR6.e0 hx7).ext hs8 (fun e=>absurd (show B+1=B from e) (by omega))
    have hx8:Ext Nothing w (w7.setCell ⟨B,8,none⟩ (.slice A7 s.seen.length c7)):=(hx6.tr hx7).trans hs8 (fun q hq e=>absurd (show q=B from e) (by have:=HB.out;omega))
    clear k8 k8f hB7 hs8 hap7 hJ hT hn6 ha6 he6 hd6 ho7 hx7 hB6 hR6 hx6 hsx6
    generalize (w7.setCell ⟨B,8,none⟩ (.slice A7 s.seen.length c7))=w8 at hB8 hJ8 hT8 hn8 ha8 he8 hd8 ho8 hR8 hx8 ⊢
    have HNX:=Lib.hid HSX.out.len
    have k8:w8.cell? ⟨B,8,none⟩=some (.slice A7 s.seen.length c7):=hB8.cell 8
    have hsl:s.seen.length≤1048576:=by have:=HNX.out;omega
    go_wp2
    clear k8
    go_loopw [35] (fun iv wr=>∃ t:Nat,t≤s.seen.length∧iv=.int .i64 t∧∃ us:List SeenV,Hid (us.length=s.seen.length∧us.map (·.1)=s.seen.map (·.1)∧∀ j,t≤j→us[j]? = s.seen[j]?)∧(∀ j < t,∀ y,us[j]? = some y→Fz w.heap.size wr y)∧wr.ownsRow w.heap.size 89 5 (.slice A7 s.seen.length c7) s.seen.length (us.flatMap SeenV.cells)∧Ext (fun q=>(Value.slice A7 s.seen.length c7).ownBlock=some q) w8 wr) (fun iv _=>s.seen.length - (intOf iv).toNat)
    case atStart=>exact ⟨0,Nat.zero_le _,rfl,s.seen,Lib.hid ⟨rfl,rfl,fun _ _=>rfl⟩,fun j hj=>absurd hj (by omega),ho8,Ext.refl _ _⟩
    case round =>
     obtain ⟨t,ht,rfl,us,hu,hans,hown,hx⟩:=hrel
     have hnB:¬ ((Value.slice A7 s.seen.length c7).ownBlock=some B):=fun e=>own_ne ho8 hB8 (by decide) e
     have hBr:=hB8.ext hx hnB
     by_cases hlt:t < s.seen.length
     ·have hul:=hu.out.1
      have htu:t < us.length:=by omega
      have hut:us[t]? = some (us[t]'htu):=List.getElem?_eq_getElem htu
      have hst:=(hu.out.2.2 t (Nat.le_refl _)).symm.trans hut
      generalize (us[t]'htu)=u at hut hst
      obtain ⟨SA,sn,sc,hv,hss,hsn⟩:=h.kX u (List.mem_of_getElem? hst)
      obtain ⟨⟨u0,u1,⟨u2,u3,ul⟩⟩,uv⟩:=u
      change uv=_ at hv
      subst hv
      obtain ⟨g,cur,hAe,hob,hgb⟩:=GL hown hul.symm htu
      have hce:∀ j v,(SeenV.cells (⟨u0,u1,⟨u2,u3,ul⟩⟩,.slice SA sn sc))[j]? = some v→wr.cell? ⟨g,t*5+j,none⟩=some v:=fun j v hv=>Er (f:=SeenV.cells) (sz:=5) (fun _=>rfl) (by rw [← hAe];exact hown) hul.symm hut hv
      have k8:wr.cell? ⟨B,8,none⟩=some (.slice (some ⟨g,0,none⟩) s.seen.length c7):=by rw [← hAe];exact hBr.cell 8
      have q4:wr.cell? ⟨g,t*5+4,none⟩=some (.slice SA sn sc):=hce 4 _ rfl
      have hk0:(0:Int)≤(t:Int):=by omega
      have hk1:(t:Int) < s.seen.length:=by omega
      have hBg:¬ (B=g):=Blk.ne hBr hgb (by decide)
      have HT:=Lib.hid hlt
      have HA:=Lib.hid hAe
      have HU:=Lib.hid hut
      have HUL:=Lib.hid hul
      have hsnn:sn≤67108864:=by omega
      clear hlt hAe hut hst hul htu hce
      go_upto_region 8 with (first|go_skip|go_guarded)
      have hd:Ext Nothing wr wr.drew:=(Ext.refl _ _).drew
      refine zS (S:=fun W'=>Ext (fun q=>q=g) wr W') (by kernel_rfl) ?_
      have hS:=hd.any (S:=fun q=>q=g)
      generalize wr.drew=Wd at hd hS ⊢
      refine zV 0 (.pointer (some ⟨B,8,none⟩)) rfl (by kernel_rfl) hS (fun _ _ _ h=>h) (fun W' hS'=>by go_simp) ?_
      refine zV 1 (.slice (some ⟨g,0,none⟩) s.seen.length c7) rfl (by kernel_rfl) hS (fun _ _ _ h=>h) (fun W' hS'=>by have q:=hS'.cell k8 hBg;go_simp) ?_
      refine zV 2 (.int .i64 (t:Int)) rfl (by kernel_rfl) hS (fun _ _ _ h=>h) (fun W' hS'=>by go_simp) ?_
      refine zV 3 (.pointer (some ⟨B,8,none⟩)) rfl (by kernel_rfl) hS (fun _ _ _ h=>h) (fun W' hS'=>by go_simp) ?_
      refine zV 4 (.slice (some ⟨g,0,none⟩) s.seen.length c7) rfl (by kernel_rfl) hS (fun _ _ _ h=>h) (fun W' hS'=>by have q:=hS'.cell k8 hBg;go_simp) ?_
      refine zV 5 (.int .i64 (t:Int)) rfl (by kernel_rfl) hS (fun _ _ _ h=>h) (fun W' hS'=>by go_simp) ?_
      refine zV 6 (.pointer (some ⟨g,t*5,none⟩)) rfl (by kernel_rfl) hS (fun _ _ _ h=>h) (fun W' hS'=>by go_simp) ?_
      refine zV 7 (.pointer (some ⟨g,t*5+2,none⟩)) rfl (by kernel_rfl) hS (fun _ _ _ h=>h) (fun W' hS'=>by go_simp) ?_
      refine zV 8 (.pointer (some ⟨g,t*5+4,none⟩)) rfl (by kernel_rfl) hS (fun _ _ _ h=>h) (fun W' hS'=>by go_simp) ?_
      (try simp only [Act.put,zA,zB,zC,zD,zE,zF])
      refine zO 9 (by kernel_rfl) ?_
      refine wpOp_val (v:=.slice SA sn sc) (w':=Wd) rfl (by rfl) (by have q:=hd.c0 q4;go_simp) ⟨hS,?_⟩
      (try simp only [Act.put,zA,zB,zC,zD,zE,zF])
      refine zO 10 (by kernel_rfl) ?_
      refine Ai (f:=45) (args:=#[.slice SA sn sc]) rfl (by rfl) (by go_simp) ((FN SA sn sc ul Wd ((hss.Al (hx8.trans hx (fun q hq e=>absurd (BM ho8 e) (by omega)))).Al hd) hsnn).mono ?_)
      rintro e w9 ⟨v9,rfl,ho9,hx9⟩
      obtain ⟨SB,sc2,rfl⟩:=Bn ho9
      have hd9:=hd.tr hx9
      have hS9:=hS.trans hx9 (fun q hq e=>e.elim)
      refine ⟨_,rfl,hS9,?_⟩
      refine zV 11 (.pointer (some ⟨g,t*5,none⟩)) rfl (by kernel_rfl) hS9 (fun _ _ _ h=>h) (fun W' hS'=>by go_simp) ?_
      refine zV 12 (.pointer (some ⟨g,t*5+2,none⟩)) rfl (by kernel_rfl) hS9 (fun _ _ _ h=>h) (fun W' hS'=>by go_simp) ?_
      refine zV 13 (.pointer (some ⟨g,t*5+4,none⟩)) rfl (by kernel_rfl) hS9 (fun _ _ _ h=>h) (fun W' hS'=>by go_simp) ?_
      (try simp only [Act.put,zA,zB,zC,zD,zE,zF])
      refine zO 14 (by kernel_rfl) ?_
      have q49:=hd9.c0 q4
      have f49:w9.frozen? ⟨g,t*5+4,none⟩=false:=(hgb.e0 hd9).frozen _
      have hs14:Ext (fun q=>q=g) w9 (w9.setCell ⟨g,t*5+4,none⟩ (.slice SB ul.length sc2)):=Ext.set1 _ _ _ _
      refine AC (w':=w9.setCell ⟨g,t*5+4,none⟩ (.slice SB ul.length sc2)) rfl (by rfl) (by go_simp) ⟨hS9.trans hs14 (fun q hq e=>e),?_⟩
      (try simp only [Act.put,zA,zB,zC,zD,zE,zF])
      refine wpAnyH_done (by kernel_rfl) ?_ _
      (try simp only [Act.put,zA,zB,zC,zD,zE,zF])
      have hown9:=Am hown hd9 (fun _ _ e=>e)
      have hown14:=Ff (f:=SeenV.cells) (sz:=5) (x':=(⟨u0,u1,⟨u2,u3,ul⟩⟩,.slice SB ul.length sc2)) (j:=4) (u:=.slice SB ul.length sc2) (fun _=>rfl) hown9 HUL.out.symm HU.out (by decide) rfl HA.out
      have hgne:∀ q,(Value.slice SB ul.length sc2).ownBlock=some q→¬ (q=g):=fun q hq e=>own_ne ho9 (hgb.e0 hd9) (by decide) (by rw [← e];exact hq)
      have ho14:=Am ho9 hs14 (fun q hq e=>hgne q hq e)
      have hzr:=hx.size
      have hz8:=hx8.size
      have hzd:=hd.size
      have hansn:∀ j < t+1,∀ y,(us.set t (⟨u0,u1,⟨u2,u3,ul⟩⟩,.slice SB ul.length sc2))[j]? = some y→Fz w.heap.size (w9.setCell ⟨g,t*5+4,none⟩ (.slice SB ul.length sc2)) y:=fun j hj y hy=>by
       rw [List.getElem?_set] at hy
       by_cases e:t=j
       ·rw [if_pos e,if_pos (by have:=HUL.out;have:=HT.out;omega)] at hy;cases hy;exact ⟨SB,ul.length,sc2,rfl,Bj ho14 (by omega),rfl,by have h9:=hss.len;show ul.length≤_;rw [← h9];exact hsn⟩
       rw [if_neg e] at hy;exact ((hans j (by omega) y hy).keep hd9 Apart.none).keep hs14 (Apart.one (hgb.e0 hd9) (by decide))
      have HUN:=Lib.hid (show (us.set t ((⟨u0,u1,⟨u2,u3,ul⟩⟩,.slice SB ul.length sc2):SeenV)).length=s.seen.length∧(us.set t ((⟨u0,u1,⟨u2,u3,ul⟩⟩,.slice SB ul.length sc2):SeenV)).map (·.1)=s.seen.map (·.1)∧∀ j,t+1≤j→(us.set t ((⟨u0,u1,⟨u2,u3,ul⟩⟩,.slice SB ul.length sc2):SeenV))[j]? = s.seen[j]? from ⟨by rw [List.length_set];exact HUL.out,(Ka (y:=(⟨u0,u1,⟨u2,u3,ul⟩⟩,.slice SB ul.length sc2)) HU.out rfl).trans hu.out.2.1,fun j hj=>by rw [List.getElem?_set,if_neg (by omega)];exact hu.out.2.2 j (by omega)⟩)
      have hob2:(Value.slice A7 s.seen.length c7).ownBlock=some g:=hob
      have HXN:=Lib.hid ((hx.trans hd9 (fun _ _ e=>e.elim)).trans hs14 (fun q hq e=>by rw [show q=g from e];exact hob2))
      clear q49 f49 q4 k8 hS hS9 ho9 ho14 hgne hs14 hd hd9 hx9 hgb
      go_wp2
      go_roundw
      case rel=>(try rw [← HA.out]);exact ⟨t+1,HT.out,by go_num,us.set t (⟨u0,u1,⟨u2,u3,ul⟩⟩,.slice SB ul.length sc2),HUN,hansn,hown14,HXN.out⟩
      case measure=>have:=HT.out;simp [intOf];omega
     have hnl:¬ ((t:Int) < s.seen.length):=by omega
     have hap8:∀ {T:List TypeId},89 ∉ T→Apart w8 (fun q=>(Value.slice A7 s.seen.length c7).ownBlock=some q) T:=fun hT=>Apart.row ho8 hT
     have hRr:=hR8.ext hx (fun e=>own_ne ho8 hR8 (by decide) e)
     have hul:=Lib.hid hu.out.1
     skip
     go_wp2_with (first|go_skip|go_guarded|((with_reducible refine isW ?_);refine Ae rfl 30 _ rfl Aj B rfl #[.int .i64 s.index,.int .i64 s.next,.slice A1 ys.length c1,.slice A2 zs.length c2,.slice A3 s.nodes.length c3,.slice A4 s.allocs.length c4,.slice A5 s.evals.length c5,.slice A6 s.deploys.length c6,.slice A7 s.seen.length c7] hBr rfl ?_)|((with_reducible refine isW ?_);refine Af rfl 30 _ _ rfl Aj (B+1) rfl #[.int .i64 s.index,.int .i64 s.next,.slice A1 ys.length c1,.slice A2 zs.length c2,.slice A3 s.nodes.length c3,.slice A4 s.allocs.length c4,.slice A5 s.evals.length c5,.slice A6 s.deploys.length c6,.slice A7 s.seen.length c7] rfl hRr rfl rfl rfl ?_;intro w9 hR9 hx9))
     have hap9:∀ {T:List TypeId},30 ∉ T→Apart wr (fun q=>q=B+1) T:=fun hT=>Apart.one hRr hT
     have hown9:=Ag hown hx9 (hap9 (by decide))
     refine bodyPost_ret (results_cell rfl Aj (g:=B+1) rfl hR9 rfl) rfl ⟨({ s with AJ:=A1,nJ:=ys.length,cJ:=c1,jobs:=ys,AS:=A2,nS:=zs.length,cS:=c2,stable:=zs,AN:=A3,nN:=s.nodes.length,cN:=c3,AA:=A4,nA:=s.allocs.length,cA:=c4,AE:=A5,nE:=s.evals.length,cE:=c5,AD:=A6,nD:=s.deploys.length,cD:=c6,AX:=A7,nX:=us.length,cX:=c7,seen:=us }:Aa),by rw [show ({ s with AJ:=A1,nJ:=ys.length,cJ:=c1,jobs:=ys,AS:=A2,nS:=zs.length,cS:=c2,stable:=zs,AN:=A3,nN:=s.nodes.length,cN:=c3,AA:=A4,nA:=s.allocs.length,cA:=c4,AE:=A5,nE:=s.evals.length,cE:=c5,AD:=A6,nD:=s.deploys.length,cD:=c6,AX:=A7,nX:=us.length,cX:=c7,seen:=us }:Aa).arr=#[.int .i64 s.index,.int .i64 s.next,.slice A1 ys.length c1,.slice A2 zs.length c2,.slice A3 s.nodes.length c3,.slice A4 s.allocs.length c4,.slice A5 s.evals.length c5,.slice A6 s.deploys.length c6,.slice A7 s.seen.length c7] from by show #[_,_,_,_,_,_,_,_,_]=#[_,_,_,_,_,_,_,_,_];rw [show us.length=s.seen.length from hul.out]],⟨rfl,rfl,(hJ8.keep hx (hap8 (by decide))).keep hx9 (hap9 (by decide)),rfl,hym.out,(hT8.keep hx (hap8 (by decide))).keep hx9 (hap9 (by decide)),rfl,hzm.out,Ag (Ag hn8 hx (hap8 (by decide))) hx9 (hap9 (by decide)),rfl,rfl,Ag (Ag ha8 hx (hap8 (by decide))) hx9 (hap9 (by decide)),rfl,rfl,Ag (Ag he8 hx (hap8 (by decide))) hx9 (hap9 (by decide)),rfl,rfl,Ag (Ag hd8 hx (hap8 (by decide))) hx9 (hap9 (by decide)),rfl,rfl,⟨by show World.ownsRow w9 _ _ _ (.slice A7 us.length c7) us.length _;rw [show us.length=s.seen.length from hul.out];exact hown9,fun y hy=>by obtain ⟨j,hj⟩:=List.mem_iff_getElem?.1 hy;exact (hans j (by have h9:j < us.length:=(List.getElem?_eq_some_iff.1 hj).1;have h8:=hul.out;clear hJ8 hT8;omega) y hj).keep hx9 (hap9 (by decide))⟩,rfl,hu.out.2.1,hsep.out⟩,(hx8.trans hx (fun q hq e=>absurd (BM ho8 e) (by omega))).trans hx9 (fun q hq e=>absurd (show q=B+1 from e) (by have:=HB.out;omega))⟩
end Go.Proofs.YtccekmeifanipaaGreat
