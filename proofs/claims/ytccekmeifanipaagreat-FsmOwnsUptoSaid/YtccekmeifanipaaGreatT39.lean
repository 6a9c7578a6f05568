/- Parts of the proof: Owns11 -/
import Derived.Test.YtccekmeifanipaaGreatT38
import Derived.Test.YtccekmeifanipaaGreatT30
import Derived.Test.YtccekmeifanipaaGreatT31
import Derived.Test.YtccekmeifanipaaGreatT37
namespace Go.Proofs.YtccekmeifanipaaGreat
set_option linter.unusedVariables false
set_option linter.unusedSimpArgs false
set_option linter.unusedSectionVars false
open Go.RowKit
def OutRow (w:World) (e:TypeId) (A:Option Addr) (n sz lo hi:Nat):Prop:=n=0 ∨ ∃ g cur,A=some ⟨g,0,none⟩∧Blk w g e cur∧n*sz≤cur.size∧lo≤g∧g < hi
theorem OutRow.of {w:World} {base e sz n m c hi:Nat} {A:Option Addr} {xs:List Value} (h:w.ownsRow base e sz (.slice A n c) m xs) (hn:n=m) (hl:∀ g,(Value.slice A n c).ownBlock=some g→g < hi):OutRow w e A n sz base hi:=by
 subst hn
 rcases h.2 with ⟨_,h0⟩|⟨g,cap,cur,hv,hb,hg,hnc,_,hs,_⟩
 ·exact .inl h0
 injection hv with hA _ hc
 subst hA
 exact .inr ⟨g,cur,rfl,hg,by rw [hs];exact Nat.mul_le_mul_right _ hnc,hb,hl g rfl⟩
theorem OutRow.at_ {w:World} {e:TypeId} {A:Option Addr} {n sz lo hi:Nat} (h:OutRow w e A n sz lo hi) {k:Nat} (hk:k < n):∃ g cur,A=some ⟨g,0,none⟩∧Blk w g e cur∧n*sz≤cur.size∧lo≤g∧g < hi:=by
 rcases h with h|h
 ·omega
 exact h
theorem OutRow.QY {w:World} {lo hi:Nat} {A:Option Addr} {c:Nat} {l:List Ac} (h:CJ lo w (.slice A l.length c) l) (hl:∀ g,(Value.slice A l.length c).ownBlock=some g→l ≠ []→g < hi):OutRow w 55 A l.length 11 lo hi:=by
 by_cases hne:l=[]
 ·exact .inl (by rw [hne];rfl)
 obtain ⟨A',c',e,h⟩:=h
 injection e with e1 _ e3
 subst e1 e3
 rcases h with h|h
 ·exact absurd h hne
 exact OutRow.of h rfl (fun g hg=>hl g hg hne)
theorem CJ.le {lo:Nat} {w:World} {A:Option Addr} {c:Nat} {l:List Ac} (h:CJ lo w (.slice A l.length c) l):l.length≤maxLen:=by
 obtain ⟨A',c',e,h⟩:=h
 injection e with e1 _ e3
 subst e1 e3
 rcases h with h|h
 ·rw [h];simp
 rcases h.2 with ⟨_,h0⟩|⟨g,cap,cur,hv,hb,hg,hnc,hm,_,_⟩
 ·omega
 skip
 omega
structure Qv (s:Aa) (hi:Nat):Prop where
 a:∀ g,(Value.slice s.AA s.nA s.cA).ownBlock=some g→g < hi
 e:∀ g,(Value.slice s.AE s.nE s.cE).ownBlock=some g→g < hi
 j:∀ g,(Value.slice s.AJ s.nJ s.cJ).ownBlock=some g→g < hi
 g:∀ y∈s.jobs,∀ g,y.2.ownBlock=some g→g < hi
theorem Ps {base:Nat} {w:World} {s:Aa} (h:Aw base w s):Qv s w.heap.size :=
 ⟨fun _ hg=>CB h.a hg,fun _ hg=>CB h.e hg,fun _ hg=>CB h.j.own hg,fun y hy g hg=>by
  obtain ⟨A,n,c,e,o,_⟩:=h.j.grp y hy
  rw [e] at hg
  exact CB o hg⟩
structure Wrote (lo hi:Nat) (w w' : World):Prop where
 x:Ext (fun q=>lo≤q∧q < hi) w w'
 k:∀ g e cur,Blk w g e cur→∃ cur',Blk w' g e cur'∧cur'.size=cur.size∧(e ∉ [55,66,68]→cur' = cur)
theorem Wrote.refl (lo hi:Nat) (w:World):Wrote lo hi w w:=⟨Ext.refl _ _,fun g e cur h=>⟨cur,h,rfl,fun _=>rfl⟩⟩
theorem Wrote.same {lo hi:Nat} {w w' : World} {g:Nat} {e:TypeId} {cur:Array Value} (h:Wrote lo hi w w') (hb:Blk w g e cur) (he:e ∉ [55,66,68]):Blk w' g e cur:=by
 obtain ⟨cur',h1,_,h3⟩:=h.k g e cur hb
 rw [← h3 he]
 exact h1
theorem Wrote.cell {lo hi:Nat} {w w' : World} {g i:Nat} {e:TypeId} {cur:Array Value} (h:Wrote lo hi w w') (hb:Blk w g e cur) (he:e ∉ [55,66,68]):w'.cell? ⟨g,i,none⟩=w.cell? ⟨g,i,none⟩:=by
 rw [(h.same hb he).cell,hb.cell]
theorem Wrote.put {lo hi:Nat} {w w' : World} {g i:Nat} {e:TypeId} {cur:Array Value} {u:Value} (h:Wrote lo hi w w') (hb:Blk w g e cur) (he:e∈[55,66,68]) (hlo:lo≤g) (hhi:g < hi):Wrote lo hi w (w'.setCell ⟨g,i,none⟩ u):=by
 have hs:Ext (fun b=>b=g) w' (w'.setCell ⟨g,i,none⟩ u):=Ext.set1 _ _ _ _
 refine ⟨h.x.trans hs (fun b _ e=>by have e:b=g:=e;subst e;exact ⟨hlo,hhi⟩),fun g2 e2 cur2 hb2=>?_⟩
 by_cases hg:g2=g
 ·subst hg
  have hbb:=hb2.symm.trans hb
  injection hbb with hbb
  injection hbb with h1 h2 _
  subst h1 h2
  obtain ⟨cur',k1,k2,_⟩:=h.k _ _ _ hb
  exact ⟨cur'.setIfInBounds i u,k1.Bi i u,by simpa using k2,fun hn=>absurd he hn⟩
 obtain ⟨cur',k1,k2,k3⟩:=h.k _ _ _ hb2
 exact ⟨cur',k1.ext hs hg,k2,k3⟩
theorem F9 {w:World} {g:Nat} {e:TypeId} {cur:Array Value} (h:Blk w g e cur) {i:Nat} (hi:i < cur.size):∃ v,w.cell? ⟨g,i,none⟩=some v:=⟨cur[i],by rw [h.cell,Array.getElem?_eq_getElem hi]⟩
set_option maxRecDepth 20000 in
set_option maxHeartbeats 16000000 in
theorem Lx (LA:Option Addr) (ln lc:Nat) (l:List Bl) (c0:Bl) (w:World) (hl:Sl w 27 LA ln (l.map Bl.cells)) (hr:∀ c∈l,c.Read w) (hn0:ln≤1048574) (hc0:c0.Read w) :
  Calls Tryz.prog 7 #[.slice LA ln lc,.agg c0.arr] w fun e w'=>e=.returned (.bool true)∧Ext Nothing w w':=by
 have hn:ln≤1048576:=by omega
 have hxP:Ext Nothing w (w.alloc (.cells c0.arr 51)):=Ext.Ay
 have hP:Blk (w.alloc (.cells c0.arr 51)) w.heap.size 51 c0.arr:=Blk.new _ _ _
 go_enter Tryz.func7,Tryz.ntmps7
 go_upto_region 1 with (first|go_skip|go_guarded)
 generalize hPP:w.heap.size=P at hP ⊢
 have HPP:=Lib.hid hPP
 clear hPP
 generalize (w.alloc (.cells c0.arr 51))=wp at hxP hP ⊢
 have hlp:=hl.Al hxP
 have hrp:∀ c∈l,c.Read wp:=fun c hc=>(hr c hc).Al hxP
 have HC:=Lib.hid (hc0.Al hxP)
 have hzP:=hxP.size
 have hln:=Lib.hid hlp.len
 go_upto_region 2 with (first|go_skip|go_guarded|(go_at_call 14;(with_reducible refine (Ru wp).mono ?_);rintro e w1 ⟨rfl,hx1⟩))
 have hxT:Ext Nothing w1 (w1.alloc (.cells #[.int .i64 0,.int .i64 1,.slice none 0 0,.slice none 0 0,.slice none 0 0,.slice none 0 0,.slice none 0 0,.slice none 0 0,.slice none 0 0] 30)):=Ext.Ay
 have hT0:Blk (w1.alloc (.cells #[.int .i64 0,.int .i64 1,.slice none 0 0,.slice none 0 0,.slice none 0 0,.slice none 0 0,.slice none 0 0,.slice none 0 0,.slice none 0 0] 30)) w1.heap.size 30 Gm.arr:=Blk.new _ _ _
 have hzT:wp.heap.size≤w1.heap.size:=hx1.size
 have hx0:=hx1.tr hxT
 generalize hTT:w1.heap.size=T at hT0 hzT ⊢
 generalize (w1.alloc (.cells #[.int .i64 0,.int .i64 1,.slice none 0 0,.slice none 0 0,.slice none 0 0,.slice none 0 0,.slice none 0 0,.slice none 0 0,.slice none 0 0] 30))=w2 at hT0 hx0 ⊢
 clear hxT hx1 hTT
 have hO0:Aw wp.heap.size w2 Gm:=KI _ _
 go_wp2
 go_loopw [6] (fun ki wr=>∃ t:Nat,t≤ln∧ki=.int .i64 t∧∃ sV:Aa,Aw wp.heap.size wr sV∧Fsm.EU t sV.data∧Blk wr T 30 sV.arr∧Ext Nothing wp wr) (fun ki _=>ln - (intOf ki).toNat)
 case atStart=>exact ⟨0,Nat.zero_le _,rfl,Gm,hO0,Fsm.IW,hT0,hx0⟩
 case round =>
  obtain ⟨t,ht,rfl,sV,hO,hG,hT,hx⟩:=hrel
  clear hO0 hT0 hx0
  by_cases hlt:t < ln
  ·obtain ⟨hjn,b,off,hLe,hce⟩:=hlp.get hx hlt
   have hrd:=hrp _ (List.getElem_mem hjn)
   generalize l[t]=c at hce hrd
   subst hLe
   have hk0:(0:Int)≤(t:Int):=by omega
   have hk1:(t:Int) < ln:=by omega
   have HW:=Lib.hid (show wrap64 ((t:Int)+1)=(t:Int)+1 by unfold wrap64;omega)
   have HT:=Lib.hid hlt
   have HG:=Lib.hid hG
   have hbw:b < wp.heap.size:=by obtain ⟨q,hq⟩:=hlp.blk (show 0 < ln by omega);exact hq
   have HCE:=Lib.hid (show ∀ j u,c.arr.toList[j]? = some u→wr.cell? ⟨b,off+t*27+j,none⟩=some u from hce)
   clear hce hG hlt
   go_upto_region 5 with (first|go_skip|go_guarded)
   have hd:Ext Nothing wr wr.drew:=(Ext.refl _ _).drew
   refine zS (S:=fun W'=>Ext (fun q=>q=T) wr W') (by kernel_rfl) ?_
   have hS:=hd.any (S:=fun q=>q=T)
   generalize wr.drew=Wd at hd hS ⊢
   refine zV 1 (.int .i64 (t:Int)) rfl (by kernel_rfl) hS (fun _ _ _ h=>h) (fun W' hS'=>by go_simp) ?_
   refine zV 2 (.int .i64 (wrap64 ((t:Int)+1))) rfl (by kernel_rfl) hS (fun _ _ _ h=>h) (fun W' hS'=>by go_simp;rw [IntKind.wrap_i64];have:=HT.out;unfold wrap64;omega) ?_
   refine zV 3 (.slice (some ⟨b,off,none⟩) ln lc) rfl (by kernel_rfl) hS (fun _ _ _ h=>h) (fun W' hS'=>by go_simp) ?_
   refine zV 4 (.int .i64 (t:Int)) rfl (by kernel_rfl) hS (fun _ _ _ h=>h) (fun W' hS'=>by go_simp) ?_
   refine zV 5 (.pointer (some ⟨b,off+t*27,none⟩)) rfl (by kernel_rfl) hS (fun _ _ _ h=>h) (fun W' hS'=>by go_simp) ?_
   refine zV 6 (.agg c.arr) rfl (by kernel_rfl) hS (fun _ _ _ h=>h) (fun W' hS'=>by exact run_load_struct (sz:=27) (b:=b) (off:=off+t*27) rfl IE (by go_simp) (fun j u hu=>hS'.cell (HCE.out j u hu) (fun e=>absurd (show b=T from e) (by omega))) rfl) ?_
   refine zV 7 (.agg (c.ent (wrap64 ((t:Int)+1)) 1)) rfl (by kernel_rfl) hS (fun _ _ _ h=>h) (fun W' hS'=>by go_simp) ?_
   (try simp only [Act.put,zA,zB,zC,zD,zE,zF])
   have hTq:=hT.e0 hd
   have hOq:=hO.AP hd
   have hxq:=hx.tr hd
   have hcq:=hrd.Qr hxq
   refine zO 0 (by kernel_rfl) ?_
   refine wpOp_val (v:=.agg sV.arr) (w':=Wd) rfl (by rfl) (by exact AB rfl Aj (by go_simp) hTq rfl) ⟨hS,?_⟩
   (try simp only [Act.put,zA,zB,zC,zD,zE,zF])
   refine zO 8 (by kernel_rfl) ?_
   refine Ai (f:=15) (args:=#[.agg sV.arr,.agg (c.ent (wrap64 ((t:Int)+1)) 1)]) rfl (by rfl) (by go_simp) ((EB (base:=wp.heap.size) (t:=t) (w:=Wd) (s:=sV) (c:=c) (ix:=(wrap64 ((t:Int)+1))) 1 hOq HG.out hcq hrd.op (by have:=HT.out;omega) (by have:=HT.out;rw [HW.out];omega) (by rw [HW.out];omega)).mono ?_)
   rintro e w2 ⟨s2,r2,rv2,rfl,hO2,hF2,hres2,hx2⟩
   have hT2:=hTq.e0 hx2
   have hS2:=hS.trans hx2 (fun _ _ e=>e.elim)
   have HG2:=Lib.hid (show Fsm.EU (t+1) s2.data by have h9:=Fsm.Eo HG.out (by have:=HT.out;omega) hrd.KO;rw [← HW.out,hF2] at h9;exact h9)
   have HF2:=Lib.hid hF2
   clear hF2
   refine ⟨_,rfl,hS2,?_⟩
   (try simp only [Act.put,zA,zB,zC,zD,zE,zF])
   refine zO 9 (by kernel_rfl) ?_
   refine wpOp_val (v:=.tuple #[.agg s2.arr,.agg #[.int .i64 r2.code,.int .i64 r2.value,rv2]]) (w':=w2) rfl (by rfl) (by go_simp) ⟨hS2,?_⟩
   (try simp only [Act.put,zA,zB,zC,zD,zE,zF])
   refine zV 10 (.agg s2.arr) rfl (by kernel_rfl) hS2 (fun _ _ _ h=>h) (fun W' hS'=>by go_simp) ?_
   refine zV 11 (.agg #[.int .i64 r2.code,.int .i64 r2.value,rv2]) rfl (by kernel_rfl) hS2 (fun _ _ _ h=>h) (fun W' hS'=>by go_simp) ?_
   (try simp only [Act.put,zA,zB,zC,zD,zE,zF])
   refine zO 12 (by kernel_rfl) ?_
   refine Bq (p:=T) (cs:=s2.arr) rfl (by rfl) rfl (by go_simp) (by go_simp) hT2 rfl Aj rfl rfl (fun w5 hB5 hx5=>?_)
   have hS5:=hS2.trans hx5 (fun q hq e=>e)
   refine ⟨hS5,wpAnyH_done (by kernel_rfl) ?_ _⟩
   (try simp only [Act.put,zA,zB,zC,zD,zE,zF])
   have hO5:=(hO2.base hxq.size).keep hx5 (Apart.one hT2 (by decide))
   have hx5w:Ext Nothing wp w5:=hx.trans hS5 (fun b hb e=>absurd (show b=T from e) (by omega))
   clear hd hS hS2 hS5 hTq hOq hxq hcq hT2 hx2 hO2 hx5 hres2 hT hO hx
   obtain ⟨ql1,ql2,ql3,ql4,ql5,ql6,ql7⟩:=Fs HG2.out (show t+1≤1048576 by have:=HT.out;omega)
   have hnJ:s2.nJ≤1048576:=by have:=hO5.jl;have:=HT.out;omega
   have hnS:s2.nS≤1048576:=by have:=hO5.tl;have:=HT.out;omega
   have hnN:s2.nN≤1048576:=by have:=hO5.nl;have:=HT.out;omega
   have hnA:s2.nA≤64:=by have:=hO5.al;omega
   have hnE:s2.nE≤1048576:=by have:=hO5.el;have:=HT.out;omega
   have hnD:s2.nD≤1048576:=by have:=hO5.dl;have:=HT.out;omega
   clear ql1 ql2 ql3 ql4 ql5 ql6 ql7
   go_wp2
   go_roundw
   case rel=>exact ⟨t+1,HT.out,by go_num,s2,hO5,HG2.out,hB5,hx5w⟩
   case measure=>have:=HT.out;simp [intOf];omega
  have hnl:¬ ((t:Int) < ln):=by omega
  obtain rfl:ln=t:=by omega
  clear hlt ht
  obtain ⟨wS,rfl⟩ : ∃ z:World,z=wr:=⟨_,rfl⟩
  have HG:=Lib.hid hG
  replace hP:=hP.e0 hx
  have hLV:=DU hO hG hn
  clear hG
  have hxsV:∀ y∈sV.seen,y.1.answer.allocs=[]:=fun y hy=>by obtain ⟨_,_,_,h⟩:=hO.xa y hy;exact h
  have HXV:=Lib.hid hxsV
  clear hxsV
  go_upto_region 7 with (first|go_skip|go_guarded|((with_reducible refine isW ?_);refine Ae rfl 30 _ rfl Aj T rfl sV.arr (show Blk _ _ 30 _ from hT) rfl ?_)|(go_at_call 21;(with_reducible refine (K9 sV wS hLV).mono ?_);rintro e w6 ⟨sW,rfl,hC,hx6⟩))
  have hOW:Aw wp.heap.size w6 sW:=(hC.own HXV.out).base hx.size
  have HDW:=Lib.hid (show sW.data=sV.data from hC.data)
  clear hC
  replace hT:=hT.e0 hx6
  replace hO:=hO.AP hx6
  replace hP:=hP.e0 hx6
  replace hLV:=hLV.Al hx6
  replace hx:=hx.tr hx6
  clear hx6
  have hal:Ext Nothing w6 (w6.alloc (.cells sW.arr 30)):=Ext.Ay
  have hTW:Blk (w6.alloc (.cells sW.arr 30)) w6.heap.size 30 sW.arr:=Blk.new _ _ _
  replace hT:=hT.e0 hal
  replace hO:=hO.AP hal
  replace hP:=hP.e0 hal
  replace hLV:=hLV.Al hal
  replace hx:=hx.tr hal
  replace hOW:=hOW.AP hal
  generalize w6.heap.size=TW at hTW ⊢
  generalize (w6.alloc (.cells sW.arr 30))=w7 at hTW hT hO hP hLV hx hOW ⊢
  clear hal
  go_upto_region 8 with (first|go_skip|go_guarded|((with_reducible refine isW ?_);refine Ae rfl 30 _ rfl Aj T rfl sV.arr (show Blk _ _ 30 _ from hT) rfl ?_)|((with_reducible refine isW ?_);refine Ae rfl 51 _ rfl IE P rfl c0.arr (show Blk _ _ 51 _ from hP) rfl ?_)|(go_at_call 15;(with_reducible refine (EB (base:=wp.heap.size) (t:=ln) (w:=w7) (s:=sV) (c:=c0) (ix:=((ln:Int)+1)) 1 hO HG.out (HC.out.Qr hx) HC.out.op (by omega) (by omega) (by omega)).mono ?_);rintro e w3 ⟨s8,r8,rv8,rfl,hO8,hF8,⟨RA8,rc8,rfl,hro8⟩,hx3⟩))
  have hal:Ext Nothing w3 ((w3.alloc (.cells s8.arr 30)).alloc (.cells #[.int .i64 r8.code,.int .i64 r8.value,.slice RA8 r8.allocs.length rc8] 34)):=Ext.Ay
  have hT8:Blk ((w3.alloc (.cells s8.arr 30)).alloc (.cells #[.int .i64 r8.code,.int .i64 r8.value,.slice RA8 r8.allocs.length rc8] 34)) w3.heap.size 30 s8.arr:=(Blk.new w3 _ _).e0 Ext.Ay
  have hE8:Blk ((w3.alloc (.cells s8.arr 30)).alloc (.cells #[.int .i64 r8.code,.int .i64 r8.value,.slice RA8 r8.allocs.length rc8] 34)) (w3.heap.size+1) 34 #[.int .i64 r8.code,.int .i64 r8.value,.slice RA8 r8.allocs.length rc8]:=Blk.new' _ _ _ (by simp)
  have hx8:Ext Nothing w7 ((w3.alloc (.cells s8.arr 30)).alloc (.cells #[.int .i64 r8.code,.int .i64 r8.value,.slice RA8 r8.allocs.length rc8] 34)):=hx3.tr hal
  have hO83:=hO8
  have hlt3:=Ps hO8
  have hro3:CJ w7.heap.size ((w3.alloc (.cells s8.arr 30)).alloc (.cells #[.int .i64 r8.code,.int .i64 r8.value,.slice RA8 r8.allocs.length rc8] 34)) (.slice RA8 r8.allocs.length rc8) r8.allocs:=CJ.keep (w:=w3) ⟨RA8,rc8,rfl,hro8⟩ hal Apart.none
  have hrlt:∀ g,(Value.slice RA8 r8.allocs.length rc8).ownBlock=some g→r8.allocs ≠ []→g < w3.heap.size:=fun g hg hne=>by rcases hro8 with h|h;(exact absurd h hne);exact CB h hg
  clear hro8 hO83
  replace hO8:=hO8.AP hal
  have hz3:=hx3.size
  clear hal hx3
  generalize w3.heap.size=TT8 at hT8 hE8 hz3 hlt3 hrlt ⊢
  generalize ((w3.alloc (.cells s8.arr 30)).alloc (.cells #[.int .i64 r8.code,.int .i64 r8.value,.slice RA8 r8.allocs.length rc8] 34))=w8 at hro3 hT8 hE8 hx8 hO8 ⊢
  have hzlo:=hz3
  clear hz3
  have hro8:=hro3
  clear hro3
  have HLT:=Lib.hid hlt3
  have HRLT:=Lib.hid hrlt
  clear hlt3 hrlt
  have HF8:=Lib.hid hF8
  clear hF8
  have HX7:=Lib.hid hx
  have HO7:=Lib.hid hO
  have HOW7:=Lib.hid hOW
  have hx7:=hx8
  have HTL:=Lib.hid hT8.lt
  have HS8:=Lib.hid (show Fsm.EU (ln+1) s8.data by have h9:=Fsm.Eo HG.out hn (c:=c0.d) HC.out.KO;rw [HF8.out] at h9;exact h9)
  have hL8:=DU hO8 HS8.out (by omega)
  have hZ:=hx8.size
  replace hT:=hT.e0 hx8
  replace hO:=hO.AP hx8
  replace hP:=hP.e0 hx8
  replace hLV:=hLV.Al hx8
  replace hx:=hx.tr hx8
  replace hOW:=hOW.AP hx8
  replace hTW:=hTW.e0 hx8
  clear hx8
  have hxs8:∀ y∈s8.seen,y.1.answer.allocs=[]:=fun y hy=>by obtain ⟨_,_,_,h⟩:=hO8.xa y hy;exact h
  go_upto_region 9 with (first|go_skip|go_guarded|((with_reducible refine isW ?_);refine Ae rfl 30 _ rfl Aj TT8 rfl s8.arr (show Blk _ _ 30 _ from hT8) rfl ?_)|(go_at_call 21;(with_reducible refine (K9 s8 w8 hL8).mono ?_);rintro e w9 ⟨sD,rfl,hC,hx9⟩))
  have hOD:Aw w8.heap.size w9 sD:=hC.own hxs8
  have HDD:=Lib.hid (show sD.data=s8.data from hC.data)
  clear hC hxs8
  replace hT:=hT.e0 hx9
  replace hO:=hO.AP hx9
  replace hP:=hP.e0 hx9
  replace hLV:=hLV.Al hx9
  replace hx:=hx.tr hx9
  replace hOW:=hOW.AP hx9
  replace hTW:=hTW.e0 hx9
  replace hx7:=hx7.tr hx9
  replace hO8:=hO8.AP hx9
  replace hL8:=hL8.Al hx9
  replace hT8:=hT8.e0 hx9
  replace hE8:=hE8.e0 hx9
  replace hro8:=hro8.keep hx9 Apart.none
  clear hx9
  have hal:Ext Nothing w9 (w9.alloc (.cells sD.arr 30)):=Ext.Ay
  have hTD:Blk (w9.alloc (.cells sD.arr 30)) w9.heap.size 30 sD.arr:=Blk.new _ _ _
  replace hT:=hT.e0 hal
  replace hO:=hO.AP hal
  replace hP:=hP.e0 hal
  replace hLV:=hLV.Al hal
  replace hx:=hx.tr hal
  replace hOW:=hOW.AP hal
  replace hTW:=hTW.e0 hal
  replace hx7:=hx7.tr hal
  replace hO8:=hO8.AP hal
  replace hL8:=hL8.Al hal
  replace hT8:=hT8.e0 hal
  replace hE8:=hE8.e0 hal
  replace hro8:=hro8.keep hal Apart.none
  replace hOD:=hOD.AP hal
  generalize w9.heap.size=TD at hTD ⊢
  generalize (w9.alloc (.cells sD.arr 30))=wA at hTD hT hO hP hLV hx hOW hTW hx7 hO8 hL8 hT8 hE8 hro8 hOD ⊢
  clear hal
  have hLW:=DU hOW (by rw [HDW.out];exact HG.out) hn
  have HSW:=Lib.hid (IC (a:=sV) (b:=sW) HDW.out.symm)
  go_upto_region 10 with (first|go_skip|go_guarded|((with_reducible refine isW ?_);refine Ae rfl 30 _ rfl Aj T rfl sV.arr (show Blk _ _ 30 _ from hT) rfl ?_)|((with_reducible refine isW ?_);refine Ae rfl 30 _ rfl Aj TW rfl sW.arr (show Blk _ _ 30 _ from hTW) rfl ?_)|(go_at_call 20;(with_reducible refine (Im sV sW wA hLV hLW HSW.out).mono ?_);rintro e wB ⟨rfl,hxB⟩))
  replace hT:=hT.e0 hxB
  replace hO:=hO.AP hxB
  replace hP:=hP.e0 hxB
  replace hLV:=hLV.Al hxB
  replace hx:=hx.tr hxB
  replace hOW:=hOW.AP hxB
  replace hTW:=hTW.e0 hxB
  replace hx7:=hx7.tr hxB
  replace hO8:=hO8.AP hxB
  replace hL8:=hL8.Al hxB
  replace hT8:=hT8.e0 hxB
  replace hE8:=hE8.e0 hxB
  replace hro8:=hro8.keep hxB Apart.none
  replace hOD:=hOD.AP hxB
  replace hTD:=hTD.e0 hxB
  replace hLW:=hLW.Al hxB
  clear hxB
  have hWA:Hid (OutRow wB 55 s8.AA s8.nA 11 w7.heap.size TT8):=Lib.hid (OutRow.of hO8.a hO8.al (fun g hg=>HLT.out.a g hg))
  have hWE:Hid (OutRow wB 68 s8.AE s8.nE 4 w7.heap.size TT8):=Lib.hid (OutRow.of hO8.e hO8.el (fun g hg=>HLT.out.e g hg))
  have hWJ:Hid (OutRow wB 39 s8.AJ s8.nJ 7 w7.heap.size TT8):=Lib.hid (OutRow.of hO8.j.own hO8.jl (fun g hg=>HLT.out.j g hg))
  have hWR:Hid (OutRow wB 55 RA8 r8.allocs.length 11 w7.heap.size TT8):=Lib.hid (OutRow.QY hro8 HRLT.out)
  have hSJ:=hO8.slJ
  have HGR:=Lib.hid (show ∀ y∈s8.jobs,∃ A n c,y.2=.slice A n c∧OutRow wB 66 A n 3 w7.heap.size TT8∧n≤1048576 from fun y hy=>by obtain ⟨A,n,c,e,o,hn9,hb9⟩:=hO8.j.grp y hy;exact ⟨A,n,c,e,OutRow.of o rfl (fun g hg=>HLT.out.g y hy g (by rw [e];exact hg)),hb9⟩)
  obtain ⟨ql1,ql2,ql3,ql4,ql5,ql6,ql7⟩:=Fs HS8.out (show ln+1≤1048576 by omega)
  have hmJ:s8.nJ≤1048576:=by have:=hO8.jl;omega
  have hmS:s8.nS≤1048576:=by have:=hO8.tl;omega
  have hmN:s8.nN≤1048576:=by have:=hO8.nl;omega
  have hmA:s8.nA≤64:=by have:=hO8.al;omega
  have hmE:s8.nE≤1048576:=by have:=hO8.el;omega
  have hmD:s8.nD≤1048576:=by have:=hO8.dl;omega
  clear ql1 ql2 ql3 ql4 ql5 ql6 ql7
  have hRN:=CJ.le hro8
  have hRN:r8.allocs.length≤9223372036854775807:=Nat.le_trans hRN (by decide)
  clear HLT HRLT hro8 hO8 hL8 hZ
  have hW0:=Wrote.refl w7.heap.size TT8 wB
  go_wp2
  go_loopw [12] (fun ki wr=>∃ k:Nat,k≤s8.nA∧ki=.int .i64 k∧Wrote w7.heap.size TT8 wB wr) (fun ki _=>s8.nA - (intOf ki).toNat)
  case atStart=>exact ⟨0,Nat.zero_le _,rfl,hW0⟩
  case round =>
   clear hW0
   obtain ⟨k,hk,rfl,hW⟩:=hrel
   have m1:wr.cell? ⟨TT8,5,none⟩=some (.slice s8.AA s8.nA s8.cA):=(hW.same hT8 (by decide)).cell 5
   by_cases hlt:k < s8.nA
   ·obtain ⟨g,cur,hAe,hB,hlen,hlo,hhi⟩:=hWA.out.at_ hlt
    obtain ⟨cur',hB',hsz,_⟩:=hW.k _ _ _ hB
    rw [hAe] at m1
    have HA:=Lib.hid hAe
    clear hAe
    obtain ⟨v,hv⟩:=F9 hB' (i:=k*11) (by omega)
    have hfz:wr.frozen? ⟨g,k*11,none⟩=false:=hB'.frozen _
    have hk0:(0:Int)≤(k:Int):=by omega
    have hk1:(k:Int) < s8.nA:=by omega
    have HTK:=Lib.hid hlt
    have hW2:=hW.put (u:=.int .i64 (-1)) (i:=k*11) hB (by decide) hlo hhi
    have hzk:0+k*11=k*11:=Nat.zero_add _
    clear hB hB' hlen hlo hhi hW hsz hlt
    go_wp2
    go_roundw
    case rel=>exact ⟨k+1,HTK.out,by go_num,hW2⟩
    case measure=>have:=HTK.out;simp [intOf];omega
   have hnl:¬ ((k:Int) < s8.nA):=by omega
   go_upto_region 14 with (first|go_skip|go_guarded)
   clear m1 hlt hnl hk
   obtain ⟨wz12,rfl⟩ : ∃ z:World,z=wr:=⟨_,rfl⟩
   have hW0:=hW
   clear hW
   go_wp2
   go_loopw [13] (fun ki wr=>∃ k:Nat,k≤s8.nJ∧ki=.int .i64 k∧Wrote w7.heap.size TT8 wB wr) (fun ki _=>s8.nJ - (intOf ki).toNat)
   case atStart=>exact ⟨0,Nat.zero_le _,rfl,hW0⟩
   case round =>
    clear hW0
    obtain ⟨k,hk,rfl,hW⟩:=hrel
    have m1:wr.cell? ⟨TT8,2,none⟩=some (.slice s8.AJ s8.nJ s8.cJ):=(hW.same hT8 (by decide)).cell 2
    by_cases hlt:k < s8.nJ
    ·obtain ⟨hjn,g,off,hAe,hce⟩:=hSJ.get (Ext.refl _ _) hlt
     obtain ⟨g2,cur,hAe2,hB,_⟩:=hWJ.out.at_ hlt
     obtain ⟨A9,n9,c9,hv9,hr9,hn9⟩:=HGR.out _ (List.getElem_mem hjn)
     rw [hAe] at hAe2
     injection hAe2 with hAe2
     injection hAe2 with e1 e2
     subst e1
     subst e2
     have hc4:wB.cell? ⟨g,k*7+4,none⟩=some (.slice A9 n9 c9):=by have h9:=hce 4 (s8.jobs[k]).2 rfl;rw [hv9] at h9;rw [← h9,Nat.zero_add]
     rw [hAe] at m1
     have HA:=Lib.hid hAe
     have HB:=Lib.hid hB
     have HC4:=Lib.hid hc4
     have HR9:=Lib.hid hr9
     have HTK:=Lib.hid hlt
     clear hAe hB hc4 hr9 hce hv9 hlt hjn
     go_upto_region 18 with (first|go_skip|go_guarded)
     go_wp2
     go_loopw [14] (fun ki wx=>∃ q:Nat,q≤n9∧ki=.int .i64 q∧Wrote w7.heap.size TT8 wB wx) (fun ki _=>n9 - (intOf ki).toNat)
     case atStart=>exact ⟨0,Nat.zero_le _,rfl,hW⟩
     case round =>
      clear m1 hW
      obtain ⟨q,hq,rfl,hW⟩:=hrel
      have m1:wr.cell? ⟨TT8,2,none⟩=some (.slice (some ⟨g,0,none⟩) s8.nJ s8.cJ):=by rw [← HA.out];exact (hW.same hT8 (by decide)).cell 2
      have j4:wr.cell? ⟨g,k*7+4,none⟩=some (.slice A9 n9 c9):=by rw [hW.cell HB.out (by decide)];exact HC4.out
      have hk0:(0:Int)≤(k:Int):=by omega
      have hk1:(k:Int) < s8.nJ:=by have:=HTK.out;omega
      by_cases hltq:q < n9
      ·obtain ⟨g9,cur9,hAe9,hB9,hlen9,hlo9,hhi9⟩:=HR9.out.at_ hltq
       obtain ⟨cur',hB',hsz,_⟩:=hW.k _ _ _ hB9
       rw [hAe9] at j4
       have HA9:=Lib.hid hAe9
       clear hAe9
       obtain ⟨v,hv⟩:=F9 hB' (i:=q*3) (by omega)
       have hfz:wr.frozen? ⟨g9,q*3,none⟩=false:=hB'.frozen _
       have hq0:(0:Int)≤(q:Int):=by omega
       have hq1:(q:Int) < n9:=by omega
       have HTQ:=Lib.hid hltq
       have hW2:=hW.put (u:=.int .i64 (-1)) (i:=q*3) hB9 (by decide) hlo9 hhi9
       clear hB9 hB' hlen9 hlo9 hhi9 hW hsz hltq
       go_wp2
       go_roundw
       case rel=>exact ⟨q+1,HTQ.out,by go_num,hW2⟩
       case measure=>have:=HTQ.out;simp [intOf];omega
      have hnq:¬ ((q:Int) < n9):=by omega
      go_wp2
      go_roundw
      case rel=>exact ⟨k+1,HTK.out,by go_num,hW⟩
      case measure=>have:=HTK.out;simp [intOf];omega
    have hnl:¬ ((k:Int) < s8.nJ):=by omega
    go_upto_region 21 with (first|go_skip|go_guarded)
    clear m1 hlt hnl hk
    obtain ⟨wz13,rfl⟩ : ∃ z:World,z=wr:=⟨_,rfl⟩
    have hW0:=hW
    clear hW
    go_wp2
    go_loopw [15] (fun ki wr=>∃ k:Nat,k≤s8.nE∧ki=.int .i64 k∧Wrote w7.heap.size TT8 wB wr) (fun ki _=>s8.nE - (intOf ki).toNat)
    case atStart=>exact ⟨0,Nat.zero_le _,rfl,hW0⟩
    case round =>
     clear hW0
     obtain ⟨k,hk,rfl,hW⟩:=hrel
     have m1:wr.cell? ⟨TT8,6,none⟩=some (.slice s8.AE s8.nE s8.cE):=(hW.same hT8 (by decide)).cell 6
     by_cases hlt:k < s8.nE
     ·obtain ⟨g,cur,hAe,hB,hlen,hlo,hhi⟩:=hWE.out.at_ hlt
      obtain ⟨cur',hB',hsz,_⟩:=hW.k _ _ _ hB
      rw [hAe] at m1
      have HA:=Lib.hid hAe
      clear hAe
      obtain ⟨v,hv⟩:=F9 hB' (i:=k*4) (by omega)
      have hfz:wr.frozen? ⟨g,k*4,none⟩=false:=hB'.frozen _
      have hk0:(0:Int)≤(k:Int):=by omega
      have hk1:(k:Int) < s8.nE:=by omega
      have HTK:=Lib.hid hlt
      have hW2:=hW.put (u:=.int .i64 (-1)) (i:=k*4) hB (by decide) hlo hhi
      have hzk:0+k*4=k*4:=Nat.zero_add _
      clear hB hB' hlen hlo hhi hW hsz hlt
      go_wp2
      go_roundw
      case rel=>exact ⟨k+1,HTK.out,by go_num,hW2⟩
      case measure=>have:=HTK.out;simp [intOf];omega
     have hnl:¬ ((k:Int) < s8.nE):=by omega
     go_upto_region 25 with (first|go_skip|go_guarded)
     clear m1 hlt hnl hk
     obtain ⟨wz15,rfl⟩ : ∃ z:World,z=wr:=⟨_,rfl⟩
     have hW0:=hW
     clear hW
     go_wp2
     go_loopw [16] (fun ki wr=>∃ k:Nat,k≤r8.allocs.length∧ki=.int .i64 k∧Wrote w7.heap.size TT8 wB wr) (fun ki _=>r8.allocs.length - (intOf ki).toNat)
     case atStart=>exact ⟨0,Nat.zero_le _,rfl,hW0⟩
     case round =>
      clear hW0
      obtain ⟨k,hk,rfl,hW⟩:=hrel
      have m1:wr.cell? ⟨(TT8+1),2,none⟩=some (.slice RA8 r8.allocs.length rc8):=(hW.same hE8 (by decide)).cell 2
      by_cases hlt:k < r8.allocs.length
      ·obtain ⟨g,cur,hAe,hB,hlen,hlo,hhi⟩:=hWR.out.at_ hlt
       obtain ⟨cur',hB',hsz,_⟩:=hW.k _ _ _ hB
       rw [hAe] at m1
       have HA:=Lib.hid hAe
       clear hAe
       obtain ⟨v,hv⟩:=F9 hB' (i:=k*11) (by omega)
       have hfz:wr.frozen? ⟨g,k*11,none⟩=false:=hB'.frozen _
       have hk0:(0:Int)≤(k:Int):=by omega
       have hk1:(k:Int) < r8.allocs.length:=by omega
       have HTK:=Lib.hid hlt
       have hW2:=hW.put (u:=.int .i64 (-1)) (i:=k*11) hB (by decide) hlo hhi
       have hzk:0+k*11=k*11:=Nat.zero_add _
       clear hB hB' hlen hlo hhi hW hsz hlt
       go_wp2
       go_roundw
       case rel=>exact ⟨k+1,HTK.out,by go_num,hW2⟩
       case measure=>have:=HTK.out;simp [intOf];omega
      have hnl:¬ ((k:Int) < r8.allocs.length):=by omega
      go_upto_region 29 with (first|go_skip|go_guarded)
      clear m1 hlt hnl hk
      obtain ⟨wz16,rfl⟩ : ∃ z:World,z=wr:=⟨_,rfl⟩
      have hW0:=hW
      clear hW
      obtain ⟨wE,rfl⟩ : ∃ z:World,z=wz16:=⟨_,rfl⟩
      have hTE:=hW0.same hT (by decide)
      have hTWE:=hW0.same hTW (by decide)
      have hTDE:=hW0.same hTD (by decide)
      have hPE:=hW0.same hP (by decide)
      have hx7E:Ext Nothing w7 wE:=hx7.trans hW0.x (fun q hq e=>absurd e.1 (by omega))
      have hOE:=HO7.out.AP hx7E
      have hOWE:=HOW7.out.AP hx7E
      have hODE:=hOD.under hW0.x (fun q e=>by have:=HTL.out;have:=e.2;omega)
      have hxE:Ext Nothing wp wE:=HX7.out.tr hx7E
      have hLV:=DU hOE HG.out hn
      have hLW:=DU hOWE (by rw [HDW.out];exact HG.out) hn
      clear hW0 hT hTW hTD hP hx7 hO hOW hOD hx hT8 hE8 hWA hWE hWR hSJ HGR hWJ
      go_upto_region 30 with (first|go_skip|go_guarded|((with_reducible refine isW ?_);refine Ae rfl 30 _ rfl Aj T rfl sV.arr (show Blk _ _ 30 _ from hTE) rfl ?_)|((with_reducible refine isW ?_);refine Ae rfl 30 _ rfl Aj TW rfl sW.arr (show Blk _ _ 30 _ from hTWE) rfl ?_)|(go_at_call 20;(with_reducible refine (Im sV sW wE hLV hLW HSW.out).mono ?_);rintro e wF ⟨rfl,hxF⟩))
      replace hTE:=hTE.e0 hxF
      replace hTDE:=hTDE.e0 hxF
      replace hPE:=hPE.e0 hxF
      replace hOE:=hOE.AP hxF
      replace hODE:=hODE.AP hxF
      replace hxE:=hxE.tr hxF
      clear hxF hLV hLW hTWE hOWE
      go_upto_region 31 with (first|go_skip|go_guarded|((with_reducible refine isW ?_);refine Ae rfl 30 _ rfl Aj T rfl sV.arr (show Blk _ _ 30 _ from hTE) rfl ?_)|((with_reducible refine isW ?_);refine Ae rfl 51 _ rfl IE P rfl c0.arr (show Blk _ _ 51 _ from hPE) rfl ?_)|(go_at_call 15;(with_reducible refine (EB (base:=wp.heap.size) (t:=ln) (w:=wF) (s:=sV) (c:=c0) (ix:=((ln:Int)+1)) 1 hOE HG.out (HC.out.Qr hxE) HC.out.op (by omega) (by omega) (by omega)).mono ?_);rintro e w3 ⟨s30,r30,rv30,rfl,hO30,hF30,⟨RA30,rc30,rfl,hro30⟩,hx3⟩))
      have hal:Ext Nothing w3 ((w3.alloc (.cells s30.arr 30)).alloc (.cells #[.int .i64 r30.code,.int .i64 r30.value,.slice RA30 r30.allocs.length rc30] 34)):=Ext.Ay
      have hT30:Blk ((w3.alloc (.cells s30.arr 30)).alloc (.cells #[.int .i64 r30.code,.int .i64 r30.value,.slice RA30 r30.allocs.length rc30] 34)) w3.heap.size 30 s30.arr:=(Blk.new w3 _ _).e0 Ext.Ay
      have hE30:Blk ((w3.alloc (.cells s30.arr 30)).alloc (.cells #[.int .i64 r30.code,.int .i64 r30.value,.slice RA30 r30.allocs.length rc30] 34)) (w3.heap.size+1) 34 #[.int .i64 r30.code,.int .i64 r30.value,.slice RA30 r30.allocs.length rc30]:=Blk.new' _ _ _ (by simp)
      have hx30:Ext Nothing wF ((w3.alloc (.cells s30.arr 30)).alloc (.cells #[.int .i64 r30.code,.int .i64 r30.value,.slice RA30 r30.allocs.length rc30] 34)):=hx3.tr hal
      replace hO30:=hO30.AP hal
      have hz3:=hx3.size
      clear hal hx3
      generalize w3.heap.size=TT30 at hT30 hE30 hz3 ⊢
      generalize ((w3.alloc (.cells s30.arr 30)).alloc (.cells #[.int .i64 r30.code,.int .i64 r30.value,.slice RA30 r30.allocs.length rc30] 34))=w30 at hT30 hE30 hx30 hO30 ⊢
      clear hz3 hro30
      have hD30:s30.data=s8.data:=by have h9:=hF30.symm.trans HF8.out;exact congrArg Prod.fst h9
      clear hF30
      replace hTDE:=hTDE.e0 hx30
      replace hODE:=hODE.AP hx30
      replace hxE:=hxE.tr hx30
      clear hx30 hE30
      have hLU:=DU hO30 (by rw [hD30];exact HS8.out) (by omega)
      have hLD:=DU hODE (by rw [HDD.out];exact HS8.out) (by omega)
      have HSD:=Lib.hid (IC (a:=s30) (b:=sD) (hD30.trans HDD.out.symm))
      clear hD30
      go_upto_region 32 with (first|go_skip|go_guarded|((with_reducible refine isW ?_);refine Ae rfl 30 _ rfl Aj TT30 rfl s30.arr (show Blk _ _ 30 _ from hT30) rfl ?_)|((with_reducible refine isW ?_);refine Ae rfl 30 _ rfl Aj TD rfl sD.arr (show Blk _ _ 30 _ from hTDE) rfl ?_)|(go_at_call 20;(with_reducible refine (Im s30 sD w30 hLU hLD HSD.out).mono ?_);rintro e wG ⟨rfl,hxG⟩))
      replace hxE:=hxE.tr hxG
      clear hTDE hT30 hO30 hODE hLU hLD hxG
      go_wp2_with (first|go_skip|go_guarded|(go_at_call 17;(with_reducible refine (PS _).mono ?_);rintro e w9 ⟨rfl,hx9⟩))
      go_ret
      exact ⟨rfl,(hxP.tr hxE).tr hx9⟩
end Go.Proofs.YtccekmeifanipaaGreat
