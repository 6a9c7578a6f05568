/- Parts of the proof: Fenced -/
import Derived.Test.YtccekmeifanipaaGreatS39
import Derived.Test.YtccekmeifanipaaGreatS35
import Derived.Test.YtccekmeifanipaaGreatS08
import Derived.Test.YtccekmeifanipaaGreatS38
namespace Go.Proofs.YtccekmeifanipaaGreat
set_option linter.unusedVariables false
set_option linter.unusedSimpArgs false
set_option linter.unusedSectionVars false
open Go.RowKit
theorem Cv {base t:Nat} {w:World} {s:Aa} (ho:Ay base w s) (hg:Fsm.DL t s.data) (ht:t≤1048576):s.Lay w:=by
 obtain ⟨a,b,c',d,e,f,g⟩:=Dq hg ht
 exact ho.lay (by omega) (by omega) (by omega) (by omega) (by omega) (by omega) (by omega)
theorem H6 {base t:Nat} {w:World} {s:Aa} (ho:Ay base w s) (hg:Fsm.DL t s.data) (ht:t≤1048576) (i:Int):({ s with index:=i }:Aa).Lay w:=by
 obtain ⟨a,b,c',d,e,f,g⟩:=Dq hg ht
 exact (ho.index i).lay (show s.jobs.length≤_ by omega) (show s.stable.length≤_ by omega) (show s.nodes.length≤_ by omega) (show s.allocs.length≤_ by omega) (show s.evals.length≤_ by omega) (show s.deploys.length≤_ by omega) (show s.seen.length≤_ by omega)
theorem Dv {a b:Aa} (h:a.data=b.data):Ip a b:=by
 have e:=h.symm
 simp only [Aa.data] at e
 injection e with e1 e2 e3 e4 e5 e6 e7 e8 e9
 exact ⟨e1,e2,e3,e4,e5,e6,e7,e8,e9⟩
set_option maxRecDepth 20000 in
set_option maxHeartbeats 16000000 in
theorem MK (LA:Option Addr) (ln lc:Nat) (l:List Be) (x0 x1 x2:Int) (x3 x4:Bool) (x5 x6 x7:Int) (RA:Option Addr) (rn rc:Nat) (reports:List (Int × Int)) (w:World) (hl:Sl w 27 LA ln (l.map Be.cells)) (hr:∀ c∈l,c.Read w) (hn0:ln≤1048574) (hrep:Sl w 2 RA rn (reports.map Dg)) (hro:∀ r∈reports,In64 r.1∧In64 r.2) (hrn:rn≤1048576) :
  Calls Tryz.prog 6 #[.slice LA ln lc,.agg #[.int .i64 x0,.int .i64 x1,.int .i64 x2,.bool x3,.bool x4,.int .i64 x5,.int .i64 x6,.int .i64 x7],.slice RA rn rc] w fun e w'=>e=.returned (.bool true)∧Ext Nothing w w':=by
 have hn:ln≤1048576:=by omega
 have hxP:Ext Nothing w (w.alloc (.cells #[.int .i64 x0,.int .i64 x1,.int .i64 x2,.bool x3,.bool x4,.int .i64 x5,.int .i64 x6,.int .i64 x7] 43)):=Ext.Al
 have hP:Blk (w.alloc (.cells #[.int .i64 x0,.int .i64 x1,.int .i64 x2,.bool x3,.bool x4,.int .i64 x5,.int .i64 x6,.int .i64 x7] 43)) w.heap.size 43 #[.int .i64 x0,.int .i64 x1,.int .i64 x2,.bool x3,.bool x4,.int .i64 x5,.int .i64 x6,.int .i64 x7]:=Blk.new _ _ _
 go_enter Tryz.func6,Tryz.ntmps6
 go_upto_region 1 with (first|go_skip|go_guarded)
 generalize hPP:w.heap.size=P at hP ⊢
 have HPP:=Lib.hid hPP
 clear hPP
 generalize (w.alloc (.cells #[.int .i64 x0,.int .i64 x1,.int .i64 x2,.bool x3,.bool x4,.int .i64 x5,.int .i64 x6,.int .i64 x7] 43))=wp at hxP hP ⊢
 have hlp:=hl.Am hxP
 have hrp:∀ c∈l,c.Read wp:=fun c hc=>(hr c hc).Am hxP
 have HREP:=Lib.hid (hrep.Am hxP)
 have hzP:=hxP.size
 have hln:=Lib.hid hlp.len
 go_upto_region 2 with (first|go_skip|go_guarded|(go_at_call 14;(with_reducible refine (Rk wp).mono ?_);rintro e w1 ⟨rfl,hx1⟩))
 have hxT:Ext Nothing w1 (w1.alloc (.cells #[.int .i64 0,.int .i64 1,.slice none 0 0,.slice none 0 0,.slice none 0 0,.slice none 0 0,.slice none 0 0,.slice none 0 0,.slice none 0 0] 30)):=Ext.Al
 have hT0:Blk (w1.alloc (.cells #[.int .i64 0,.int .i64 1,.slice none 0 0,.slice none 0 0,.slice none 0 0,.slice none 0 0,.slice none 0 0,.slice none 0 0,.slice none 0 0] 30)) w1.heap.size 30 Fe.arr:=Blk.new _ _ _
 have hzT:wp.heap.size≤w1.heap.size:=hx1.size
 have hx0:=hx1.tr hxT
 generalize hTT:w1.heap.size=T at hT0 hzT ⊢
 generalize (w1.alloc (.cells #[.int .i64 0,.int .i64 1,.slice none 0 0,.slice none 0 0,.slice none 0 0,.slice none 0 0,.slice none 0 0,.slice none 0 0,.slice none 0 0] 30))=w2 at hT0 hx0 ⊢
 clear hxT hx1 hTT
 have hO0:Ay wp.heap.size w2 Fe:=Ja _ _
 go_wp2
 go_loopw [8] (fun ki wr=>∃ t:Nat,t≤ln∧ki=.int .i64 t∧∃ sV:Aa,Ay wp.heap.size wr sV∧Fsm.DL t sV.data∧Blk wr T 30 sV.arr∧Ext Nothing wp wr) (fun ki _=>ln - (intOf ki).toNat)
 case atStart=>exact ⟨0,Nat.zero_le _,rfl,Fe,hO0,Fsm.Gg,hT0,hx0⟩
 case round =>
  obtain ⟨t,ht,rfl,sV,hO,hG,hT,hx⟩:=hrel
  clear hO0 hT0 hx0
  by_cases hlt:t < ln
  ·obtain ⟨hjn,b,off,hLe,hce⟩:=hlp.get hx hlt
   have hrd:=hrp _ (List.getElem_mem hjn)
   generalize l[t]=c at hce hrd
   subst hLe
   have hk0:(0:Int)≤(t:Int):=by omega
   have hk1:(t:Int) < ln:=by omega
   have HW:=Lib.hid (show wrap64 ((t:Int)+1)=(t:Int)+1 by unfold wrap64;omega)
   have HT:=Lib.hid hlt
   have HG:=Lib.hid hG
   have hbw:b < wp.heap.size:=by obtain ⟨q,hq⟩:=hlp.blk (show 0 < ln by omega);exact hq
   have HCE:=Lib.hid (show ∀ j u,c.arr.toList[j]? = some u→wr.cell? ⟨b,off+t*27+j,none⟩=some u from hce)
   clear hce hG hlt
   go_upto_region 5 with (first|go_skip|go_guarded)
   have hd:Ext Nothing wr wr.drew:=(Ext.refl _ _).drew
   refine zS (S:=fun W'=>Ext (fun q=>q=T) wr W') (by kernel_rfl) ?_
   have hS:=hd.any (S:=fun q=>q=T)
   generalize wr.drew=Wd at hd hS ⊢
   refine zV 1 (.int .i64 (t:Int)) rfl (by kernel_rfl) hS (fun _ _ _ h=>h) (fun W' hS'=>by go_simp) ?_
   refine zV 2 (.int .i64 (wrap64 ((t:Int)+1))) rfl (by kernel_rfl) hS (fun _ _ _ h=>h) (fun W' hS'=>by go_simp;rw [IntKind.wrap_i64];have:=HT.out;unfold wrap64;omega) ?_
   refine zV 3 (.slice (some ⟨b,off,none⟩) ln lc) rfl (by kernel_rfl) hS (fun _ _ _ h=>h) (fun W' hS'=>by go_simp) ?_
   refine zV 4 (.int .i64 (t:Int)) rfl (by kernel_rfl) hS (fun _ _ _ h=>h) (fun W' hS'=>by go_simp) ?_
   refine zV 5 (.pointer (some ⟨b,off+t*27,none⟩)) rfl (by kernel_rfl) hS (fun _ _ _ h=>h) (fun W' hS'=>by go_simp) ?_
   refine zV 6 (.agg c.arr) rfl (by kernel_rfl) hS (fun _ _ _ h=>h) (fun W' hS'=>by exact run_load_struct (sz:=27) (b:=b) (off:=off+t*27) rfl Ht (by go_simp) (fun j u hu=>hS'.cell (HCE.out j u hu) (fun e=>absurd (show b=T from e) (by omega))) rfl) ?_
   refine zV 7 (.agg (c.ent (wrap64 ((t:Int)+1)) 1)) rfl (by kernel_rfl) hS (fun _ _ _ h=>h) (fun W' hS'=>by go_simp) ?_
   (try simp only [Act.put,zA,zB,zC,zD,zE,zF])
   have hTq:=hT.e0 hd
   have hOq:=hO.Az hd
   have hxq:=hx.tr hd
   have hcq:=hrd.Qb hxq
   refine zO 0 (by kernel_rfl) ?_
   refine wpOp_val (v:=.agg sV.arr) (w':=Wd) rfl (by rfl) (by exact AC rfl Ai (by go_simp) hTq rfl) ⟨hS,?_⟩
   (try simp only [Act.put,zA,zB,zC,zD,zE,zF])
   refine zO 8 (by kernel_rfl) ?_
   refine Aj (f:=15) (args:=#[.agg sV.arr,.agg (c.ent (wrap64 ((t:Int)+1)) 1)]) rfl (by rfl) (by go_simp) ((Ck (base:=wp.heap.size) (t:=t) (w:=Wd) (s:=sV) (c:=c) (ix:=(wrap64 ((t:Int)+1))) 1 hOq HG.out hcq hrd.op (by have:=HT.out;omega) (by have:=HT.out;rw [HW.out];omega) (by rw [HW.out];omega)).mono ?_)
   rintro e w2 ⟨s2,r2,rv2,rfl,hO2,hF2,hres2,hx2⟩
   have hT2:=hTq.e0 hx2
   have hS2:=hS.trans hx2 (fun _ _ e=>e.elim)
   have HG2:=Lib.hid (show Fsm.DL (t+1) s2.data by have h9:=Fsm.Cn HG.out (by have:=HT.out;omega) hrd.I5;rw [← HW.out,hF2] at h9;exact h9)
   have HF2:=Lib.hid hF2
   clear hF2
   refine ⟨_,rfl,hS2,?_⟩
   (try simp only [Act.put,zA,zB,zC,zD,zE,zF])
   refine zO 9 (by kernel_rfl) ?_
   refine wpOp_val (v:=.tuple #[.agg s2.arr,.agg #[.int .i64 r2.code,.int .i64 r2.value,rv2]]) (w':=w2) rfl (by rfl) (by go_simp) ⟨hS2,?_⟩
   (try simp only [Act.put,zA,zB,zC,zD,zE,zF])
   refine zV 10 (.agg s2.arr) rfl (by kernel_rfl) hS2 (fun _ _ _ h=>h) (fun W' hS'=>by go_simp) ?_
   refine zV 11 (.agg #[.int .i64 r2.code,.int .i64 r2.value,rv2]) rfl (by kernel_rfl) hS2 (fun _ _ _ h=>h) (fun W' hS'=>by go_simp) ?_
   (try simp only [Act.put,zA,zB,zC,zD,zE,zF])
   refine zO 12 (by kernel_rfl) ?_
   refine Bq (p:=T) (cs:=s2.arr) rfl (by rfl) rfl (by go_simp) (by go_simp) hT2 rfl Ai rfl rfl (fun w5 hB5 hx5=>?_)
   have hS5:=hS2.trans hx5 (fun q hq e=>e)
   refine ⟨hS5,wpAnyH_done (by kernel_rfl) ?_ _⟩
   (try simp only [Act.put,zA,zB,zC,zD,zE,zF])
   have hO5:=(hO2.base hxq.size).keep hx5 (Apart.one hT2 (by decide))
   have hx5w:Ext Nothing wp w5:=hx.trans hS5 (fun b hb e=>absurd (show b=T from e) (by omega))
   clear hd hS hS2 hS5 hTq hOq hxq hcq hT2 hx2 hO2 hx5 hres2 hT hO hx
   obtain ⟨ql1,ql2,ql3,ql4,ql5,ql6,ql7⟩:=Dq HG2.out (show t+1≤1048576 by have:=HT.out;omega)
   have hnJ:s2.nJ≤1048576:=by have:=hO5.jl;have:=HT.out;omega
   have hnS:s2.nS≤1048576:=by have:=hO5.tl;have:=HT.out;omega
   have hnN:s2.nN≤1048576:=by have:=hO5.nl;have:=HT.out;omega
   have hnA:s2.nA≤64:=by have:=hO5.al;omega
   have hnE:s2.nE≤1048576:=by have:=hO5.el;have:=HT.out;omega
   have hnD:s2.nD≤1048576:=by have:=hO5.dl;have:=HT.out;omega
   clear ql1 ql2 ql3 ql4 ql5 ql6 ql7
   go_wp2
   go_roundw
   case rel=>exact ⟨t+1,HT.out,by go_num,s2,hO5,HG2.out,hB5,hx5w⟩
   case measure=>have:=HT.out;simp [intOf];omega
  have hnl:¬ ((t:Int) < ln):=by omega
  obtain rfl:ln=t:=by omega
  clear hlt ht
  obtain ⟨wS,rfl⟩ : ∃ z:World,z=wr:=⟨_,rfl⟩
  have HG:=Lib.hid hG
  have hP0:=hP.e0 hx
  have hOS:=hO
  have hTS:=hT
  have hxS:=hx
  clear hG hO hT hx hP
  obtain ⟨ql1,ql2,ql3,ql4,ql5,ql6,ql7⟩:=Dq HG.out (show ln≤1048576 by omega)
  have hmJ:sV.nJ≤1048576:=by have:=hOS.jl;omega
  have hmS:sV.nS≤1048576:=by have:=hOS.tl;omega
  have hmN:sV.nN≤1048576:=by have:=hOS.nl;omega
  have hmA:sV.nA≤64:=by have:=hOS.al;omega
  have hmE:sV.nE≤1048576:=by have:=hOS.el;omega
  have hmD:sV.nD≤1048576:=by have:=hOS.dl;omega
  clear ql1 ql2 ql3 ql4 ql5 ql6 ql7
  have hsl:=hOS.slN
  have hkN:sV.nN≤67108864:=by omega
  have p0:wS.cell? ⟨P,0,none⟩=some (.int .i64 x0):=hP0.cell 0
  rcases AR (fun y:NodD=>y.id == x0) sV.nodes with ⟨hi,hf,_⟩|⟨i,x,hi,hxi,_,hf,_⟩
  ·have HI:=Lib.hid hi
   have HF:=Lib.hid (show Fsm.nodeAt sV.data x0=none from hf)
   clear hi hf
   go_upto_region 7 with (first|go_skip|go_guarded|((with_reducible refine isW ?_);refine Ad rfl 30 _ rfl Ai T rfl sV.arr (show Blk _ _ 30 _ from hTS) rfl ?_)|(go_at_call 18;(with_reducible refine (Kl sV.AN sV.nN sV.cN sV.nodes x0 wS hsl hkN _ _ _ _ _ _ _ _).mono ?_);rintro e w6 ⟨rfl,hx6⟩;(rw [HI.out])))
   have hT6:=hTS.e0 hx6
   have hO6:=hOS.Az hx6
   have hP6:=hP0.e0 hx6
   have hx06:=hxS.tr hx6
   clear hTS hOS hP0 hxS hx6 hsl p0
   go_upto_region 8 with (first|go_skip|go_guarded|((with_reducible refine isW ?_);refine Ad rfl 30 _ rfl Ai T rfl sV.arr (show Blk _ _ 30 _ from hT6) rfl ?_)|((with_reducible refine isW ?_);refine Ad rfl 43 _ rfl Br P rfl #[.int .i64 x0,.int .i64 x1,.int .i64 x2,.bool x3,.bool x4,.int .i64 x5,.int .i64 x6,.int .i64 x7] (show Blk _ _ 43 _ from hP6) rfl ?_)|(go_at_call 15;(with_reducible refine (Ck (base:=wp.heap.size) (t:=ln) (w:=w6) (s:=sV) (c:=Cz 6 (⟨x0,⟨x1,x2⟩,x3,x4,x5,x6,x7⟩ : NodD) reports RA rn rc) (ix:=(ln:Int)+1) 1 hO6 HG.out (F9 6 (⟨x0,⟨x1,x2⟩,x3,x4,x5,x6,x7⟩ : NodD) rc HREP.out hrn hx06) (show (Lit.int .i64 6).wf=true by decide) (by omega) (by omega) (by omega)).mono ?_);rintro e w3 ⟨s7,r7,rv7,rfl,hO7,hF7,⟨RA7,rc7,rfl,hro7⟩,hx3⟩))
   have hal:Ext Nothing w3 ((w3.alloc (.cells s7.arr 30)).alloc (.cells #[.int .i64 r7.code,.int .i64 r7.value,.slice RA7 r7.allocs.length rc7] 34)):=Ext.Al
   have hT7:Blk ((w3.alloc (.cells s7.arr 30)).alloc (.cells #[.int .i64 r7.code,.int .i64 r7.value,.slice RA7 r7.allocs.length rc7] 34)) w3.heap.size 30 s7.arr:=(Blk.new w3 _ _).e0 Ext.Al
   have hE7:Blk ((w3.alloc (.cells s7.arr 30)).alloc (.cells #[.int .i64 r7.code,.int .i64 r7.value,.slice RA7 r7.allocs.length rc7] 34)) (w3.heap.size+1) 34 #[.int .i64 r7.code,.int .i64 r7.value,.slice RA7 r7.allocs.length rc7]:=Blk.new' _ _ _ (by simp)
   have hx7:Ext Nothing w6 ((w3.alloc (.cells s7.arr 30)).alloc (.cells #[.int .i64 r7.code,.int .i64 r7.value,.slice RA7 r7.allocs.length rc7] 34)):=hx3.tr hal
   replace hO7:=hO7.Az hal
   have hz3:=hx3.size
   clear hal hx3
   generalize w3.heap.size=TT7 at hT7 hE7 hz3 ⊢
   generalize ((w3.alloc (.cells s7.arr 30)).alloc (.cells #[.int .i64 r7.code,.int .i64 r7.value,.slice RA7 r7.allocs.length rc7] 34))=w7 at hT7 hE7 hx7 hO7 ⊢
   clear hz3 hro7
   have HS7:=Lib.hid (show Fsm.DL (ln+1) s7.data by have h9:=Fsm.Cn HG.out hn (c:=(Cz 6 (⟨x0,⟨x1,x2⟩,x3,x4,x5,x6,x7⟩ : NodD) reports RA rn rc).d) (by simp [Be.d]);rw [hF7] at h9;exact h9)
   have HR7:=Lib.hid (show (Fsm.stale sV.data (⟨x0,⟨x1,x2⟩,x3,x4,x5,x6,x7⟩ : NodD) ∨ ∃ h,Fsm.nodeAt sV.data x0=some h∧x7≤h.seq)→s7.data={ sV.data with index:=(ln:Int)+1 }∧(r7.code == 0)=false from fun h=>by have h9:=Fsm.IZ sV.data ((ln:Int)+1) (Cz 6 (⟨x0,⟨x1,x2⟩,x3,x4,x5,x6,x7⟩ : NodD) reports RA rn rc).d rfl h;rw [hF7] at h9;exact ⟨h9.1,by have h8:=h9.2;simpa using h8⟩)
   have hT17:=hT6.e0 hx7
   have hP17:=hP6.e0 hx7
   have hOO7:=hO6.Az hx7
   have hx017:=hx06.tr hx7
   clear hF7 hT6 hP6 hO6 hx06 hx7
   have hT0:=hT17
   have hP0:=hP17
   have hO0:=hOO7
   have hx00:=hx017
   clear hT17 hP17 hOO7 hx017
   obtain ⟨w0,rfl⟩ : ∃ z:World,z=w7:=⟨_,rfl⟩
   go_upto_region 9 with (first|go_skip|go_guarded|((with_reducible refine isW ?_);refine Ad rfl 30 _ rfl Ai T rfl sV.arr (show Blk _ _ 30 _ from hT0) rfl ?_)|((with_reducible refine isW ?_);refine Ad rfl 43 _ rfl Br P rfl #[.int .i64 x0,.int .i64 x1,.int .i64 x2,.bool x3,.bool x4,.int .i64 x5,.int .i64 x6,.int .i64 x7] (show Blk _ _ 43 _ from hP0) rfl ?_)|(go_at_call 15;(with_reducible refine (Ck (base:=wp.heap.size) (t:=ln) (w:=w0) (s:=sV) (c:=Cz 7 (⟨x0,⟨x1,x2⟩,x3,x4,x5,x6,x7⟩ : NodD) [] none 0 0) (ix:=(ln:Int)+1) 1 hO0 HG.out (F9 7 (⟨x0,⟨x1,x2⟩,x3,x4,x5,x6,x7⟩ : NodD) 0 (w:=wp) (Sl.nil _ _ _) (by omega) hx00) (show (Lit.int .i64 7).wf=true by decide) (by omega) (by omega) (by omega)).mono ?_);rintro e w3 ⟨s8,r8,rv8,rfl,hO8,hF8,⟨RA8,rc8,rfl,hro8⟩,hx3⟩))
   have hal:Ext Nothing w3 ((w3.alloc (.cells s8.arr 30)).alloc (.cells #[.int .i64 r8.code,.int .i64 r8.value,.slice RA8 r8.allocs.length rc8] 34)):=Ext.Al
   have hT8:Blk ((w3.alloc (.cells s8.arr 30)).alloc (.cells #[.int .i64 r8.code,.int .i64 r8.value,.slice RA8 r8.allocs.length rc8] 34)) w3.heap.size 30 s8.arr:=(Blk.new w3 _ _).e0 Ext.Al
   have hE8:Blk ((w3.alloc (.cells s8.arr 30)).alloc (.cells #[.int .i64 r8.code,.int .i64 r8.value,.slice RA8 r8.allocs.length rc8] 34)) (w3.heap.size+1) 34 #[.int .i64 r8.code,.int .i64 r8.value,.slice RA8 r8.allocs.length rc8]:=Blk.new' _ _ _ (by simp)
   have hx8:Ext Nothing w0 ((w3.alloc (.cells s8.arr 30)).alloc (.cells #[.int .i64 r8.code,.int .i64 r8.value,.slice RA8 r8.allocs.length rc8] 34)):=hx3.tr hal
   replace hO8:=hO8.Az hal
   have hz3:=hx3.size
   clear hal hx3
   generalize w3.heap.size=TT8 at hT8 hE8 hz3 ⊢
   generalize ((w3.alloc (.cells s8.arr 30)).alloc (.cells #[.int .i64 r8.code,.int .i64 r8.value,.slice RA8 r8.allocs.length rc8] 34))=w8 at hT8 hE8 hx8 hO8 ⊢
   clear hz3 hro8
   have HS8:=Lib.hid (show Fsm.DL (ln+1) s8.data by have h9:=Fsm.Cn HG.out hn (c:=(Cz 7 (⟨x0,⟨x1,x2⟩,x3,x4,x5,x6,x7⟩ : NodD) [] none 0 0).d) (by simp [Be.d]);rw [hF8] at h9;exact h9)
   have HR8:=Lib.hid (show (Fsm.stale sV.data (⟨x0,⟨x1,x2⟩,x3,x4,x5,x6,x7⟩ : NodD) ∨ ∃ h,Fsm.nodeAt sV.data x0=some h∧x7 ≠ h.seq)→s8.data={ sV.data with index:=(ln:Int)+1 }∧(r8.code == 0)=false from fun h=>by have h9:=Fsm.Iy sV.data ((ln:Int)+1) (Cz 7 (⟨x0,⟨x1,x2⟩,x3,x4,x5,x6,x7⟩ : NodD) [] none 0 0).d rfl h;rw [hF8] at h9;exact ⟨h9.1,by have h8:=h9.2;simpa using h8⟩)
   have hT18:=hT0.e0 hx8
   have hP18:=hP0.e0 hx8
   have hOO8:=hO0.Az hx8
   have hx018:=hx00.tr hx8
   have hT70:=hT7.e0 hx8
   have hE70:=hE7.e0 hx8
   have hO70:=hO7.Az hx8
   clear hF8 hT0 hP0 hO0 hx00 hT7 hE7 hO7 hx8
   go_upto_region 10 with (first|go_skip|go_guarded|((with_reducible refine isW ?_);refine Ad rfl 30 _ rfl Ai T rfl sV.arr (show Blk _ _ 30 _ from hT18) rfl ?_))
   have hal:Ext Nothing w8 (w8.alloc (.cells sV.arr 30)):=Ext.Al
   have hV0:Blk (w8.alloc (.cells sV.arr 30)) w8.heap.size 30 sV.arr:=Blk.new _ _ _
   generalize hVe:w8.heap.size=V at hV0 ⊢
   have HVE:=Lib.hid hVe
   clear hVe
   generalize (w8.alloc (.cells sV.arr 30))=wv at hV0 hal ⊢
   have v0:wv.cell? ⟨V,0,none⟩=some (.int .i64 sV.index):=hV0.cell 0
   have v0f:wv.frozen? ⟨V,0,none⟩=false:=hV0.frozen 0
   go_upto_region 11 with (first|go_skip|go_guarded)
   have hs:Ext (fun q=>q=V) wv (wv.setCell ⟨V,0,none⟩ (.int .i64 ((ln:Int)+1))):=Ext.set1 _ _ _ _
   have hV:Blk (wv.setCell ⟨V,0,none⟩ (.int .i64 ((ln:Int)+1))) V 30 ({ sV with index:=((ln:Int)+1) }:Aa).arr:=hV0.Bi 0 _
   have hx9w:=hal.trans hs (fun q hq e=>absurd (show q=V from e) (by have h9:q < w8.heap.size:=hq;have:=HVE.out;omega))
   have hTx:=hT18.e0 hx9w
   have hPx:=hP18.e0 hx9w
   have hOx:=hOO8.Az hx9w
   have hx0x:=hx018.tr hx9w
   have hT7x:=hT70.e0 hx9w
   have hE7x:=hE70.e0 hx9w
   have hO7x:=hO70.Az hx9w
   have hT8x:=hT8.e0 hx9w
   have hE8x:=hE8.e0 hx9w
   have hO8x:=hO8.Az hx9w
   clear hs hal hV0 v0 v0f hT18 hP18 hOO8 hx018 hT70 hE70 hO70 hT8 hE8 hO8 hx9w HVE
   generalize (wv.setCell ⟨V,0,none⟩ (.int .i64 ((ln:Int)+1)))=wx at hV hTx hPx hOx hx0x hT7x hE7x hO7x hT8x hE8x hO8x ⊢
   have HL7:=Lib.hid (Cv hO7x HS7.out (by omega))
   have HL8:=Lib.hid (Cv hO8x HS8.out (by omega))
   have HLV:=Lib.hid (H6 hOx HG.out hn ((ln:Int)+1))
   go_upto_region 12 with (first|go_skip|go_guarded|((with_reducible refine isW ?_);refine Ad rfl 30 _ rfl Ai TT7 rfl s7.arr (show Blk _ _ 30 _ from hT7x) rfl ?_)|((with_reducible refine isW ?_);refine Ad rfl 30 _ rfl Ai V rfl ({ sV with index:=((ln:Int)+1) }:Aa).arr (show Blk _ _ 30 _ from hV) rfl ?_)|(go_at_call 20;(with_reducible refine (Gt s7 { sV with index:=((ln:Int)+1) } wx HL7.out HLV.out).mono ?_);rintro e wy ⟨q1,rfl,hq1,hxy⟩))
   have HQ1:=Lib.hid hq1
   have hVy:=hV.e0 hxy
   have hTy:=hTx.e0 hxy
   have hPy:=hPx.e0 hxy
   have hOy:=hOx.Az hxy
   have hx0y:=hx0x.tr hxy
   have hE7y:=hE7x.e0 hxy
   have hT8y:=hT8x.e0 hxy
   have hE8y:=hE8x.e0 hxy
   have HL8y:=Lib.hid (HL8.out.Am hxy)
   have HLVy:=Lib.hid (HLV.out.Am hxy)
   clear hq1 hV hTx hPx hOx hx0x hT7x hE7x hO7x hT8x hE8x hO8x hxy HL7 HL8 HLV
   go_upto_region 13 with (first|go_skip|go_guarded|((with_reducible refine isW ?_);refine Ad rfl 30 _ rfl Ai TT8 rfl s8.arr (show Blk _ _ 30 _ from hT8y) rfl ?_)|((with_reducible refine isW ?_);refine Ad rfl 30 _ rfl Ai V rfl ({ sV with index:=((ln:Int)+1) }:Aa).arr (show Blk _ _ 30 _ from hVy) rfl ?_)|(go_at_call 20;(with_reducible refine (Gt s8 { sV with index:=((ln:Int)+1) } wy HL8y.out HLVy.out).mono ?_);rintro e wz ⟨q2,rfl,hq2,hxz⟩))
   have HQ2:=Lib.hid hq2
   have hTz:=hTy.e0 hxz
   have hPz:=hPy.e0 hxz
   have hOz:=hOy.Az hxz
   have hx0z:=hx0y.tr hxz
   have hE7z:=hE7y.e0 hxz
   have hE8z:=hE8y.e0 hxz
   clear hq2 hVy hTy hPy hOy hx0y hE7y hT8y hE8y hxz HL8y HLVy
   have HK7:=Lib.hid (show (Fsm.stale sV.data (⟨x0,⟨x1,x2⟩,x3,x4,x5,x6,x7⟩ : NodD) ∨ ∃ h,Fsm.nodeAt sV.data x0=some h∧x7≤h.seq)→q1=true∧(r7.code == 0)=false from fun h=>⟨HQ1.out (Dv (by rw [(HR7.out h).1];rfl)),(HR7.out h).2⟩)
   have HK8:=Lib.hid (show (Fsm.stale sV.data (⟨x0,⟨x1,x2⟩,x3,x4,x5,x6,x7⟩ : NodD) ∨ ∃ h,Fsm.nodeAt sV.data x0=some h∧x7 ≠ h.seq)→q2=true∧(r8.code == 0)=false from fun h=>⟨HQ2.out (Dv (by rw [(HR8.out h).1];rfl)),(HR8.out h).2⟩)
   clear HQ1 HQ2 HR7 HR8 HS7 HS8
   have hcut0:=HK7.out (.inl (.inl HF.out))
   have hcut1:=HK8.out (.inl (.inl HF.out))
   obtain ⟨rfl,c7⟩:=hcut0
   obtain ⟨rfl,c8⟩:=hcut1
   have C7:=Lib.hid c7
   have C8:=Lib.hid c8
   clear c7 c8
   go_cut [17] from 75 to 96 (fun e wx=>e=.bool true∧Ext Nothing wz wx)
   case first =>
    have d:decide ((-1:Int) < 0)=true:=by decide
    go_quiet (fail)
    go_wp2
    go_meet
    exact ⟨rfl,Ext.Al⟩
   case rest =>
    obtain ⟨rfl,hxa⟩:=hcut
    have hE7a:=hE7z.e0 hxa
    have hE8a:=hE8z.e0 hxa
    have hx0a:=hx0z.tr hxa
    obtain ⟨wa,rfl⟩ : ∃ z:World,z=wc:=⟨_,rfl⟩
    clear hTz hPz hOz hx0z hE7z hE8z hxa
    go_upto_region 14 with fail
    go_cut [117] from 97 to 117 (fun e wx=>e=.bool false∧Ext Nothing wa wx)
    case first =>
     have z0:wa.cell? ⟨TT7+1,0,none⟩=some (.int .i64 r7.code):=hE7a.cell 0
     have c7:=C7.out
     clear hE7a hE8a
     go_quiet (fail)
     go_wp2
     go_meet
     exact ⟨rfl,Ext.Al⟩
    case rest =>
     obtain ⟨rfl,hxb⟩:=hcut
     have hE8b:=hE8a.e0 hxb
     have hx0b:=hx0a.tr hxb
     obtain ⟨wb,rfl⟩ : ∃ z:World,z=wc:=⟨_,rfl⟩
     clear hE7a hE8a hx0a hxb
     go_upto_region 16 with (first|go_skip|go_guarded)
     go_cut [138] from 118 to 138 (fun e wx=>e=.bool false∧Ext Nothing wb wx)
     case first =>
      have z0:wb.cell? ⟨TT8+1,0,none⟩=some (.int .i64 r8.code):=hE8b.cell 0
      have c8:=C8.out
      clear hE8b
      go_quiet (fail)
      go_wp2
      go_meet
      exact ⟨rfl,Ext.Al⟩
     case rest =>
      obtain ⟨rfl,hxc⟩:=hcut
      have hx0c:=hx0b.tr hxc
      clear hE8b hx0b hxc
      go_wp2_with (first|go_skip|go_guarded|(go_at_call 17;(with_reducible refine (KD _).mono ?_);rintro e w9 ⟨rfl,hx9⟩))
      go_ret
      exact ⟨rfl,(hxP.tr hx0c).tr hx9⟩
  have HI:=Lib.hid hi
  have HF:=Lib.hid (show Fsm.nodeAt sV.data x0=some x from hf)
  have HXI:=Lib.hid hxi
  clear hxi
  clear hi hf
  go_upto_region 7 with (first|go_skip|go_guarded|((with_reducible refine isW ?_);refine Ad rfl 30 _ rfl Ai T rfl sV.arr (show Blk _ _ 30 _ from hTS) rfl ?_)|(go_at_call 18;(with_reducible refine (Kl sV.AN sV.nN sV.cN sV.nodes x0 wS hsl hkN _ _ _ _ _ _ _ _).mono ?_);rintro e w6 ⟨rfl,hx6⟩;(rw [HI.out])))
  have hT6:=hTS.e0 hx6
  have hO6:=hOS.Az hx6
  have hP6:=hP0.e0 hx6
  have hx06:=hxS.tr hx6
  clear hTS hOS hP0 hxS hx6 hsl p0
  go_upto_region 8 with (first|go_skip|go_guarded|((with_reducible refine isW ?_);refine Ad rfl 30 _ rfl Ai T rfl sV.arr (show Blk _ _ 30 _ from hT6) rfl ?_)|((with_reducible refine isW ?_);refine Ad rfl 43 _ rfl Br P rfl #[.int .i64 x0,.int .i64 x1,.int .i64 x2,.bool x3,.bool x4,.int .i64 x5,.int .i64 x6,.int .i64 x7] (show Blk _ _ 43 _ from hP6) rfl ?_)|(go_at_call 15;(with_reducible refine (Ck (base:=wp.heap.size) (t:=ln) (w:=w6) (s:=sV) (c:=Cz 6 (⟨x0,⟨x1,x2⟩,x3,x4,x5,x6,x7⟩ : NodD) reports RA rn rc) (ix:=(ln:Int)+1) 1 hO6 HG.out (F9 6 (⟨x0,⟨x1,x2⟩,x3,x4,x5,x6,x7⟩ : NodD) rc HREP.out hrn hx06) (show (Lit.int .i64 6).wf=true by decide) (by omega) (by omega) (by omega)).mono ?_);rintro e w3 ⟨s7,r7,rv7,rfl,hO7,hF7,⟨RA7,rc7,rfl,hro7⟩,hx3⟩))
  have hal:Ext Nothing w3 ((w3.alloc (.cells s7.arr 30)).alloc (.cells #[.int .i64 r7.code,.int .i64 r7.value,.slice RA7 r7.allocs.length rc7] 34)):=Ext.Al
  have hT7:Blk ((w3.alloc (.cells s7.arr 30)).alloc (.cells #[.int .i64 r7.code,.int .i64 r7.value,.slice RA7 r7.allocs.length rc7] 34)) w3.heap.size 30 s7.arr:=(Blk.new w3 _ _).e0 Ext.Al
  have hE7:Blk ((w3.alloc (.cells s7.arr 30)).alloc (.cells #[.int .i64 r7.code,.int .i64 r7.value,.slice RA7 r7.allocs.length rc7] 34)) (w3.heap.size+1) 34 #[.int .i64 r7.code,.int .i64 r7.value,.slice RA7 r7.allocs.length rc7]:=Blk.new' _ _ _ (by simp)
  have hx7:Ext Nothing w6 ((w3.alloc (.cells s7.arr 30)).alloc (.cells #[.int .i64 r7.code,.int .i64 r7.value,.slice RA7 r7.allocs.length rc7] 34)):=hx3.tr hal
  replace hO7:=hO7.Az hal
  have hz3:=hx3.size
  clear hal hx3
  generalize w3.heap.size=TT7 at hT7 hE7 hz3 ⊢
  generalize ((w3.alloc (.cells s7.arr 30)).alloc (.cells #[.int .i64 r7.code,.int .i64 r7.value,.slice RA7 r7.allocs.length rc7] 34))=w7 at hT7 hE7 hx7 hO7 ⊢
  clear hz3 hro7
  have HS7:=Lib.hid (show Fsm.DL (ln+1) s7.data by have h9:=Fsm.Cn HG.out hn (c:=(Cz 6 (⟨x0,⟨x1,x2⟩,x3,x4,x5,x6,x7⟩ : NodD) reports RA rn rc).d) (by simp [Be.d]);rw [hF7] at h9;exact h9)
  have HR7:=Lib.hid (show (Fsm.stale sV.data (⟨x0,⟨x1,x2⟩,x3,x4,x5,x6,x7⟩ : NodD) ∨ ∃ h,Fsm.nodeAt sV.data x0=some h∧x7≤h.seq)→s7.data={ sV.data with index:=(ln:Int)+1 }∧(r7.code == 0)=false from fun h=>by have h9:=Fsm.IZ sV.data ((ln:Int)+1) (Cz 6 (⟨x0,⟨x1,x2⟩,x3,x4,x5,x6,x7⟩ : NodD) reports RA rn rc).d rfl h;rw [hF7] at h9;exact ⟨h9.1,by have h8:=h9.2;simpa using h8⟩)
  have hT17:=hT6.e0 hx7
  have hP17:=hP6.e0 hx7
  have hOO7:=hO6.Az hx7
  have hx017:=hx06.tr hx7
  clear hF7 hT6 hP6 hO6 hx06 hx7
  have hT0:=hT17
  have hP0:=hP17
  have hO0:=hOO7
  have hx00:=hx017
  clear hT17 hP17 hOO7 hx017
  obtain ⟨w0,rfl⟩ : ∃ z:World,z=w7:=⟨_,rfl⟩
  go_upto_region 9 with (first|go_skip|go_guarded|((with_reducible refine isW ?_);refine Ad rfl 30 _ rfl Ai T rfl sV.arr (show Blk _ _ 30 _ from hT0) rfl ?_)|((with_reducible refine isW ?_);refine Ad rfl 43 _ rfl Br P rfl #[.int .i64 x0,.int .i64 x1,.int .i64 x2,.bool x3,.bool x4,.int .i64 x5,.int .i64 x6,.int .i64 x7] (show Blk _ _ 43 _ from hP0) rfl ?_)|(go_at_call 15;(with_reducible refine (Ck (base:=wp.heap.size) (t:=ln) (w:=w0) (s:=sV) (c:=Cz 7 (⟨x0,⟨x1,x2⟩,x3,x4,x5,x6,x7⟩ : NodD) [] none 0 0) (ix:=(ln:Int)+1) 1 hO0 HG.out (F9 7 (⟨x0,⟨x1,x2⟩,x3,x4,x5,x6,x7⟩ : NodD) 0 (w:=wp) (Sl.nil _ _ _) (by omega) hx00) (show (Lit.int .i64 7).wf=true by decide) (by omega) (by omega) (by omega)).mono ?_);rintro e w3 ⟨s8,r8,rv8,rfl,hO8,hF8,⟨RA8,rc8,rfl,hro8⟩,hx3⟩))
  have hal:Ext Nothing w3 ((w3.alloc (.cells s8.arr 30)).alloc (.cells #[.int .i64 r8.code,.int .i64 r8.value,.slice RA8 r8.allocs.length rc8] 34)):=Ext.Al
  have hT8:Blk ((w3.alloc (.cells s8.arr 30)).alloc (.cells #[.int .i64 r8.code,.int .i64 r8.value,.slice RA8 r8.allocs.length rc8] 34)) w3.heap.size 30 s8.arr:=(Blk.new w3 _ _).e0 Ext.Al
  have hE8:Blk ((w3.alloc (.cells s8.arr 30)).alloc (.cells #[.int .i64 r8.code,.int .i64 r8.value,.slice RA8 r8.allocs.length rc8] 34)) (w3.heap.size+1) 34 #[.int .i64 r8.code,.int .i64 r8.value,.slice RA8 r8.allocs.length rc8]:=Blk.new' _ _ _ (by simp)
  have hx8:Ext Nothing w0 ((w3.alloc (.cells s8.arr 30)).alloc (.cells #[.int .i64 r8.code,.int .i64 r8.value,.slice RA8 r8.allocs.length rc8] 34)):=hx3.tr hal
  replace hO8:=hO8.Az hal
  have hz3:=hx3.size
  clear hal hx3
  generalize w3.heap.size=TT8 at hT8 hE8 hz3 ⊢
  generalize ((w3.alloc (.cells s8.arr 30)).alloc (.cells #[.int .i64 r8.code,.int .i64 r8.value,.slice RA8 r8.allocs.length rc8] 34))=w8 at hT8 hE8 hx8 hO8 ⊢
  clear hz3 hro8
  have HS8:=Lib.hid (show Fsm.DL (ln+1) s8.data by have h9:=Fsm.Cn HG.out hn (c:=(Cz 7 (⟨x0,⟨x1,x2⟩,x3,x4,x5,x6,x7⟩ : NodD) [] none 0 0).d) (by simp [Be.d]);rw [hF8] at h9;exact h9)
  have HR8:=Lib.hid (show (Fsm.stale sV.data (⟨x0,⟨x1,x2⟩,x3,x4,x5,x6,x7⟩ : NodD) ∨ ∃ h,Fsm.nodeAt sV.data x0=some h∧x7 ≠ h.seq)→s8.data={ sV.data with index:=(ln:Int)+1 }∧(r8.code == 0)=false from fun h=>by have h9:=Fsm.Iy sV.data ((ln:Int)+1) (Cz 7 (⟨x0,⟨x1,x2⟩,x3,x4,x5,x6,x7⟩ : NodD) [] none 0 0).d rfl h;rw [hF8] at h9;exact ⟨h9.1,by have h8:=h9.2;simpa using h8⟩)
  have hT18:=hT0.e0 hx8
  have hP18:=hP0.e0 hx8
  have hOO8:=hO0.Az hx8
  have hx018:=hx00.tr hx8
  have hT70:=hT7.e0 hx8
  have hE70:=hE7.e0 hx8
  have hO70:=hO7.Az hx8
  clear hF8 hT0 hP0 hO0 hx00 hT7 hE7 hO7 hx8
  go_upto_region 10 with (first|go_skip|go_guarded|((with_reducible refine isW ?_);refine Ad rfl 30 _ rfl Ai T rfl sV.arr (show Blk _ _ 30 _ from hT18) rfl ?_))
  have hal:Ext Nothing w8 (w8.alloc (.cells sV.arr 30)):=Ext.Al
  have hV0:Blk (w8.alloc (.cells sV.arr 30)) w8.heap.size 30 sV.arr:=Blk.new _ _ _
  generalize hVe:w8.heap.size=V at hV0 ⊢
  have HVE:=Lib.hid hVe
  clear hVe
  generalize (w8.alloc (.cells sV.arr 30))=wv at hV0 hal ⊢
  have v0:wv.cell? ⟨V,0,none⟩=some (.int .i64 sV.index):=hV0.cell 0
  have v0f:wv.frozen? ⟨V,0,none⟩=false:=hV0.frozen 0
  go_upto_region 11 with (first|go_skip|go_guarded)
  have hs:Ext (fun q=>q=V) wv (wv.setCell ⟨V,0,none⟩ (.int .i64 ((ln:Int)+1))):=Ext.set1 _ _ _ _
  have hV:Blk (wv.setCell ⟨V,0,none⟩ (.int .i64 ((ln:Int)+1))) V 30 ({ sV with index:=((ln:Int)+1) }:Aa).arr:=hV0.Bi 0 _
  have hx9w:=hal.trans hs (fun q hq e=>absurd (show q=V from e) (by have h9:q < w8.heap.size:=hq;have:=HVE.out;omega))
  have hTx:=hT18.e0 hx9w
  have hPx:=hP18.e0 hx9w
  have hOx:=hOO8.Az hx9w
  have hx0x:=hx018.tr hx9w
  have hT7x:=hT70.e0 hx9w
  have hE7x:=hE70.e0 hx9w
  have hO7x:=hO70.Az hx9w
  have hT8x:=hT8.e0 hx9w
  have hE8x:=hE8.e0 hx9w
  have hO8x:=hO8.Az hx9w
  clear hs hal hV0 v0 v0f hT18 hP18 hOO8 hx018 hT70 hE70 hO70 hT8 hE8 hO8 hx9w HVE
  generalize (wv.setCell ⟨V,0,none⟩ (.int .i64 ((ln:Int)+1)))=wx at hV hTx hPx hOx hx0x hT7x hE7x hO7x hT8x hE8x hO8x ⊢
  have HL7:=Lib.hid (Cv hO7x HS7.out (by omega))
  have HL8:=Lib.hid (Cv hO8x HS8.out (by omega))
  have HLV:=Lib.hid (H6 hOx HG.out hn ((ln:Int)+1))
  go_upto_region 12 with (first|go_skip|go_guarded|((with_reducible refine isW ?_);refine Ad rfl 30 _ rfl Ai TT7 rfl s7.arr (show Blk _ _ 30 _ from hT7x) rfl ?_)|((with_reducible refine isW ?_);refine Ad rfl 30 _ rfl Ai V rfl ({ sV with index:=((ln:Int)+1) }:Aa).arr (show Blk _ _ 30 _ from hV) rfl ?_)|(go_at_call 20;(with_reducible refine (Gt s7 { sV with index:=((ln:Int)+1) } wx HL7.out HLV.out).mono ?_);rintro e wy ⟨q1,rfl,hq1,hxy⟩))
  have HQ1:=Lib.hid hq1
  have hVy:=hV.e0 hxy
  have hTy:=hTx.e0 hxy
  have hPy:=hPx.e0 hxy
  have hOy:=hOx.Az hxy
  have hx0y:=hx0x.tr hxy
  have hE7y:=hE7x.e0 hxy
  have hT8y:=hT8x.e0 hxy
  have hE8y:=hE8x.e0 hxy
  have HL8y:=Lib.hid (HL8.out.Am hxy)
  have HLVy:=Lib.hid (HLV.out.Am hxy)
  clear hq1 hV hTx hPx hOx hx0x hT7x hE7x hO7x hT8x hE8x hO8x hxy HL7 HL8 HLV
  go_upto_region 13 with (first|go_skip|go_guarded|((with_reducible refine isW ?_);refine Ad rfl 30 _ rfl Ai TT8 rfl s8.arr (show Blk _ _ 30 _ from hT8y) rfl ?_)|((with_reducible refine isW ?_);refine Ad rfl 30 _ rfl Ai V rfl ({ sV with index:=((ln:Int)+1) }:Aa).arr (show Blk _ _ 30 _ from hVy) rfl ?_)|(go_at_call 20;(with_reducible refine (Gt s8 { sV with index:=((ln:Int)+1) } wy HL8y.out HLVy.out).mono ?_);rintro e wz ⟨q2,rfl,hq2,hxz⟩))
  have HQ2:=Lib.hid hq2
  have hTz:=hTy.e0 hxz
  have hPz:=hPy.e0 hxz
  have hOz:=hOy.Az hxz
  have hx0z:=hx0y.tr hxz
  have hE7z:=hE7y.e0 hxz
  have hE8z:=hE8y.e0 hxz
  clear hq2 hVy hTy hPy hOy hx0y hE7y hT8y hE8y hxz HL8y HLVy
  have HK7:=Lib.hid (show (Fsm.stale sV.data (⟨x0,⟨x1,x2⟩,x3,x4,x5,x6,x7⟩ : NodD) ∨ ∃ h,Fsm.nodeAt sV.data x0=some h∧x7≤h.seq)→q1=true∧(r7.code == 0)=false from fun h=>⟨HQ1.out (Dv (by rw [(HR7.out h).1];rfl)),(HR7.out h).2⟩)
  have HK8:=Lib.hid (show (Fsm.stale sV.data (⟨x0,⟨x1,x2⟩,x3,x4,x5,x6,x7⟩ : NodD) ∨ ∃ h,Fsm.nodeAt sV.data x0=some h∧x7 ≠ h.seq)→q2=true∧(r8.code == 0)=false from fun h=>⟨HQ2.out (Dv (by rw [(HR8.out h).1];rfl)),(HR8.out h).2⟩)
  clear HQ1 HQ2 HR7 HR8 HS7 HS8
  have hli:i < sV.nN:=by rw [hOz.nl];exact (List.getElem?_eq_some_iff.1 HXI.out).1
  obtain ⟨hjn,g,offa,hAe,hce⟩:=hOz.slN.get (Ext.refl _ _) hli
  rw [(List.getElem?_eq_some_iff.1 HXI.out).2] at hce
  obtain ⟨y0,⟨y1,y2⟩,y3,y4,y5,y6,y7⟩:=x
  have m4:wz.cell? ⟨T,4,none⟩=some (.slice (some ⟨g,offa,none⟩) sV.nN sV.cN):=by rw [← hAe];exact hTz.cell 4
  have a3:wz.cell? ⟨g,offa+i*8+3,none⟩=some (.bool y3):=hce 3 _ rfl
  have a6:wz.cell? ⟨g,offa+i*8+6,none⟩=some (.int .i64 y6):=hce 6 _ rfl
  have a7:wz.cell? ⟨g,offa+i*8+7,none⟩=some (.int .i64 y7):=hce 7 _ rfl
  have p6:wz.cell? ⟨P,6,none⟩=some (.int .i64 x6):=hPz.cell 6
  have p7:wz.cell? ⟨P,7,none⟩=some (.int .i64 x7):=hPz.cell 7
  have z7:wz.cell? ⟨TT7+1,0,none⟩=some (.int .i64 r7.code):=hE7z.cell 0
  have z8:wz.cell? ⟨TT8+1,0,none⟩=some (.int .i64 r8.code):=hE8z.cell 0
  have hi0:(0:Int)≤(i:Int):=by omega
  have hi1:(i:Int) < sV.nN:=by omega
  have hid:decide ((i:Int) < 0)=false:=by simp
  have HK7:=Lib.hid (show ((!y3 || (y6 != x6)) || decide (x7≤y7))=true→q1=true∧(r7.code == 0)=false from fun h=>HK7.out (by simp at h;rcases h with (h|h)|h;(exact .inl (.inr ⟨_,HF.out,.inl h⟩));(exact .inl (.inr ⟨_,HF.out,.inr h⟩));exact .inr ⟨_,HF.out,h⟩))
  have HK8:=Lib.hid (show ((!y3 || (y6 != x6)) || (x7 != y7))=true→q2=true∧(r8.code == 0)=false from fun h=>HK8.out (by simp at h;rcases h with (h|h)|h;(exact .inl (.inr ⟨_,HF.out,.inl h⟩));(exact .inl (.inr ⟨_,HF.out,.inr h⟩));exact .inr ⟨_,HF.out,h⟩))
  clear hAe hce hli hjn hTz hPz hOz hE7z hE8z HXI
  go_cut [17] from 75 to 96 (fun e wx=>e=.bool (!y3 || (y6 != x6))∧Ext Nothing wz wx)
  case first =>
   clear z7 z8 a7 p7
   cases y3 with
   | false=>(go_quiet (fail);go_wp2;go_meet;exact ⟨rfl,Ext.Al⟩)
   | true =>
    cases v6:(y6 != x6) with
    | false=>(go_quiet (fail);go_wp2;go_meet;exact ⟨by simp [v6],Ext.Al⟩)
    | true=>(go_quiet (fail);go_wp2;go_meet;exact ⟨by simp [v6],Ext.Al⟩)
  case rest =>
   obtain ⟨rfl,hxa⟩:=hcut
   replace m4:=hxa.c0 m4
   replace a7:=hxa.c0 a7
   replace p7:=hxa.c0 p7
   replace z7:=hxa.c0 z7
   replace z8:=hxa.c0 z8
   have hx0a:=hx0z.tr hxa
   obtain ⟨wa,rfl⟩ : ∃ z:World,z=wc:=⟨_,rfl⟩
   clear a3 a6 p6 hx0z hxa
   generalize (!y3 || (y6 != x6))=st at HK7 HK8 ⊢
   go_upto_region 14 with fail
   go_cut [117] from 97 to 117 (fun e wx=>e=.bool false∧Ext Nothing wa wx)
   case first =>
    clear z8
    cases st with
    | true =>
     obtain ⟨rfl,c7⟩:=HK7.out rfl
     (go_quiet (fail);go_wp2;go_meet;exact ⟨rfl,Ext.Al⟩)
    | false =>
     cases v7:decide (x7≤y7) with
     | true =>
      obtain ⟨rfl,c7⟩:=HK7.out (by simp [v7])
      (go_quiet (fail);go_wp2;go_meet;exact ⟨rfl,Ext.Al⟩)
     | false =>
      cases q1 <;> (go_quiet (fail);go_wp2;go_meet;exact ⟨rfl,Ext.Al⟩)
   case rest =>
    obtain ⟨rfl,hxb⟩:=hcut
    replace m4:=hxb.c0 m4
    replace a7:=hxb.c0 a7
    replace p7:=hxb.c0 p7
    replace z8:=hxb.c0 z8
    have hx0b:=hx0a.tr hxb
    obtain ⟨wb,rfl⟩ : ∃ z:World,z=wc:=⟨_,rfl⟩
    clear z7 hx0a hxb HK7
    go_upto_region 16 with (first|go_skip|go_guarded)
    go_cut [138] from 118 to 138 (fun e wx=>e=.bool false∧Ext Nothing wb wx)
    case first =>
     cases st with
     | true =>
      obtain ⟨rfl,c8⟩:=HK8.out rfl
      (go_quiet (fail);go_wp2;go_meet;exact ⟨rfl,Ext.Al⟩)
     | false =>
      cases v7:(x7 != y7) with
      | true =>
       obtain ⟨rfl,c8⟩:=HK8.out (by simp [v7])
       (go_quiet (fail);go_wp2;go_meet;exact ⟨rfl,Ext.Al⟩)
      | false =>
       cases q2 <;> (go_quiet (fail);go_wp2;go_meet;exact ⟨rfl,Ext.Al⟩)
    case rest =>
     obtain ⟨rfl,hxc⟩:=hcut
     have hx0c:=hx0b.tr hxc
     clear hx0b hxc m4 a7 p7 z8
     go_wp2_with (first|go_skip|go_guarded|(go_at_call 17;(with_reducible refine (KD _).mono ?_);rintro e w9 ⟨rfl,hx9⟩))
     go_ret
     exact ⟨rfl,(hxP.tr hx0c).tr hx9⟩
end Go.Proofs.YtccekmeifanipaaGreat
