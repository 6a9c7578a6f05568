/- Parts of the proof: Reverts -/
import Derived.Test.YtccekmeifanipaaGreatR36
import Derived.Test.YtccekmeifanipaaGreatR39
import Derived.Test.YtccekmeifanipaaGreatR42
import Derived.Test.YtccekmeifanipaaGreatR13
namespace Go.Proofs.YtccekmeifanipaaGreat
set_option linter.unusedVariables false
set_option linter.unusedSimpArgs false
set_option linter.unusedSectionVars false
open Go.RowKit
abbrev Ex (id ver:Int):AP:=⟨10,0,0,⟨id,0,0,0,[],ver,false⟩,none,0,0,⟨0,⟨0,0⟩,false,false,0,0,0⟩,[],none,0,0,0,0,0,[],none,0,0,[],none,0,0,false,.slice none 0 0,.slice none 0 0⟩
theorem Lf (id ver:Int) (w:World):DZ w.heap.size w (Ex id ver):=⟨Sl.nil _ _ _,by simp,by simp,Sl.nil _ _ _,by simp,by simp,Sl.nil _ _ _,by simp,by simp,Sl.nil _ _ _,by simp,by simp,rfl,rfl⟩
theorem L9 {LA:Option Addr} {ln:Nat} {l:List AP} {w:World} (hl:Sl w 27 LA ln (l.map AP.cells)) (hr:∀ c∈l,c.Read w) (hn:ln≤1048576):∀ t,t≤ln→Fsm.EA t (Fsm.Dn (l.map AP.d) t):=fun t ht=>by
 have hL:ln=l.length:=by have h9:=hl.len;simpa using h9
 refine Fsm.H5 (l:=l.map AP.d) (P:=Fsm.EA) Fsm.Ik (fun t s c ht hc hp=>?_) t (by simp;omega)
 obtain ⟨x,hx,rfl⟩:=List.mem_map.1 hc
 have ht:t < (l.map AP.d).length:=ht
 exact Fsm.GM hp (by simp at ht;omega) (hr x hx).EI
theorem GH {LA:Option Addr} {ln:Nat} {l:List AP} {w:World} (hl:Sl w 27 LA ln (l.map AP.cells)) (hr:∀ c∈l,c.Read w) (hn:ln≤1048576):Fsm.EA ln (Fsm.Dn (l.map AP.d) ln):=L9 hl hr hn ln (Nat.le_refl _)
theorem Nj {LA:Option Addr} {ln:Nat} {l:List AP} {w:World} (hl:Sl w 27 LA ln (l.map AP.cells)) (hr:∀ c∈l,c.Read w) (hn:ln≤1048576):Fsm.Fz ln (Fsm.Dn (l.map AP.d) ln):=Fsm.OP (L9 hl hr hn) ln (Nat.le_refl _)
set_option maxRecDepth 20000 in
set_option maxHeartbeats 16000000 in
theorem MU (LA:Option Addr) (ln lc:Nat) (l:List AP) (id:Int) (w:World) (hl:Sl w 27 LA ln (l.map AP.cells)) (hr:∀ c∈l,c.Read w) (hn0:ln≤1048574) (hwf:(Lit.int .i64 id).wf=true) :
  Calls Tryz.prog 13 #[.slice LA ln lc,.int .i64 id] w fun e w'=>e=.returned (.bool true)∧Ext Nothing w w':=by
 have hn:ln≤1048576:=by omega
 go_enter Tryz.func13,Tryz.ntmps13
 go_upto_region 2 with (first|go_skip|go_guarded|(go_at_call 24;(with_reducible refine (KO LA ln lc l w hl hr hn).mono ?_);rintro e w2 ⟨sV,rfl,hO,hG,hD,hx2⟩))
 have hxs:Ext Nothing w2 (w2.alloc (.cells sV.arr 30)):=Ext.Al
 have hT:Blk (w2.alloc (.cells sV.arr 30)) w2.heap.size 30 sV.arr:=Blk.new _ _ _
 have hOS:=(hO).Aw hxs
 have hxS:=(hx2).tr hxs
 have HG:=Lib.hid hG
 have HD:=Lib.hid hD
 clear hO hx2 hxs hG hD
 generalize w2.heap.size=T at hT ⊢
 generalize (w2.alloc (.cells sV.arr 30))=wS at hT hOS hxS ⊢
 have HV:=Lib.hid (show Fsm.EA ln sV.data from by rw [HD.out];exact GH hl hr hn)
 have HVT:=Lib.hid (show Fsm.Fz ln sV.data from by rw [HD.out];exact Nj hl hr hn)
 obtain ⟨ql1,ql2,ql3,ql4,ql5,ql6,ql7⟩:=CF HG.out hn
 have hkJ:sV.nJ≤67108864:=by have:=hOS.jl;omega
 have hkD:sV.nD≤67108864:=by have:=hOS.dl;omega
 clear ql1 ql2 ql3 ql4 ql5 ql6 ql7
 have hslJ:=hOS.slJ
 rcases AC (fun y:JobV=>y.1.id == id) sV.jobs with ⟨hi,_,_⟩|⟨i,x,hi,hxi,hp,hf,_⟩
 ·have HI:=Lib.hid hi
  clear hi
  go_upto_region 3 with (first|go_skip|go_guarded|((with_reducible refine isW ?_);refine Ad rfl 30 _ rfl STStore T rfl sV.arr (show Blk _ _ 30 _ from hT) rfl ?_)|(go_at_call 22;(with_reducible refine (Hy sV.AJ sV.nJ sV.cJ sV.jobs id wS hslJ hkJ _ _ _ _ _ _ _ _).mono ?_);rintro e w6 ⟨rfl,hx6⟩;(rw [HI.out])))
  have hT6:=hT.e0 hx6
  have hslD:=(hOS.Aw hx6).slD
  have hx06:=hxS.tr hx6
  go_wp2_with (first|go_skip|go_guarded|((with_reducible refine isW ?_);refine Ad rfl 30 _ rfl STStore T rfl sV.arr (show Blk _ _ 30 _ from hT6) rfl ?_)|(go_at_call 26;(with_reducible refine (FF sV.AD sV.nD sV.cD sV.deploys id w6 hslD hkD _ _ _ _ _ _ _ _).mono ?_);rintro e w7 ⟨rfl,hx7⟩)|(go_at_call 17;(with_reducible refine (CJ _).mono ?_);rintro e w9 ⟨rfl,hx9⟩))
  go_ret
  exact ⟨rfl,(hx06.tr hx7).tr hx9⟩
 have HI:=Lib.hid hi
 have HJ:=Lib.hid (BQ hf)
 have HXI:=Lib.hid hxi
 clear hi hf hp
 go_upto_region 3 with (first|go_skip|go_guarded|((with_reducible refine isW ?_);refine Ad rfl 30 _ rfl STStore T rfl sV.arr (show Blk _ _ 30 _ from hT) rfl ?_)|(go_at_call 22;(with_reducible refine (Hy sV.AJ sV.nJ sV.cJ sV.jobs id wS hslJ hkJ _ _ _ _ _ _ _ _).mono ?_);rintro e w6 ⟨rfl,hx6⟩;(rw [HI.out])))
 have hT6:=hT.e0 hx6
 have hO6:=hOS.Aw hx6
 have hx06:=hxS.tr hx6
 have hslD:=hO6.slD
 clear hT hOS hxS hx6 hslJ hxi
 have hi0:(0:Int)≤(i:Int):=by omega
 have hid:decide ((i:Int) < 0)=false:=by simp
 rcases AC (fun y:DepD=>y.job == id) sV.deploys with ⟨hd,_,_⟩|⟨m,dd,hd,hdm,_,hg,_⟩
 ·have HDI:=Lib.hid hd
  clear hd
  go_wp2_with (first|go_skip|go_guarded|((with_reducible refine isW ?_);refine Ad rfl 30 _ rfl STStore T rfl sV.arr (show Blk _ _ 30 _ from hT6) rfl ?_)|(go_at_call 26;(with_reducible refine (FF sV.AD sV.nD sV.cD sV.deploys id w6 hslD hkD _ _ _ _ _ _ _ _).mono ?_);rintro e w7 ⟨rfl,hx7⟩;(rw [HDI.out]))|(go_at_call 17;(with_reducible refine (CJ _).mono ?_);rintro e w9 ⟨rfl,hx9⟩))
  go_ret
  exact ⟨rfl,(hx06.tr hx7).tr hx9⟩
 have HDI:=Lib.hid hd
 have HDA:=Lib.hid (show Fsm.FK sV.data id=some dd from hg)
 clear hd hg
 go_upto_region 4 with (first|go_skip|go_guarded|((with_reducible refine isW ?_);refine Ad rfl 30 _ rfl STStore T rfl sV.arr (show Blk _ _ 30 _ from hT6) rfl ?_)|(go_at_call 26;(with_reducible refine (FF sV.AD sV.nD sV.cD sV.deploys id w6 hslD hkD _ _ _ _ _ _ _ _).mono ?_);rintro e w7 ⟨rfl,hx7⟩;(rw [HDI.out])))
 have hT7:=hT6.e0 hx7
 have hO7:=hO6.Aw hx7
 have hx07:=hx06.tr hx7
 clear hT6 hO6 hx06 hx7 hslD
 obtain ⟨d0,d1,d2,d3⟩:=dd
 have hlm:m < sV.nD:=by rw [hO7.dl];exact (List.getElem?_eq_some_iff.1 hdm).1
 obtain ⟨hjn,g,offa,hAe,hce⟩:=hO7.slD.get (Ext.refl _ _) hlm
 rw [(List.getElem?_eq_some_iff.1 hdm).2] at hce
 have m7:w7.cell? ⟨T,7,none⟩=some (.slice (some ⟨g,offa,none⟩) sV.nD sV.cD):=by rw [← hAe];exact hT7.cell 7
 have a1:w7.cell? ⟨g,offa+m*4+1,none⟩=some (.int .i64 d1):=hce 1 _ rfl
 have a2:w7.cell? ⟨g,offa+m*4+2,none⟩=some (.int .i64 d2):=hce 2 _ rfl
 have hm0:(0:Int)≤(m:Int):=by omega
 have hm1:(m:Int) < sV.nD:=by omega
 have hmd:decide ((m:Int) < 0)=false:=by simp
 clear hAe hce hdm hlm hjn
 have hli:i < sV.nJ:=by rw [hO7.jl];exact (List.getElem?_eq_some_iff.1 HXI.out).1
 obtain ⟨hjn,gj,offj,hAe,hce⟩:=hO7.slJ.get (Ext.refl _ _) hli
 rw [(List.getElem?_eq_some_iff.1 HXI.out).2] at hce
 have m2:w7.cell? ⟨T,2,none⟩=some (.slice (some ⟨gj,offj,none⟩) sV.nJ sV.cJ):=by rw [← hAe];exact hT7.cell 2
 obtain ⟨⟨x0,x1,x2,x3,xg,x5,x6⟩,xv⟩:=x
 have b5:w7.cell? ⟨gj,offj+i*7+5,none⟩=some (.int .i64 x5):=hce 5 _ rfl
 have hi1:(i:Int) < sV.nJ:=by omega
 clear hAe hce hli hjn
 go_upto_region 7 with (first|go_skip|go_guarded|((with_reducible refine isW ?_);refine Ag rfl 51 _ _ rfl Er w7.heap.size rfl (Ex id d1).arr rfl (show Blk _ _ 51 _ from Blk.new w7 _ _) rfl rfl rfl ?_;intro w8 hC8 hx8))
 have hal:Ext Nothing w7 w8:=by refine Ext.trans ?_ hx8 (fun q hq e=>?_);(focus exact Ext.Al);exact absurd (show q=w7.heap.size from e) (by have h9:q < w7.heap.size:=hq;omega)
 have hC:=hC8
 have hTa:=hT7.e0 hal
 have hOa:=hO7.Aw hal
 have hxa:=hx07.tr hal
 have m7:=hal.c0 m7
 have a1:=hal.c0 a1
 have a2:=hal.c0 a2
 have m2:=hal.c0 m2
 have b5:=hal.c0 b5
 clear hT7 hO7 hx07 hal hC8 hx8
 generalize w7.heap.size=C at hC ⊢
 obtain ⟨wa,rfl⟩ : ∃ z:World,z=w8:=⟨_,rfl⟩
 go_upto_region 8 with (first|go_skip|go_guarded|((with_reducible refine isW ?_);refine Ad rfl 30 _ rfl STStore T rfl sV.arr (show Blk _ _ 30 _ from hTa) rfl ?_)|((with_reducible refine isW ?_);refine Ad rfl 51 _ rfl Er C rfl (Ex id d1).arr (show Blk _ _ 51 _ from hC) rfl ?_)|(go_at_call 15;(with_reducible refine (Bq (base:=w.heap.size) (t:=ln) (w:=wa) (s:=sV) (c:=Ex id d1) (ix:=(ln:Int)+1) 1 hOa HG.out (Lf id d1 wa) (show (Lit.int .i64 10).wf=true by decide) (by omega) (by push_cast;omega) (by omega)).mono ?_);rintro e w3 ⟨s5,r5,rv5,rfl,hO5,hF5,⟨RA5,rc5,rfl,hro5⟩,hx3⟩))
 have hal:Ext Nothing w3 ((w3.alloc (.cells s5.arr 30)).alloc (.cells #[.int .i64 r5.code,.int .i64 r5.value,.slice RA5 r5.allocs.length rc5] 34)):=Ext.Al
 have hT5:Blk ((w3.alloc (.cells s5.arr 30)).alloc (.cells #[.int .i64 r5.code,.int .i64 r5.value,.slice RA5 r5.allocs.length rc5] 34)) w3.heap.size 30 s5.arr:=(Blk.new w3 _ _).e0 Ext.Al
 have hE5:Blk ((w3.alloc (.cells s5.arr 30)).alloc (.cells #[.int .i64 r5.code,.int .i64 r5.value,.slice RA5 r5.allocs.length rc5] 34)) (w3.heap.size+1) 34 #[.int .i64 r5.code,.int .i64 r5.value,.slice RA5 r5.allocs.length rc5]:=Blk.new' _ _ _ (by simp)
 have hx5:Ext Nothing wa ((w3.alloc (.cells s5.arr 30)).alloc (.cells #[.int .i64 r5.code,.int .i64 r5.value,.slice RA5 r5.allocs.length rc5] 34)):=hx3.tr hal
 replace hO5:=hO5.Aw hal
 have hz3:=hx3.size
 clear hal hx3
 generalize w3.heap.size=TT5 at hT5 hE5 hz3 ⊢
 generalize ((w3.alloc (.cells s5.arr 30)).alloc (.cells #[.int .i64 r5.code,.int .i64 r5.value,.slice RA5 r5.allocs.length rc5] 34))=w5 at hT5 hE5 hx5 hO5 ⊢
 clear hz3 hro5
 have m7:=hx5.c0 m7
 have a1:=hx5.c0 a1
 have a2:=hx5.c0 a2
 have m2:=hx5.c0 m2
 have b5:=hx5.c0 b5
 have hC5:=hC.e0 hx5
 have hx05:=hxa.tr hx5
 clear hC hTa hOa hxa hx5
 have HF5:=Lib.hid hF5
 clear hF5
 have HVB:=Lib.hid (show 1≤x5∧x5 < 1099511627776 from ⟨(HV.out.v.jv _ (List.mem_map_of_mem (List.mem_of_getElem? HXI.out))).1,by have h9:x5≤(ln:Int):=HVT.out _ (List.mem_map_of_mem (List.mem_of_getElem? HXI.out));omega⟩)
 have HRL:=Lib.hid (Fsm.Nt (s:=sV.data) ((ln:Int)+1) (Ex id d1).d rfl HJ.out HDA.out rfl HVB.out)
 rw [HF5.out] at HRL
 have HS5:=Lib.hid (show Fsm.EF (ln+1) s5.data by have h9:=Fsm.C9 HG.out hn (c:=(Ex id d1).d) (by simp [AP.d]);rw [HF5.out] at h9;exact h9)
 have e0:w5.cell? ⟨TT5+1,0,none⟩=some (.int .i64 r5.code):=hE5.cell 0
 have e1:w5.cell? ⟨TT5+1,1,none⟩=some (.int .i64 r5.value):=hE5.cell 1
 clear hE5
 cases v1:(d2 == 1) with
 | false =>
  have hc:r5.code=33:=HRL.out.2 (fun h=>by have h9:d2=1:=h.1;simp [h9] at v1)
  rw [hc] at e0
  refine Au (by kernel_rfl) (by kernel_rfl) ?_
  repeat (first|go_big_quiet_skip|(go_big_quiet_want;(first|((refine AY rfl ?_);(first|(refine Ae (p:=⟨T,7,none⟩) (v:=.slice (some ⟨g,offa,none⟩) sV.nD sV.cD) ?_ ?_ ?_;(focus rfl);(focus (intro W' hW;have q:=hW.c0 m7;go_simp;done)))|(refine Ae (p:=⟨g,offa+m*4+1,none⟩) (v:=.int .i64 d1) ?_ ?_ ?_;(focus rfl);(focus (intro W' hW;have q:=hW.c0 a1;go_simp;done)))|(refine Ae (p:=⟨g,offa+m*4+2,none⟩) (v:=.int .i64 d2) ?_ ?_ ?_;(focus rfl);(focus (intro W' hW;have q:=hW.c0 a2;go_simp;done)))|(refine Ae (p:=⟨T,2,none⟩) (v:=.slice (some ⟨gj,offj,none⟩) sV.nJ sV.cJ) ?_ ?_ ?_;(focus rfl);(focus (intro W' hW;have q:=hW.c0 m2;go_simp;done)))|(refine Ae (p:=⟨gj,offj+i*7+5,none⟩) (v:=.int .i64 x5) ?_ ?_ ?_;(focus rfl);(focus (intro W' hW;have q:=hW.c0 b5;go_simp;done))));(try simp only [Act.put,zA,zB,zC,zD,zE,zF]);(try simp only [v1]))|go_big_quiet_op);go_big_quiet_on))
  refine wpQuiet_nil ?_
  intro w6 hx6
  have e0:=hx6.c0 e0
  have hx06:=hx05.tr hx6
  clear hc m7 a1 a2 m2 b5 e1
  go_wp2_with (first|go_skip|go_guarded|(go_at_call 17;(with_reducible refine (CJ _).mono ?_);rintro e w9 ⟨rfl,hx9⟩))
  go_ret
  exact ⟨rfl,hx06.tr hx9⟩
 | true =>
  cases v2:(x5 == d1) with
  | false =>
   have hc:r5.code=33:=HRL.out.2 (fun h=>by have h9:x5=d1:=h.2;simp [h9] at v2)
   rw [hc] at e0
   refine Au (by kernel_rfl) (by kernel_rfl) ?_
   repeat (first|go_big_quiet_skip|(go_big_quiet_want;(first|((refine AY rfl ?_);(first|(refine Ae (p:=⟨T,7,none⟩) (v:=.slice (some ⟨g,offa,none⟩) sV.nD sV.cD) ?_ ?_ ?_;(focus rfl);(focus (intro W' hW;have q:=hW.c0 m7;go_simp;done)))|(refine Ae (p:=⟨g,offa+m*4+1,none⟩) (v:=.int .i64 d1) ?_ ?_ ?_;(focus rfl);(focus (intro W' hW;have q:=hW.c0 a1;go_simp;done)))|(refine Ae (p:=⟨g,offa+m*4+2,none⟩) (v:=.int .i64 d2) ?_ ?_ ?_;(focus rfl);(focus (intro W' hW;have q:=hW.c0 a2;go_simp;done)))|(refine Ae (p:=⟨T,2,none⟩) (v:=.slice (some ⟨gj,offj,none⟩) sV.nJ sV.cJ) ?_ ?_ ?_;(focus rfl);(focus (intro W' hW;have q:=hW.c0 m2;go_simp;done)))|(refine Ae (p:=⟨gj,offj+i*7+5,none⟩) (v:=.int .i64 x5) ?_ ?_ ?_;(focus rfl);(focus (intro W' hW;have q:=hW.c0 b5;go_simp;done))));(try simp only [Act.put,zA,zB,zC,zD,zE,zF]);(try simp only [v1]);(try simp only [v2]))|go_big_quiet_op);go_big_quiet_on))
   refine wpQuiet_nil ?_
   intro w6 hx6
   have e0:=hx6.c0 e0
   have hx06:=hx05.tr hx6
   clear hc m7 a1 a2 m2 b5 e1
   go_wp2_with (first|go_skip|go_guarded|(go_at_call 17;(with_reducible refine (CJ _).mono ?_);rintro e w9 ⟨rfl,hx9⟩))
   go_ret
   exact ⟨rfl,hx06.tr hx9⟩
  | true =>
   have HRT:=Lib.hid (HRL.out.1 ⟨show d2=1 by simpa using v1,show x5=d1 by simpa using v2⟩)
   have hc:r5.code=0:=HRT.out.code
   rw [hc] at e0
   clear hc
   refine Au (by kernel_rfl) (by kernel_rfl) ?_
   repeat (first|go_big_quiet_skip|(go_big_quiet_want;(first|((refine AY rfl ?_);(first|(refine Ae (p:=⟨T,7,none⟩) (v:=.slice (some ⟨g,offa,none⟩) sV.nD sV.cD) ?_ ?_ ?_;(focus rfl);(focus (intro W' hW;have q:=hW.c0 m7;go_simp;done)))|(refine Ae (p:=⟨g,offa+m*4+1,none⟩) (v:=.int .i64 d1) ?_ ?_ ?_;(focus rfl);(focus (intro W' hW;have q:=hW.c0 a1;go_simp;done)))|(refine Ae (p:=⟨g,offa+m*4+2,none⟩) (v:=.int .i64 d2) ?_ ?_ ?_;(focus rfl);(focus (intro W' hW;have q:=hW.c0 a2;go_simp;done)))|(refine Ae (p:=⟨T,2,none⟩) (v:=.slice (some ⟨gj,offj,none⟩) sV.nJ sV.cJ) ?_ ?_ ?_;(focus rfl);(focus (intro W' hW;have q:=hW.c0 m2;go_simp;done)))|(refine Ae (p:=⟨gj,offj+i*7+5,none⟩) (v:=.int .i64 x5) ?_ ?_ ?_;(focus rfl);(focus (intro W' hW;have q:=hW.c0 b5;go_simp;done))));(try simp only [Act.put,zA,zB,zC,zD,zE,zF]);(try simp only [v1]);(try simp only [v2]))|go_big_quiet_op);go_big_quiet_on))
   refine wpQuiet_nil ?_
   intro w6 hx6
   have e0:=hx6.c0 e0
   have e1:=hx6.c0 e1
   have m2:=hx6.c0 m2
   have b5:=hx6.c0 b5
   have hT6:=hT5.e0 hx6
   have hO6:=hO5.Aw hx6
   have hC6:=hC5.e0 hx6
   have hx06:=hx05.tr hx6
   clear hT5 hO5 hC5 hx05 hx6 m7 a1 a2
   obtain ⟨q,hq1,hq2,hq3⟩:=HRT.out.at_
   have HQ3:=Lib.hid hq3
   rw [hq2] at e1
   clear hq3 hq2
   obtain ⟨ql1,ql2,ql3,ql4,ql5,ql6,ql7⟩:=CF HS5.out (show ln+1≤1048576 by omega)
   have hkJ:s5.nJ≤1048576:=by have:=hO6.jl;omega
   have hkS:s5.nS≤1048576:=by have:=hO6.tl;omega
   have hkN:s5.nN≤1048576:=by have:=hO6.nl;omega
   have hkA:s5.nA≤64:=by have:=hO6.al;omega
   have hkE:s5.nE≤1048576:=by have:=hO6.el;omega
   have hkD:s5.nD≤1048576:=by have:=hO6.dl;omega
   clear ql1 ql2 ql3 ql4 ql5 ql6 ql7
   have hsJ:=hO6.slJ
   have hkJ5:s5.nJ≤67108864:=by omega
   have hkS5:s5.nS≤67108864:=by omega
   rcases AC (fun y:JobV=>y.1.id == id) s5.jobs with ⟨hk,hf,_⟩|⟨k,y,hk,hyk,_,hf,_⟩
   ·exact absurd (show Fsm.AB s5.data id=none from Ce hf) (by rw [show Fsm.AB s5.data id=some q from hq1];simp)
   have hqy:q=y.1:=by have h9:=BQ hf;rw [show Fsm.AB s5.data id=some q from hq1] at h9;exact Option.some.inj h9
   subst hqy
   have HK:=Lib.hid hk
   have HYK:=Lib.hid hyk
   clear hk hf hq1
   go_upto_region 14 with (first|go_skip|go_guarded|((with_reducible refine isW ?_);refine Ad rfl 30 _ rfl STStore TT5 rfl s5.arr (show Blk _ _ 30 _ from hT6) rfl ?_)|(go_at_call 22;(with_reducible refine (Hy s5.AJ s5.nJ s5.cJ s5.jobs id w6 hsJ hkJ5 _ _ _ _ _ _ _ _).mono ?_);rintro e w8 ⟨rfl,hx8⟩;(rw [HK.out])))
   have hT8:=hT6.e0 hx8
   have hO8:=hO6.Aw hx8
   have hC8:=hC6.e0 hx8
   have hx08:=hx06.tr hx8
   have e0:=hx8.c0 e0
   have e1:=hx8.c0 e1
   have m2:=hx8.c0 m2
   have b5:=hx8.c0 b5
   clear hT6 hO6 hC6 hx06 hx8 hsJ
   have hsS:=hO8.slT
   go_upto_region 15 with (first|go_skip|go_guarded|((with_reducible refine isW ?_);refine Ad rfl 30 _ rfl STStore TT5 rfl s5.arr (show Blk _ _ 30 _ from hT8) rfl ?_)|(go_at_call 27;(with_reducible refine (Mi s5.AS s5.nS s5.cS s5.stable id w8 hsS hkS5 _ _ _ _ _ _ _ _).mono ?_);rintro e w9 ⟨rfl,hx9⟩))
   have hT9:=hT8.e0 hx9
   have hO9:=hO8.Aw hx9
   have hC9:=hC8.e0 hx9
   have hx09:=hx08.tr hx9
   have e0:=hx9.c0 e0
   have e1:=hx9.c0 e1
   have m2:=hx9.c0 m2
   have b5:=hx9.c0 b5
   clear hT8 hO8 hC8 hx08 hx9 hsS
   have HIE:Hid (∃ z:Int,Cu (fun y:JobV=>y.1.id == id) s5.stable=z):=Lib.hid ⟨_,rfl⟩
   obtain ⟨ie,hie⟩:=HIE.out
   rw [hie]
   have HSE:=Lib.hid hie
   clear hie HIE
   have hlk:k < s5.nJ:=by rw [hO9.jl];exact (List.getElem?_eq_some_iff.1 hyk).1
   obtain ⟨hjn,gk,offk,hAe,hce⟩:=hO9.slJ.get (Ext.refl _ _) hlk
   rw [(List.getElem?_eq_some_iff.1 hyk).2] at hce
   obtain ⟨GA,gn,gc,hyv,hgs,hgl,hgb⟩:=(hO9.j.grp _ (List.mem_of_getElem? hyk)).sl
   obtain ⟨⟨y0,y1,y2,y3,yg,y5,y6⟩,yv⟩:=y
   have hyv:yv=.slice GA gn gc:=hyv
   subst hyv
   have HCE:=Lib.hid (show ∀ j u,(#[.int .i64 y0,.int .i64 y1,.int .i64 y2,.int .i64 y3,.slice GA gn gc,.int .i64 y5,.bool y6]:Array Value).toList[j]? = some u→w9.cell? ⟨gk,offk+k*7+j,none⟩=some u from hce)
   have n2:w9.cell? ⟨TT5,2,none⟩=some (.slice (some ⟨gk,offk,none⟩) s5.nJ s5.cJ):=by rw [← hAe];exact hT9.cell 2
   have y5c:w9.cell? ⟨gk,offk+k*7+5,none⟩=some (.int .i64 y5):=hce 5 _ rfl
   have hk0:(0:Int)≤(k:Int):=by omega
   have hk1:(k:Int) < s5.nJ:=by omega
   have hkd:decide ((k:Int) < 0)=false:=by simp
   have v3:(y5 != y5)=false:=by simp
   have HGB:=Lib.hid hgb
   clear hAe hce hlk hjn hyk hgl hgb
   refine Au (by kernel_rfl) (by kernel_rfl) ?_
   repeat (first|go_big_quiet_skip|(go_big_quiet_want;(first|((refine AY rfl ?_);(first|(refine Ae (p:=⟨TT5+1,1,none⟩) (v:=.int .i64 y5) ?_ ?_ ?_;(focus rfl);(focus (intro W' hW;have q:=hW.c0 e1;go_simp;done)))|(refine Ae (p:=⟨TT5,2,none⟩) (v:=.slice (some ⟨gk,offk,none⟩) s5.nJ s5.cJ) ?_ ?_ ?_;(focus rfl);(focus (intro W' hW;have q:=hW.c0 n2;go_simp;done)))|(refine Ae (p:=⟨gk,offk+k*7+5,none⟩) (v:=.int .i64 y5) ?_ ?_ ?_;(focus rfl);(focus (intro W' hW;have q:=hW.c0 y5c;go_simp;done))));(try simp only [Act.put,zA,zB,zC,zD,zE,zF]);(try simp only [hkd]);(try simp only [v3]))|go_big_quiet_op);go_big_quiet_on))
   refine wpQuiet_nil ?_
   intro w10 hx10
   have n2:=hx10.c0 n2
   have y5c:=hx10.c0 y5c
   have m2:=hx10.c0 m2
   have b5:=hx10.c0 b5
   clear e0 e1 v3
   go_upto_region 17 with (first|go_skip|go_guarded)
   cases v4:(y5 != x5) with
   | false =>
    refine Au (by kernel_rfl) (by kernel_rfl) ?_
    repeat (first|go_big_quiet_skip|(go_big_quiet_want;(first|((refine AY rfl ?_);(first|(refine Ae (p:=⟨TT5,2,none⟩) (v:=.slice (some ⟨gk,offk,none⟩) s5.nJ s5.cJ) ?_ ?_ ?_;(focus rfl);(focus (intro W' hW;have q:=hW.c0 n2;go_simp;done)))|(refine Ae (p:=⟨gk,offk+k*7+5,none⟩) (v:=.int .i64 y5) ?_ ?_ ?_;(focus rfl);(focus (intro W' hW;have q:=hW.c0 y5c;go_simp;done)))|(refine Ae (p:=⟨T,2,none⟩) (v:=.slice (some ⟨gj,offj,none⟩) sV.nJ sV.cJ) ?_ ?_ ?_;(focus rfl);(focus (intro W' hW;have q:=hW.c0 m2;go_simp;done)))|(refine Ae (p:=⟨gj,offj+i*7+5,none⟩) (v:=.int .i64 x5) ?_ ?_ ?_;(focus rfl);(focus (intro W' hW;have q:=hW.c0 b5;go_simp;done))));(try simp only [Act.put,zA,zB,zC,zD,zE,zF]);(try simp only [v4]))|go_big_quiet_op);go_big_quiet_on))
    refine wpQuiet_nil ?_
    intro w11 hx11
    have hx911:=hx10.tr hx11
    have hT11:=hT9.e0 hx911
    have hO11:=hO9.Aw hx911
    have hC11:=hC9.e0 hx911
    have hx011:=hx09.tr hx911
    clear m2 b5 n2 y5c hT9 hO9 hC9 hx09 hx10 hx11
    go_upto_region 27 with (first|go_skip|go_guarded|((with_reducible refine isW ?_);refine Ad rfl 30 _ rfl STStore TT5 rfl s5.arr (show Blk _ _ 30 _ from hT11) rfl ?_)|((with_reducible refine isW ?_);refine Ad rfl 51 _ rfl Er C rfl (Ex id d1).arr (show Blk _ _ 51 _ from hC11) rfl ?_)|(go_at_call 15;(with_reducible refine (Bq (base:=wa.heap.size) (t:=ln+1) (w:=w11) (s:=s5) (c:=Ex id d1) (ix:=(ln:Int)+2) 1 hO11 HS5.out (Lf id d1 w11) (show (Lit.int .i64 10).wf=true by decide) (by omega) (by push_cast;omega) (by omega)).mono ?_);rintro e w3 ⟨s20,r20,rv20,rfl,hO20,hF20,⟨RA20,rc20,rfl,hro20⟩,hx3⟩))
    have hal:Ext Nothing w3 ((w3.alloc (.cells s20.arr 30)).alloc (.cells #[.int .i64 r20.code,.int .i64 r20.value,.slice RA20 r20.allocs.length rc20] 34)):=Ext.Al
    have hT20:Blk ((w3.alloc (.cells s20.arr 30)).alloc (.cells #[.int .i64 r20.code,.int .i64 r20.value,.slice RA20 r20.allocs.length rc20] 34)) w3.heap.size 30 s20.arr:=(Blk.new w3 _ _).e0 Ext.Al
    have hE20:Blk ((w3.alloc (.cells s20.arr 30)).alloc (.cells #[.int .i64 r20.code,.int .i64 r20.value,.slice RA20 r20.allocs.length rc20] 34)) (w3.heap.size+1) 34 #[.int .i64 r20.code,.int .i64 r20.value,.slice RA20 r20.allocs.length rc20]:=Blk.new' _ _ _ (by simp)
    have hx20:Ext Nothing w11 ((w3.alloc (.cells s20.arr 30)).alloc (.cells #[.int .i64 r20.code,.int .i64 r20.value,.slice RA20 r20.allocs.length rc20] 34)):=hx3.tr hal
    replace hO20:=(hO20.base (show w.heap.size≤w11.heap.size by have:=hx011.size;omega)).Aw hal
    have hz3:=hx3.size
    clear hal hx3
    generalize w3.heap.size=TT20 at hT20 hE20 hz3 ⊢
    generalize ((w3.alloc (.cells s20.arr 30)).alloc (.cells #[.int .i64 r20.code,.int .i64 r20.value,.slice RA20 r20.allocs.length rc20] 34))=w20 at hT20 hE20 hx20 hO20 ⊢
    clear hz3 hro20
    have hag:r20.code=33:=by have h9:=HRT.out.again ((ln:Int)+2);rw [hF20] at h9;exact h9
    have z0c:w20.cell? ⟨TT20+1,0,none⟩=some (.int .i64 33):=by have h9:w20.cell? ⟨TT20+1,0,none⟩=some (.int .i64 r20.code):=hE20.cell 0;rw [hag] at h9;exact h9
    have hx020:=hx011.tr hx20
    clear hag hF20 hE20 hT20 hO20
    go_wp2_with (first|go_skip|go_guarded|(go_at_call 17;(with_reducible refine (CJ _).mono ?_);rintro e w9 ⟨rfl,hx9⟩))
    go_ret
    exact ⟨rfl,hx020.tr hx9⟩
   | true =>
    refine Au (by kernel_rfl) (by kernel_rfl) ?_
    repeat (first|go_big_quiet_skip|(go_big_quiet_want;(first|((refine AY rfl ?_);(first|(refine Ae (p:=⟨TT5,2,none⟩) (v:=.slice (some ⟨gk,offk,none⟩) s5.nJ s5.cJ) ?_ ?_ ?_;(focus rfl);(focus (intro W' hW;have q:=hW.c0 n2;go_simp;done)))|(refine Ae (p:=⟨gk,offk+k*7+5,none⟩) (v:=.int .i64 y5) ?_ ?_ ?_;(focus rfl);(focus (intro W' hW;have q:=hW.c0 y5c;go_simp;done)))|(refine Ae (p:=⟨T,2,none⟩) (v:=.slice (some ⟨gj,offj,none⟩) sV.nJ sV.cJ) ?_ ?_ ?_;(focus rfl);(focus (intro W' hW;have q:=hW.c0 m2;go_simp;done)))|(refine Ae (p:=⟨gj,offj+i*7+5,none⟩) (v:=.int .i64 x5) ?_ ?_ ?_;(focus rfl);(focus (intro W' hW;have q:=hW.c0 b5;go_simp;done))));(try simp only [Act.put,zA,zB,zC,zD,zE,zF]);(try simp only [v4]))|go_big_quiet_op);go_big_quiet_on))
    refine wpQuiet_nil ?_
    intro w11 hx11
    have hx911:=hx10.tr hx11
    have hT11:=hT9.e0 hx911
    have hO11:=hO9.Aw hx911
    have hC11:=hC9.e0 hx911
    have hx011:=hx09.tr hx911
    have n2:=hx11.c0 n2
    have y5c:=hx11.c0 y5c
    clear m2 b5 hT9 hO9 hC9 hx09 hx10 hx11
    obtain ⟨xs,hxs,hxq⟩:=HQ3.out (show y5 ≠ x5 by simpa using v4)
    rcases AC (fun y:JobV=>y.1.id == id) s5.stable with ⟨hs,hf,_⟩|⟨n,z,hs,hzn,_,hf,_⟩
    ·exact absurd (show Fsm.BV s5.data id=none from Gm hf) (by rw [show Fsm.BV s5.data id=some xs from hxs];simp)
    have N2:=Lib.hid n2
    have hin:ie=(n:Int):=HSE.out.symm.trans hs
    subst hin
    have hxz:xs=z.1:=by have h9:=Gs hf;rw [show Fsm.BV s5.data id=some xs from hxs] at h9;exact Option.some.inj h9
    subst hxz
    have hln:n < s5.nS:=by rw [hO11.tl];exact (List.getElem?_eq_some_iff.1 hzn).1
    obtain ⟨hjn,gs,offs,hAe,hce⟩:=hO11.slT.get (Ext.refl _ _) hln
    rw [(List.getElem?_eq_some_iff.1 hzn).2] at hce
    obtain ⟨GB,gm,gd,hzv,hgz,hgl,hgb⟩:=(hO11.t.grp _ (List.mem_of_getElem? hzn)).sl
    obtain ⟨⟨z0,z1,z2,z3,zg,z5,z6⟩,zv⟩:=z
    have hzv:zv=.slice GB gm gd:=hzv
    subst hzv
    have hxq:(⟨z0,z1,z2,z3,zg,y5,false⟩ : Ak)=⟨y0,y1,y2,y3,yg,y5,y6⟩:=hxq
    injection hxq with q0 q1 q2 q3 q4 q5 q6
    subst q0 q1 q2 q3 q4 q6
    have hgn:gm=gn:=by have h1:=hgz.len;have h2:=hgs.len;simp at h1 h2;omega
    subst hgn
    have hcz:∀ j u,(#[.int .i64 z0,.int .i64 z1,.int .i64 z2,.int .i64 z3,.slice GB gm gd,.int .i64 z5,.bool z6]:Array Value).toList[j]? = some u→w11.cell? ⟨gs,offs+n*7+j,none⟩=some u:=hce
    have n3:w11.cell? ⟨TT5,3,none⟩=some (.slice (some ⟨gs,offs,none⟩) s5.nS s5.cS):=by rw [← hAe];exact hT11.cell 3
    have hn0i:(0:Int)≤(n:Int):=by omega
    have hn1i:(n:Int) < s5.nS:=by omega
    have hnd:decide ((n:Int) < 0)=false:=by simp
    clear hAe hce hln hjn hzn hf hs hxs q5 hgl hgb
    go_upto_region 21 with (first|go_skip|go_guarded|((with_reducible refine isW ?_);refine Af rfl 39 _ rfl STJob gs (offs+n*7) rfl #[.int .i64 z0,.int .i64 z1,.int .i64 z2,.int .i64 z3,.slice GB gm gd,.int .i64 z5,.bool z6] hcz rfl ?_))
    have hal:Ext Nothing w11 (w11.alloc (.cells #[.int .i64 z0,.int .i64 z1,.int .i64 z2,.int .i64 z3,.slice GB gm gd,.int .i64 z5,.bool z6] 39)):=Ext.Al
    have hX0:Blk (w11.alloc (.cells #[.int .i64 z0,.int .i64 z1,.int .i64 z2,.int .i64 z3,.slice GB gm gd,.int .i64 z5,.bool z6] 39)) w11.heap.size 39 #[.int .i64 z0,.int .i64 z1,.int .i64 z2,.int .i64 z3,.slice GB gm gd,.int .i64 z5,.bool z6]:=Blk.new _ _ _
    have n2:=hal.c0 n2
    have y5c:=hal.c0 y5c
    clear n3 hcz
    generalize hXe:w11.heap.size=X at hX0 ⊢
    have HXE:=Lib.hid hXe
    clear hXe
    generalize (w11.alloc (.cells #[.int .i64 z0,.int .i64 z1,.int .i64 z2,.int .i64 z3,.slice GB gm gd,.int .i64 z5,.bool z6] 39))=wx at hX0 hal n2 y5c ⊢
    have x5c:wx.cell? ⟨X,5,none⟩=some (.int .i64 z5):=hX0.cell 5
    have x5f:wx.frozen? ⟨X,5,none⟩=false:=hX0.frozen 5
    go_upto_region 22 with (first|go_skip|go_guarded)
    have hs1:Ext (fun q=>q=X) wx (wx.setCell ⟨X,5,none⟩ (.int .i64 y5)):=Ext.set1 _ _ _ _
    have hX1:Blk (wx.setCell ⟨X,5,none⟩ (.int .i64 y5)) X 39 #[.int .i64 z0,.int .i64 z1,.int .i64 z2,.int .i64 z3,.slice GB gm gd,.int .i64 y5,.bool z6]:=hX0.Bg 5 _
    have hx1:=hal.trans hs1 (fun q hq e=>absurd (show q=X from e) (by have h9:q < w11.heap.size:=hq;have:=HXE.out;omega))
    clear hX0 hal hs1 x5c x5f
    generalize (wx.setCell ⟨X,5,none⟩ (.int .i64 y5))=wy at hX1 hx1 ⊢
    have x6c:wy.cell? ⟨X,6,none⟩=some (.bool z6):=hX1.cell 6
    have x6f:wy.frozen? ⟨X,6,none⟩=false:=hX1.frozen 6
    go_upto_region 23 with (first|go_skip|go_guarded)
    have hs2:Ext (fun q=>q=X) wy (wy.setCell ⟨X,6,none⟩ (.bool false)):=Ext.set1 _ _ _ _
    have hX2:Blk (wy.setCell ⟨X,6,none⟩ (.bool false)) X 39 #[.int .i64 z0,.int .i64 z1,.int .i64 z2,.int .i64 z3,.slice GB gm gd,.int .i64 y5,.bool false]:=hX1.Bg 6 _
    have hx2:=hx1.trans hs2 (fun q hq e=>absurd (show q=X from e) (by have h9:q < w11.heap.size:=hq;have:=HXE.out;omega))
    clear hX1 hx1 hs2 x6c x6f n2 y5c
    generalize (wy.setCell ⟨X,6,none⟩ (.bool false))=wz at hX2 hx2 ⊢
    have n2:wz.cell? ⟨TT5,2,none⟩=some (.slice (some ⟨gk,offk,none⟩) s5.nJ s5.cJ):=by have h9:=hx2.c0 N2.out;exact h9
    have HCK:=Lib.hid (show ∀ j u,(#[.int .i64 z0,.int .i64 z1,.int .i64 z2,.int .i64 z3,.slice GA gm gc,.int .i64 y5,.bool false]:Array Value).toList[j]? = some u→wz.cell? ⟨gk,offk+k*7+j,none⟩=some u from fun j u hu=>hx2.c0 (hx911.c0 (HCE.out j u hu)))
    have hga:=(hgs.Ap hx911).Ap hx2
    have hgb:=hgz.Ap hx2
    clear hgs hgz
    refine Au (by kernel_rfl) (by kernel_rfl) ?_
    repeat (first|go_big_quiet_skip|(go_big_quiet_want;(first|((refine AY rfl ?_);(first|(refine Ae (p:=⟨X,0,none⟩) (v:=.agg #[.int .i64 z0,.int .i64 z1,.int .i64 z2,.int .i64 z3,.slice GB gm gd,.int .i64 y5,.bool false]) ?_ ?_ ?_;(focus rfl);(focus (intro W' hW;exact Ar rfl STJob (by go_simp) (hX2.e0 hW) rfl;done)))|(refine Ae (p:=⟨TT5,2,none⟩) (v:=.slice (some ⟨gk,offk,none⟩) s5.nJ s5.cJ) ?_ ?_ ?_;(focus rfl);(focus (intro W' hW;have q:=hW.c0 n2;go_simp;done)))|(refine Ae (p:=⟨gk,offk+k*7,none⟩) (v:=.agg #[.int .i64 z0,.int .i64 z1,.int .i64 z2,.int .i64 z3,.slice GA gm gc,.int .i64 y5,.bool false]) ?_ ?_ ?_;(focus rfl);(focus (intro W' hW;exact run_load_struct (sz:=7) (b:=gk) (off:=offk+k*7) rfl STJob (by go_simp) (fun j u hu=>hW.c0 (HCK.out j u hu)) rfl;done))));(try simp only [Act.put,zA,zB,zC,zD,zE,zF]))|((refine Bp rfl ?_);(first|(refine Am (f:=28) (args:=#[.agg #[.int .i64 z0,.int .i64 z1,.int .i64 z2,.int .i64 z3,.slice GB gm gd,.int .i64 y5,.bool false],.agg #[.int .i64 z0,.int .i64 z1,.int .i64 z2,.int .i64 z3,.slice GA gm gc,.int .i64 y5,.bool false]]) (v:=.bool true) ?_ ?_ ?_;(focus (intro W' hW;go_simp;done));(focus (intro W' hW;refine (Jn ⟨z0,z1,z2,z3,zg,y5,false⟩ GB gm gd GA gc W' (hgb.Ap hW) (hga.Ap hW) HGB.out).mono ?_;intro e w' hcc;obtain ⟨he,hxu⟩:=hcc;refine ⟨?_,hxu⟩;exact he;done))));(try simp only [Act.put,zA,zB,zC,zD,zE,zF]))|go_big_quiet_op);go_big_quiet_on))
    refine wpQuiet_nil ?_
    intro w14 hx14
    have hx114:=hx2.tr hx14
    have hT14:=hT11.e0 hx114
    have hO14:=hO11.Aw hx114
    have hC14:=hC11.e0 hx114
    have hx014:=hx011.tr hx114
    clear n2 hX2 hx2 hx14 hx114 hga hgb hT11 hO11 hC11 hx011
    go_upto_region 27 with (first|go_skip|go_guarded|((with_reducible refine isW ?_);refine Ad rfl 30 _ rfl STStore TT5 rfl s5.arr (show Blk _ _ 30 _ from hT14) rfl ?_)|((with_reducible refine isW ?_);refine Ad rfl 51 _ rfl Er C rfl (Ex id d1).arr (show Blk _ _ 51 _ from hC14) rfl ?_)|(go_at_call 15;(with_reducible refine (Bq (base:=wa.heap.size) (t:=ln+1) (w:=w14) (s:=s5) (c:=Ex id d1) (ix:=(ln:Int)+2) 1 hO14 HS5.out (Lf id d1 w14) (show (Lit.int .i64 10).wf=true by decide) (by omega) (by push_cast;omega) (by omega)).mono ?_);rintro e w3 ⟨s20,r20,rv20,rfl,hO20,hF20,⟨RA20,rc20,rfl,hro20⟩,hx3⟩))
    have hal:Ext Nothing w3 ((w3.alloc (.cells s20.arr 30)).alloc (.cells #[.int .i64 r20.code,.int .i64 r20.value,.slice RA20 r20.allocs.length rc20] 34)):=Ext.Al
    have hT20:Blk ((w3.alloc (.cells s20.arr 30)).alloc (.cells #[.int .i64 r20.code,.int .i64 r20.value,.slice RA20 r20.allocs.length rc20] 34)) w3.heap.size 30 s20.arr:=(Blk.new w3 _ _).e0 Ext.Al
    have hE20:Blk ((w3.alloc (.cells s20.arr 30)).alloc (.cells #[.int .i64 r20.code,.int .i64 r20.value,.slice RA20 r20.allocs.length rc20] 34)) (w3.heap.size+1) 34 #[.int .i64 r20.code,.int .i64 r20.value,.slice RA20 r20.allocs.length rc20]:=Blk.new' _ _ _ (by simp)
    have hx20:Ext Nothing w14 ((w3.alloc (.cells s20.arr 30)).alloc (.cells #[.int .i64 r20.code,.int .i64 r20.value,.slice RA20 r20.allocs.length rc20] 34)):=hx3.tr hal
    replace hO20:=(hO20.base (show w.heap.size≤w14.heap.size by have:=hx014.size;omega)).Aw hal
    have hz3:=hx3.size
    clear hal hx3
    generalize w3.heap.size=TT20 at hT20 hE20 hz3 ⊢
    generalize ((w3.alloc (.cells s20.arr 30)).alloc (.cells #[.int .i64 r20.code,.int .i64 r20.value,.slice RA20 r20.allocs.length rc20] 34))=w20 at hT20 hE20 hx20 hO20 ⊢
    clear hz3 hro20
    have hag:r20.code=33:=by have h9:=HRT.out.again ((ln:Int)+2);rw [hF20] at h9;exact h9
    have z0c:w20.cell? ⟨TT20+1,0,none⟩=some (.int .i64 33):=by have h9:w20.cell? ⟨TT20+1,0,none⟩=some (.int .i64 r20.code):=hE20.cell 0;rw [hag] at h9;exact h9
    have hx020:=hx014.tr hx20
    clear hag hF20 hE20 hT20 hO20
    go_wp2_with (first|go_skip|go_guarded|(go_at_call 17;(with_reducible refine (CJ _).mono ?_);rintro e w9 ⟨rfl,hx9⟩))
    go_ret
    exact ⟨rfl,hx020.tr hx9⟩
end Go.Proofs.YtccekmeifanipaaGreat
