/- Parts of the proof: Down -/
import Derived.Test.YtccekmeifanipaaGreatR36
import Derived.Test.YtccekmeifanipaaGreatR10
namespace Go.Proofs.YtccekmeifanipaaGreat
set_option linter.unusedVariables false
set_option linter.unusedSimpArgs false
set_option linter.unusedSectionVars false
open Go.RowKit
theorem GH {LA:Option Addr} {ln:Nat} {l:List AP} {w:World} (hl:Sl w 27 LA ln (l.map AP.cells)) (hr:∀ c∈l,c.Read w) (hn:ln≤1048576):Fsm.EA ln (Fsm.Dn (l.map AP.d) ln):=by
 have hL:ln=l.length:=by have h9:=hl.len;simpa using h9
 refine Fsm.H5 (l:=l.map AP.d) (P:=Fsm.EA) Fsm.Ik (fun t s c ht hc hp=>?_) ln (by simp [hL])
 obtain ⟨x,hx,rfl⟩:=List.mem_map.1 hc
 have ht:t < (l.map AP.d).length:=ht
 exact Fsm.GM hp (by simp at ht;omega) (hr x hx).EI
theorem OH {l:List Bi} (t:Nat):Fsm.NOk (Fsm.Dn l t):=by
 induction t with
 | zero=>intro n hn;simp [Fsm.Dn,Fsm.new] at hn
 | succ t ih =>
  unfold Fsm.Dn
  split <;> first|exact Fsm.OC ih _ _|exact ih
theorem Oy {n:NodD} (h:Fsm.Cb n=true):1≤n.boot∧n.boot≤1099511627776:=by
 simp only [Fsm.Cb,Bool.and_eq_true,decide_eq_true_eq] at h
 unfold Fsm.BC at h
 omega
theorem OM {n:NodD} (h:Fsm.Cb n=true) (hb:n.boot < 1099511627776):Fsm.Cb { n with boot:=n.boot+1 }=true:=by
 simp only [Fsm.Cb,Bool.and_eq_true,decide_eq_true_eq] at h ⊢
 unfold Fsm.BC at h ⊢
 omega
set_option maxRecDepth 20000 in
set_option maxHeartbeats 16000000 in
theorem Ql (LA:Option Addr) (ln lc:Nat) (l:List AP) (id:Int) (RA:Option Addr) (rn rc:Nat) (reports:List (Int × Int)) (w:World) (hl:Sl w 27 LA ln (l.map AP.cells)) (hr:∀ c∈l,c.Read w) (hn0:ln≤1048573) (hwf:(Lit.int .i64 id).wf=true) (hrep:Sl w 2 RA rn (reports.map Dk)) (hro:∀ r∈reports,In64 r.1∧In64 r.2) (hrn:rn≤1048576) :
  Calls Tryz.prog 11 #[.slice LA ln lc,.int .i64 id,.slice RA rn rc] w fun e w'=>e=.returned (.bool true)∧Ext Nothing w w':=by
 have hn:ln≤1048576:=by omega
 have HRL:=Lib.hid (show rn=reports.length by have h9:=hrep.len;simpa using h9)
 go_enter Tryz.func11,Tryz.ntmps11
 go_upto_region 2 with (first|go_skip|go_guarded|(go_at_call 24;(with_reducible refine (KO LA ln lc l w hl hr hn).mono ?_);rintro e w2 ⟨sV,rfl,hO,hG,hD,hx2⟩))
 have hxs:Ext Nothing w2 (w2.alloc (.cells sV.arr 30)):=Ext.Al
 have hT:Blk (w2.alloc (.cells sV.arr 30)) w2.heap.size 30 sV.arr:=Blk.new _ _ _
 have hOS:=(hO).Aw hxs
 have hxS:=(hx2).tr hxs
 have HG:=Lib.hid hG
 have HD:=Lib.hid hD
 clear hO hx2 hxs hG hD
 generalize w2.heap.size=T at hT ⊢
 generalize (w2.alloc (.cells sV.arr 30))=wS at hT hOS hxS ⊢
 have HV:=Lib.hid (show Fsm.EA ln sV.data from by rw [HD.out];exact GH hl hr hn)
 have HK:=Lib.hid (show Fsm.NOk sV.data from by rw [HD.out];exact OH ln)
 have hsl:=hOS.slN
 obtain ⟨ql1,ql2,ql3,ql4,ql5,ql6,ql7⟩:=CF HG.out hn
 have hkN:sV.nN≤67108864:=by have:=hOS.nl;omega
 clear ql1 ql2 ql3 ql4 ql5 ql6 ql7
 rcases AC (fun y:NodD=>y.id == id) sV.nodes with ⟨hi,_,_⟩|⟨i,x,hi,hxi,hp,hf,_⟩
 ·have HI:=Lib.hid hi
  clear hi
  go_wp2_with (first|go_skip|go_guarded|((with_reducible refine isW ?_);refine Ad rfl 30 _ rfl STStore T rfl sV.arr (show Blk _ _ 30 _ from hT) rfl ?_)|(go_at_call 18;(with_reducible refine (EQ sV.AN sV.nN sV.cN sV.nodes id wS hsl hkN _ _ _ _ _ _ _ _).mono ?_);rintro e w6 ⟨rfl,hx6⟩;(rw [HI.out]))|(go_at_call 17;(with_reducible refine (CJ _).mono ?_);rintro e w9 ⟨rfl,hx9⟩))
  go_ret
  exact ⟨rfl,(hxS.tr hx6).tr hx9⟩
 have HI:=Lib.hid hi
 have HAT:=Lib.hid (show Fsm.nodeAt sV.data id=some x from hf)
 have HXI:=Lib.hid hxi
 have hpp:=Lib.hid hp
 clear hi hf hp
 go_upto_region 3 with (first|go_skip|go_guarded|((with_reducible refine isW ?_);refine Ad rfl 30 _ rfl STStore T rfl sV.arr (show Blk _ _ 30 _ from hT) rfl ?_)|(go_at_call 18;(with_reducible refine (EQ sV.AN sV.nN sV.cN sV.nodes id wS hsl hkN _ _ _ _ _ _ _ _).mono ?_);rintro e w6 ⟨rfl,hx6⟩;(rw [HI.out])))
 have hT6:=hT.e0 hx6
 have hO6:=hOS.Aw hx6
 have hx06:=hxS.tr hx6
 have HZ6:=Lib.hid hx06.size
 clear hT hOS hxS hx6 hsl
 have hli:i < sV.nN:=by rw [hO6.nl];exact (List.getElem?_eq_some_iff.1 hxi).1
 obtain ⟨hjn,g,offa,hAe,hce⟩:=hO6.slN.get (Ext.refl _ _) hli
 rw [(List.getElem?_eq_some_iff.1 hxi).2] at hce
 obtain ⟨x0,⟨x1,x2⟩,x3,x4,x5,x6,x7⟩:=x
 have hce:∀ j u,(#[.int .i64 x0,.int .i64 x1,.int .i64 x2,.bool x3,.bool x4,.int .i64 x5,.int .i64 x6,.int .i64 x7]:Array Value).toList[j]? = some u→w6.cell? ⟨g,offa+i*8+j,none⟩=some u:=hce
 have m4:w6.cell? ⟨T,4,none⟩=some (.slice (some ⟨g,offa,none⟩) sV.nN sV.cN):=by rw [← hAe];exact hT6.cell 4
 have a3:w6.cell? ⟨g,offa+i*8+3,none⟩=some (.bool x3):=hce 3 _ rfl
 have hi0:(0:Int)≤(i:Int):=by omega
 have hi1:(i:Int) < sV.nN:=by omega
 have hid:decide ((i:Int) < 0)=false:=by simp
 have HCE:=Lib.hid hce
 have hidd:x0=id:=by simpa using hpp.out
 subst hidd
 clear hAe hce hxi hli hjn
 cases x3 with
 | false =>
  go_wp2_with (first|go_skip|go_guarded|(go_at_call 17;(with_reducible refine (CJ _).mono ?_);rintro e w9 ⟨rfl,hx9⟩))
  go_ret
  exact ⟨rfl,hx06.tr hx9⟩
 | true =>
  go_upto_region 6 with (first|go_skip|go_guarded|((with_reducible refine isW ?_);refine Af rfl 43 _ rfl Bl g (offa+i*8) rfl #[.int .i64 x0,.int .i64 x1,.int .i64 x2,.bool true,.bool x4,.int .i64 x5,.int .i64 x6,.int .i64 x7] HCE.out rfl ?_))
  have hal:Ext Nothing w6 (w6.alloc (.cells #[.int .i64 x0,.int .i64 x1,.int .i64 x2,.bool true,.bool x4,.int .i64 x5,.int .i64 x6,.int .i64 x7] 43)):=Ext.Al
  have hY:Blk (w6.alloc (.cells #[.int .i64 x0,.int .i64 x1,.int .i64 x2,.bool true,.bool x4,.int .i64 x5,.int .i64 x6,.int .i64 x7] 43)) w6.heap.size 43 #[.int .i64 x0,.int .i64 x1,.int .i64 x2,.bool true,.bool x4,.int .i64 x5,.int .i64 x6,.int .i64 x7]:=Blk.new _ _ _
  have hTa:=hT6.e0 hal
  have hOa:=hO6.Aw hal
  have hxa:=hx06.tr hal
  clear hT6 hO6 hx06 hal m4 a3
  have hzY:w.heap.size≤w6.heap.size:=HZ6.out
  generalize w6.heap.size=Y at hY hzY ⊢
  generalize (w6.alloc (.cells #[.int .i64 x0,.int .i64 x1,.int .i64 x2,.bool true,.bool x4,.int .i64 x5,.int .i64 x6,.int .i64 x7] 43))=wa at hY hTa hOa hxa ⊢
  have y7:wa.cell? ⟨Y,7,none⟩=some (.int .i64 x7):=hY.cell 7
  cases v7:decide (1099511627776≤x7) with
  | true =>
   go_wp2_with (first|go_skip|go_guarded|(go_at_call 17;(with_reducible refine (CJ _).mono ?_);rintro e w9 ⟨rfl,hx9⟩))
   go_ret
   exact ⟨rfl,hxa.tr hx9⟩
  | false =>
   go_upto_region 9 with (first|go_skip|go_guarded|((with_reducible refine isW ?_);refine Ad rfl 30 _ rfl STStore T rfl sV.arr (show Blk _ _ 30 _ from hTa) rfl ?_)|((with_reducible refine isW ?_);refine Ad rfl 43 _ rfl Bl Y rfl #[.int .i64 x0,.int .i64 x1,.int .i64 x2,.bool true,.bool x4,.int .i64 x5,.int .i64 x6,.int .i64 x7] (show Blk _ _ 43 _ from hY) rfl ?_)|(go_at_call 15;(with_reducible refine (Bq (base:=w.heap.size) (t:=ln) (w:=wa) (s:=sV) (c:=CB 7 (⟨x0,⟨x1,x2⟩,true,x4,x5,x6,x7⟩ : NodD) [] none 0 0) (ix:=(ln:Int)+1) 1 hOa HG.out (FR 7 (⟨x0,⟨x1,x2⟩,true,x4,x5,x6,x7⟩ : NodD) 0 (w:=w) (Sl.nil _ _ _) (by omega) hxa) (show (Lit.int .i64 7).wf=true by decide) (by omega) (by push_cast;omega) (by omega)).mono ?_);rintro e w3 ⟨s5,r5,rv5,rfl,hO5,hF5,⟨RA5,rc5,rfl,hro5⟩,hx3⟩))
   have hal:Ext Nothing w3 ((w3.alloc (.cells s5.arr 30)).alloc (.cells #[.int .i64 r5.code,.int .i64 r5.value,.slice RA5 r5.allocs.length rc5] 34)):=Ext.Al
   have hT5:Blk ((w3.alloc (.cells s5.arr 30)).alloc (.cells #[.int .i64 r5.code,.int .i64 r5.value,.slice RA5 r5.allocs.length rc5] 34)) w3.heap.size 30 s5.arr:=(Blk.new w3 _ _).e0 Ext.Al
   have hE5:Blk ((w3.alloc (.cells s5.arr 30)).alloc (.cells #[.int .i64 r5.code,.int .i64 r5.value,.slice RA5 r5.allocs.length rc5] 34)) (w3.heap.size+1) 34 #[.int .i64 r5.code,.int .i64 r5.value,.slice RA5 r5.allocs.length rc5]:=Blk.new' _ _ _ (by simp)
   have hx5:Ext Nothing wa ((w3.alloc (.cells s5.arr 30)).alloc (.cells #[.int .i64 r5.code,.int .i64 r5.value,.slice RA5 r5.allocs.length rc5] 34)):=hx3.tr hal
   replace hO5:=hO5.Aw hal
   have hz3:=hx3.size
   clear hal hx3
   generalize w3.heap.size=TT5 at hT5 hE5 hz3 ⊢
   generalize ((w3.alloc (.cells s5.arr 30)).alloc (.cells #[.int .i64 r5.code,.int .i64 r5.value,.slice RA5 r5.allocs.length rc5] 34))=w5 at hT5 hE5 hx5 hO5 ⊢
   clear hz3 hro5
   have HYA:=Lib.hid hY.lt
   have hY5:=hY.e0 hx5
   have hx05:=hxa.tr hx5
   clear hY hTa hOa hxa hx5 y7
   have HF5:=Lib.hid hF5
   clear hF5
   have HTK5:=Lib.hid (Fsm.NB HV.out.v (by omega) ((ln:Int)+1) (CB 7 (⟨x0,⟨x1,x2⟩,true,x4,x5,x6,x7⟩ : NodD) [] none 0 0).d rfl HAT.out rfl rfl rfl)
   have HS5:=Lib.hid (show Fsm.EF (ln+1) s5.data by have h9:=Fsm.C9 HG.out hn (c:=(CB 7 (⟨x0,⟨x1,x2⟩,true,x4,x5,x6,x7⟩ : NodD) [] none 0 0).d) (by simp [AP.d]);rw [HF5.out] at h9;exact h9)
   have HX6:=Lib.hid (show 0≤x6∧x6≤(ln:Int) from HV.out.v.ne _ (List.mem_of_getElem? HXI.out))
   have HOK:=Lib.hid (HK.out _ (List.mem_of_getElem? HXI.out))
   have hc5:r5.code=0:=by have h9:=HTK5.out.1;rw [HF5.out] at h9;exact h9
   have HN5:=Lib.hid (show Fsm.nodeAt s5.data x0=some (⟨x0,⟨x1,x2⟩,false,x4,x5,x6+1,x7⟩ : NodD) by have h9:=HTK5.out.2.1;rw [HF5.out] at h9;exact h9)
   have HOV:=Lib.hid (show ∀ b∈s5.allocs,b.node=x0→overB b=true by have h9:=HTK5.out.2.2;rw [HF5.out] at h9;exact h9)
   have r0:w5.cell? ⟨TT5+1,0,none⟩=some (.int .i64 0):=by have h9:w5.cell? ⟨TT5+1,0,none⟩=some (.int .i64 r5.code):=hE5.cell 0;rw [hc5] at h9;exact h9
   clear hc5 HTK5 HF5 hE5
   obtain ⟨ql1,ql2,ql3,ql4,ql5,ql6,ql7⟩:=CF HS5.out (show ln+1≤1048576 by omega)
   have hkJ:s5.nJ≤1048576:=by have:=hO5.jl;omega
   have hkS:s5.nS≤1048576:=by have:=hO5.tl;omega
   have hkN:s5.nN≤1048576:=by have:=hO5.nl;omega
   have hkA:s5.nA≤64:=by have:=hO5.al;omega
   have hkE:s5.nE≤1048576:=by have:=hO5.el;omega
   have hkD:s5.nD≤1048576:=by have:=hO5.dl;omega
   clear ql1 ql2 ql3 ql4 ql5 ql6 ql7
   have hsl5:=hO5.slN
   have hkN5:s5.nN≤67108864:=by omega
   rcases AC (fun y:NodD=>y.id == x0) s5.nodes with ⟨hi,hf,_⟩|⟨j,y,hi,hyj,_,hf,_⟩
   ·exact absurd (show Fsm.nodeAt s5.data x0=none from hf) (by rw [HN5.out];simp)
   have HI:=Lib.hid hi
   have hy:y=(⟨x0,⟨x1,x2⟩,false,x4,x5,x6+1,x7⟩ : NodD):=by have h9:Fsm.nodeAt s5.data x0=some y:=hf;rw [HN5.out] at h9;exact (Option.some.inj h9).symm
   subst hy
   clear hi hf
   go_upto_region 10 with (first|go_skip|go_guarded|((with_reducible refine isW ?_);refine Ad rfl 30 _ rfl STStore TT5 rfl s5.arr (show Blk _ _ 30 _ from hT5) rfl ?_)|(go_at_call 18;(with_reducible refine (EQ s5.AN s5.nN s5.cN s5.nodes x0 w5 hsl5 hkN5 _ _ _ _ _ _ _ _).mono ?_);rintro e w6 ⟨rfl,hx6⟩;(rw [HI.out])))
   have hT6:=hT5.e0 hx6
   have hO6:=hO5.Aw hx6
   have hY6:=hY5.e0 hx6
   have hx06:=hx05.tr hx6
   have r0:=hx6.c0 r0
   clear hT5 hO5 hY5 hx05 hx6 hsl5
   have hlj:j < s5.nN:=by rw [hO6.nl];exact (List.getElem?_eq_some_iff.1 hyj).1
   obtain ⟨hjn,g5,off5,hAe,hce⟩:=hO6.slN.get (Ext.refl _ _) hlj
   rw [(List.getElem?_eq_some_iff.1 hyj).2] at hce
   have m4:w6.cell? ⟨TT5,4,none⟩=some (.slice (some ⟨g5,off5,none⟩) s5.nN s5.cN):=by rw [← hAe];exact hT6.cell 4
   have b3:w6.cell? ⟨g5,off5+j*8+3,none⟩=some (.bool false):=hce 3 _ rfl
   have b6:w6.cell? ⟨g5,off5+j*8+6,none⟩=some (.int .i64 (x6+1)):=hce 6 _ rfl
   have y6:w6.cell? ⟨Y,6,none⟩=some (.int .i64 x6):=hY6.cell 6
   have hj0:(0:Int)≤(j:Int):=by omega
   have hj1:(j:Int) < s5.nN:=by omega
   have hjd:decide ((j:Int) < 0)=false:=by simp
   have hwr:wrap64 (x6+1)=x6+1:=by have:=HX6.out;unfold wrap64;omega
   have v3:(x6+1 != x6+1)=false:=by simp
   clear hAe hce hyj hlj hjn
   refine Au (by kernel_rfl) (by kernel_rfl) ?_
   repeat (first|go_big_quiet_skip|(go_big_quiet_want;(first|((refine AY rfl ?_);(first|(refine Ae (p:=⟨TT5+1,0,none⟩) (v:=.int .i64 0) ?_ ?_ ?_;(focus rfl);(focus (intro W' hW;have q:=hW.c0 r0;go_simp;done)))|(refine Ae (p:=⟨TT5,4,none⟩) (v:=.slice (some ⟨g5,off5,none⟩) s5.nN s5.cN) ?_ ?_ ?_;(focus rfl);(focus (intro W' hW;have q:=hW.c0 m4;go_simp;done)))|(refine Ae (p:=⟨g5,off5+j*8+3,none⟩) (v:=.bool false) ?_ ?_ ?_;(focus rfl);(focus (intro W' hW;have q:=hW.c0 b3;go_simp;done)))|(refine Ae (p:=⟨g5,off5+j*8+6,none⟩) (v:=.int .i64 (x6+1)) ?_ ?_ ?_;(focus rfl);(focus (intro W' hW;have q:=hW.c0 b6;go_simp;done)))|(refine Ae (p:=⟨Y,6,none⟩) (v:=.int .i64 x6) ?_ ?_ ?_;(focus rfl);(focus (intro W' hW;have q:=hW.c0 y6;go_simp;done))));(try simp only [Act.put,zA,zB,zC,zD,zE,zF]);(try simp only [hjd]);(try simp only [hwr]);(try simp only [v3]))|go_big_quiet_op);go_big_quiet_on))
   refine wpQuiet_nil ?_
   intro w7 hx7
   have hT7:=hT6.e0 hx7
   have hO7:=hO6.Aw hx7
   have hY7:=hY6.e0 hx7
   have hx07:=hx06.tr hx7
   clear hT6 hO6 hY6 hx06 hx7 r0 m4 b3 b6 y6 v3 hwr hjd hj0 hj1
   go_wp2
   go_loopw [13] (fun ki wr=>∃ k:Nat,k≤s5.nA∧ki=.int .i64 k∧Ext Nothing w7 wr) (fun ki _=>s5.nA - (intOf ki).toNat)
   case atStart=>exact ⟨0,Nat.zero_le _,rfl,Ext.refl _ _⟩
   case round =>
    obtain ⟨k,hk,rfl,hx⟩:=hrel
    have m5:wr.cell? ⟨TT5,5,none⟩=some (.slice s5.AA s5.nA s5.cA):=(hT7.e0 hx).cell 5
    by_cases hlt:k < s5.nA
    ·obtain ⟨hjn,g,offa,hAe,hace⟩:=hO7.slA.get hx hlt
     have hov:=HOV.out s5.allocs[k] (List.getElem_mem hjn)
     generalize s5.allocs[k]=z at hace hov
     rw [hAe] at m5
     have HTK:=Lib.hid hlt
     have hk0:(0:Int)≤(k:Int):=by omega
     have hk1:(k:Int) < s5.nA:=by omega
     have a5:wr.cell? ⟨g,offa+k*11+5,none⟩=some (.int .i64 z.node):=hace 5 _ rfl
     have a10:wr.cell? ⟨g,offa+k*11+10,none⟩=some (.int .i64 z.state):=hace 10 _ rfl
     clear hAe hace hlt
     cases v1:(z.node == x0) with
     | false =>
      clear hov
      go_wp2_with (first|go_skip|go_guarded)
      go_roundw
      case rel=>exact ⟨k+1,HTK.out,by go_num,hx⟩
      case measure=>have:=HTK.out;simp [intOf];omega
     | true =>
      have v2:decide (z.state < 3)=false:=by have h9:decide (3≤z.state)=true:=hov (by simpa using v1);simp at h9 ⊢;omega
      clear hov
      go_wp2_with (first|go_skip|go_guarded)
      go_roundw
      case rel=>exact ⟨k+1,HTK.out,by go_num,hx⟩
      case measure=>have:=HTK.out;simp [intOf];omega
    have hnl:¬ ((k:Int) < s5.nA):=by omega
    obtain ⟨w8,rfl⟩ : ∃ z:World,z=wr:=⟨_,rfl⟩
    have hT8:=hT7.e0 hx
    have hO8:=hO7.Aw hx
    have hY8:=hY7.e0 hx
    have hx08:=hx07.tr hx
    clear hT7 hO7 hY7 hx07 hx hlt
    have HX7:=Lib.hid (show 0≤x7 from HOK.out.2)
    have h70:0≤x7:=HX7.out
    have h71:x7 < 1099511627776:=by simp at v7;omega
    have h60:0≤x6:=HX6.out.1
    have h61:x6≤(ln:Int):=HX6.out.2
    go_upto_region 18 with (first|go_skip|go_guarded|((with_reducible refine isW ?_);refine Ad rfl 43 _ rfl Bl Y rfl #[.int .i64 x0,.int .i64 x1,.int .i64 x2,.bool true,.bool x4,.int .i64 x5,.int .i64 x6,.int .i64 x7] (show Blk _ _ 43 _ from hY8) rfl ?_))
    have hal:Ext Nothing w8 (w8.alloc (.cells #[.int .i64 x0,.int .i64 x1,.int .i64 x2,.bool true,.bool x4,.int .i64 x5,.int .i64 x6,.int .i64 x7] 43)):=Ext.Al
    have hB0:Blk (w8.alloc (.cells #[.int .i64 x0,.int .i64 x1,.int .i64 x2,.bool true,.bool x4,.int .i64 x5,.int .i64 x6,.int .i64 x7] 43)) w8.heap.size 43 #[.int .i64 x0,.int .i64 x1,.int .i64 x2,.bool true,.bool x4,.int .i64 x5,.int .i64 x6,.int .i64 x7]:=Blk.new _ _ _
    have hYb:=hY8.e0 hal
    have hzB:w.heap.size≤w8.heap.size:=hx08.size
    clear m5
    generalize hBe:w8.heap.size=B at hB0 hzB ⊢
    have HBE:=Lib.hid hBe
    clear hBe
    generalize (w8.alloc (.cells #[.int .i64 x0,.int .i64 x1,.int .i64 x2,.bool true,.bool x4,.int .i64 x5,.int .i64 x6,.int .i64 x7] 43))=wb at hB0 hal hYb ⊢
    have y7:wb.cell? ⟨Y,7,none⟩=some (.int .i64 x7):=hYb.cell 7
    have q7:wb.cell? ⟨B,7,none⟩=some (.int .i64 x7):=hB0.cell 7
    have q7f:wb.frozen? ⟨B,7,none⟩=false:=hB0.frozen 7
    go_upto_region 19 with (first|go_skip|go_guarded)
    have hs:Ext (fun q=>q=B) wb (wb.setCell ⟨B,7,none⟩ (.int .i64 (x7+1))):=Ext.set1 _ _ _ _
    have hB:Blk (wb.setCell ⟨B,7,none⟩ (.int .i64 (x7+1))) B 43 #[.int .i64 x0,.int .i64 x1,.int .i64 x2,.bool true,.bool x4,.int .i64 x5,.int .i64 x6,.int .i64 (x7+1)]:=hB0.Bg 7 _
    have hx89:=hal.trans hs (fun q hq e=>absurd (show q=B from e) (by have h9:q < w8.heap.size:=hq;have:=HBE.out;omega))
    have hT9:=hT8.e0 hx89
    have hO9:=hO8.Aw hx89
    have hY9:=hY8.e0 hx89
    have hx09:=hx08.tr hx89
    clear hs hal hYb hB0 y7 q7 q7f
    generalize (wb.setCell ⟨B,7,none⟩ (.int .i64 (x7+1)))=w9 at hB hT9 hO9 hY9 hx09 hx89 ⊢
    go_upto_region 20 with (first|go_skip|go_guarded|((with_reducible refine isW ?_);refine Ad rfl 30 _ rfl STStore TT5 rfl s5.arr (show Blk _ _ 30 _ from hT9) rfl ?_)|((with_reducible refine isW ?_);refine Ad rfl 43 _ rfl Bl B rfl #[.int .i64 x0,.int .i64 x1,.int .i64 x2,.bool true,.bool x4,.int .i64 x5,.int .i64 x6,.int .i64 (x7+1)] (show Blk _ _ 43 _ from hB) rfl ?_)|(go_at_call 15;(with_reducible refine (Bq (base:=wa.heap.size) (t:=ln+1) (w:=w9) (s:=s5) (c:=CB 6 (⟨x0,⟨x1,x2⟩,true,x4,x5,x6,(x7+1)⟩ : NodD) reports RA rn rc) (ix:=(ln:Int)+2) 1 hO9 HS5.out (FR 6 (⟨x0,⟨x1,x2⟩,true,x4,x5,x6,(x7+1)⟩ : NodD) rc hrep hrn hx09) (show (Lit.int .i64 6).wf=true by decide) (by omega) (by push_cast;omega) (by omega)).mono ?_);rintro e w3 ⟨s10,r10,rv10,rfl,hO10,hF10,⟨RA10,rc10,rfl,hro10⟩,hx3⟩))
    have hal:Ext Nothing w3 ((w3.alloc (.cells s10.arr 30)).alloc (.cells #[.int .i64 r10.code,.int .i64 r10.value,.slice RA10 r10.allocs.length rc10] 34)):=Ext.Al
    have hT10:Blk ((w3.alloc (.cells s10.arr 30)).alloc (.cells #[.int .i64 r10.code,.int .i64 r10.value,.slice RA10 r10.allocs.length rc10] 34)) w3.heap.size 30 s10.arr:=(Blk.new w3 _ _).e0 Ext.Al
    have hE10:Blk ((w3.alloc (.cells s10.arr 30)).alloc (.cells #[.int .i64 r10.code,.int .i64 r10.value,.slice RA10 r10.allocs.length rc10] 34)) (w3.heap.size+1) 34 #[.int .i64 r10.code,.int .i64 r10.value,.slice RA10 r10.allocs.length rc10]:=Blk.new' _ _ _ (by simp)
    have hx10:Ext Nothing w9 ((w3.alloc (.cells s10.arr 30)).alloc (.cells #[.int .i64 r10.code,.int .i64 r10.value,.slice RA10 r10.allocs.length rc10] 34)):=hx3.tr hal
    replace hO10:=(hO10.base (show w.heap.size≤w9.heap.size by have:=hx09.size;omega)).Aw hal
    have hz3:=hx3.size
    clear hal hx3
    generalize w3.heap.size=TT10 at hT10 hE10 hz3 ⊢
    generalize ((w3.alloc (.cells s10.arr 30)).alloc (.cells #[.int .i64 r10.code,.int .i64 r10.value,.slice RA10 r10.allocs.length rc10] 34))=w10 at hT10 hE10 hx10 hO10 ⊢
    clear hz3 hro10
    have HP:=Lib.hid (show rn≤64→r10.code=32 from fun h=>by have h9:=Fsm.KZ s5.data ((ln:Int)+2) (CB 6 (⟨x0,⟨x1,x2⟩,true,x4,x5,x6,(x7+1)⟩ : NodD) reports RA rn rc).d rfl HN5.out rfl (by show reports.length≤64;have:=HRL.out;omega) (by show 1≤x7+1;omega) (by show x7+1≤1099511627776;omega);rw [hF10] at h9;exact h9)
    have hT11:=hT9.e0 hx10
    have hO11:=hO9.Aw hx10
    have hY11:=hY9.e0 hx10
    have hB11:=hB.e0 hx10
    have hx810:=hx89.tr hx10
    clear hT9 hO9 hY9 hB hx09 hx10 hF10 hT10 hO10 hx89
    have y6:w10.cell? ⟨Y,6,none⟩=some (.int .i64 x6):=hY11.cell 6
    have q6:w10.cell? ⟨B,6,none⟩=some (.int .i64 x6):=hB11.cell 6
    have q6f:w10.frozen? ⟨B,6,none⟩=false:=hB11.frozen 6
    go_upto_region 21 with (first|go_skip|go_guarded)
    have hs:Ext (fun q=>q=B) w10 (w10.setCell ⟨B,6,none⟩ (.int .i64 (x6+1))):=Ext.set1 _ _ _ _
    have hB12:Blk (w10.setCell ⟨B,6,none⟩ (.int .i64 (x6+1))) B 43 #[.int .i64 x0,.int .i64 x1,.int .i64 x2,.bool true,.bool x4,.int .i64 x5,.int .i64 (x6+1),.int .i64 (x7+1)]:=hB11.Bg 6 _
    have hx812:=hx810.trans hs (fun q hq e=>absurd (show q=B from e) (by have h9:q < w8.heap.size:=hq;have:=HBE.out;omega))
    have hT12:=hT8.e0 hx812
    have hO12:=hO8.Aw hx812
    have hY12:=hY8.e0 hx812
    have hE12:=hE10.ext hs (fun e=>Blk.ne hE10 hB11 (by decide) e)
    have hx012:=hx08.tr hx812
    clear hs hT11 hO11 hY11 hB11 hE10 hx810 hx812 y6 q6 q6f hT8 hO8 hY8 hx08
    generalize (w10.setCell ⟨B,6,none⟩ (.int .i64 (x6+1)))=w12 at hB12 hT12 hO12 hY12 hE12 hx012 ⊢
    go_upto_region 22 with (first|go_skip|go_guarded|((with_reducible refine isW ?_);refine Ad rfl 30 _ rfl STStore TT5 rfl s5.arr (show Blk _ _ 30 _ from hT12) rfl ?_)|((with_reducible refine isW ?_);refine Ad rfl 43 _ rfl Bl B rfl #[.int .i64 x0,.int .i64 x1,.int .i64 x2,.bool true,.bool x4,.int .i64 x5,.int .i64 (x6+1),.int .i64 (x7+1)] (show Blk _ _ 43 _ from hB12) rfl ?_)|(go_at_call 15;(with_reducible refine (Bq (base:=wa.heap.size) (t:=ln+1) (w:=w12) (s:=s5) (c:=CB 6 (⟨x0,⟨x1,x2⟩,true,x4,x5,(x6+1),(x7+1)⟩ : NodD) reports RA rn rc) (ix:=(ln:Int)+2) 1 hO12 HS5.out (FR 6 (⟨x0,⟨x1,x2⟩,true,x4,x5,(x6+1),(x7+1)⟩ : NodD) rc hrep hrn hx012) (show (Lit.int .i64 6).wf=true by decide) (by omega) (by push_cast;omega) (by omega)).mono ?_);rintro e w3 ⟨s13,r13,rv13,rfl,hO13,hF13,⟨RA13,rc13,rfl,hro13⟩,hx3⟩))
    have hal:Ext Nothing w3 ((w3.alloc (.cells s13.arr 30)).alloc (.cells #[.int .i64 r13.code,.int .i64 r13.value,.slice RA13 r13.allocs.length rc13] 34)):=Ext.Al
    have hT13:Blk ((w3.alloc (.cells s13.arr 30)).alloc (.cells #[.int .i64 r13.code,.int .i64 r13.value,.slice RA13 r13.allocs.length rc13] 34)) w3.heap.size 30 s13.arr:=(Blk.new w3 _ _).e0 Ext.Al
    have hE13:Blk ((w3.alloc (.cells s13.arr 30)).alloc (.cells #[.int .i64 r13.code,.int .i64 r13.value,.slice RA13 r13.allocs.length rc13] 34)) (w3.heap.size+1) 34 #[.int .i64 r13.code,.int .i64 r13.value,.slice RA13 r13.allocs.length rc13]:=Blk.new' _ _ _ (by simp)
    have hx13:Ext Nothing w12 ((w3.alloc (.cells s13.arr 30)).alloc (.cells #[.int .i64 r13.code,.int .i64 r13.value,.slice RA13 r13.allocs.length rc13] 34)):=hx3.tr hal
    replace hO13:=(hO13.base (show w.heap.size≤w12.heap.size by have:=hx012.size;omega)).Aw hal
    have hz3:=hx3.size
    clear hal hx3
    generalize w3.heap.size=TT13 at hT13 hE13 hz3 ⊢
    generalize ((w3.alloc (.cells s13.arr 30)).alloc (.cells #[.int .i64 r13.code,.int .i64 r13.value,.slice RA13 r13.allocs.length rc13] 34))=w13 at hT13 hE13 hx13 hO13 ⊢
    clear hz3 hro13
    have HQ:=Lib.hid (show rn≤64→r13.code=32 from fun h=>by have h9:=Fsm.KZ s5.data ((ln:Int)+2) (CB 6 (⟨x0,⟨x1,x2⟩,true,x4,x5,(x6+1),(x7+1)⟩ : NodD) reports RA rn rc).d rfl HN5.out rfl (by show reports.length≤64;have:=HRL.out;omega) (by show 1≤x7+1;omega) (by show x7+1≤1099511627776;omega);rw [hF13] at h9;exact h9)
    have hT14:=hT12.e0 hx13
    have hO14:=hO12.Aw hx13
    have hY14:=hY12.e0 hx13
    have hE14:=hE12.e0 hx13
    have hx014:=hx012.tr hx13
    clear hT12 hO12 hY12 hB12 hE12 hx012 hx13 hF13 hT13 hO13
    go_upto_region 23 with (first|go_skip|go_guarded|((with_reducible refine isW ?_);refine Ad rfl 30 _ rfl STStore TT5 rfl s5.arr (show Blk _ _ 30 _ from hT14) rfl ?_)|((with_reducible refine isW ?_);refine Ad rfl 43 _ rfl Bl Y rfl #[.int .i64 x0,.int .i64 x1,.int .i64 x2,.bool true,.bool x4,.int .i64 x5,.int .i64 x6,.int .i64 x7] (show Blk _ _ 43 _ from hY14) rfl ?_)|(go_at_call 15;(with_reducible refine (Bq (base:=wa.heap.size) (t:=ln+1) (w:=w13) (s:=s5) (c:=CB 5 (⟨x0,⟨x1,x2⟩,true,x4,x5,x6,x7⟩ : NodD) [] none 0 0) (ix:=(ln:Int)+2) 1 hO14 HS5.out (FR 5 (⟨x0,⟨x1,x2⟩,true,x4,x5,x6,x7⟩ : NodD) 0 (w:=w) (Sl.nil _ _ _) (by omega) hx014) (show (Lit.int .i64 5).wf=true by decide) (by omega) (by push_cast;omega) (by omega)).mono ?_);rintro e w3 ⟨s15,r15,rv15,rfl,hO15,hF15,⟨RA15,rc15,rfl,hro15⟩,hx3⟩))
    have hal:Ext Nothing w3 ((w3.alloc (.cells s15.arr 30)).alloc (.cells #[.int .i64 r15.code,.int .i64 r15.value,.slice RA15 r15.allocs.length rc15] 34)):=Ext.Al
    have hT15:Blk ((w3.alloc (.cells s15.arr 30)).alloc (.cells #[.int .i64 r15.code,.int .i64 r15.value,.slice RA15 r15.allocs.length rc15] 34)) w3.heap.size 30 s15.arr:=(Blk.new w3 _ _).e0 Ext.Al
    have hE15:Blk ((w3.alloc (.cells s15.arr 30)).alloc (.cells #[.int .i64 r15.code,.int .i64 r15.value,.slice RA15 r15.allocs.length rc15] 34)) (w3.heap.size+1) 34 #[.int .i64 r15.code,.int .i64 r15.value,.slice RA15 r15.allocs.length rc15]:=Blk.new' _ _ _ (by simp)
    have hx15:Ext Nothing w13 ((w3.alloc (.cells s15.arr 30)).alloc (.cells #[.int .i64 r15.code,.int .i64 r15.value,.slice RA15 r15.allocs.length rc15] 34)):=hx3.tr hal
    replace hO15:=(hO15.base (show w.heap.size≤w13.heap.size by have:=hx014.size;omega)).Aw hal
    have hz3:=hx3.size
    clear hal hx3
    generalize w3.heap.size=TT15 at hT15 hE15 hz3 ⊢
    generalize ((w3.alloc (.cells s15.arr 30)).alloc (.cells #[.int .i64 r15.code,.int .i64 r15.value,.slice RA15 r15.allocs.length rc15] 34))=w15 at hT15 hE15 hx15 hO15 ⊢
    clear hz3 hro15
    have hu:r15.code=33:=by have h9:=Fsm.K9 s5.data ((ln:Int)+2) (CB 5 (⟨x0,⟨x1,x2⟩,true,x4,x5,x6,x7⟩ : NodD) [] none 0 0).d rfl HOK.out.1 HN5.out rfl rfl;rw [hF15] at h9;exact h9
    have hT16:=hT14.e0 hx15
    have hO16:=hO14.Aw hx15
    have hY16:=hY14.e0 hx15
    have hE16:=hE14.e0 hx15
    have hE17:=hE13.e0 hx15
    have hx016:=hx014.tr hx15
    clear hT14 hO14 hY14 hE14 hE13 hx014 hx15 hF15 hT15 hO15
    go_cut [176] from 159 to 175 (fun e wx=>e=.bool false∧wx=w15)
    case first =>
     have u0:w15.cell? ⟨TT15+1,0,none⟩=some (.int .i64 33):=by have h9:w15.cell? ⟨TT15+1,0,none⟩=some (.int .i64 r15.code):=hE15.cell 0;rw [hu] at h9;exact h9
     have p0:w15.cell? ⟨TT10+1,0,none⟩=some (.int .i64 r10.code):=hE16.cell 0
     have q0:w15.cell? ⟨TT13+1,0,none⟩=some (.int .i64 r13.code):=hE17.cell 0
     clear hT16 hO16 hY16 hE16 hE17 hE15 hu
     cases v1:decide ((rn:Int)≤64) with
     | false=>(go_wp2_with (first|go_skip|go_guarded);go_meet;exact ⟨rfl,rfl⟩)
     | true =>
      have hp:r10.code=32:=HP.out (by simp at v1;omega)
      have hq:r13.code=32:=HQ.out (by simp at v1;omega)
      rw [hp] at p0
      rw [hq] at q0
      clear hp hq
      (go_wp2_with (first|go_skip|go_guarded);go_meet;exact ⟨rfl,rfl⟩)
    case rest =>
     obtain ⟨rfl,rfl⟩:=hcut
     have y5:wc.cell? ⟨Y,5,none⟩=some (.int .i64 x5):=hY16.cell 5
     have y5f:wc.frozen? ⟨Y,5,none⟩=false:=hY16.frozen 5
     clear hE16 hE17 hE15 HP HQ hu
     cases v5:decide (1099511627776≤x5) with
     | true =>
      go_wp2_with (first|go_skip|go_guarded|(go_at_call 17;(with_reducible refine (CJ _).mono ?_);rintro e w9 ⟨rfl,hx9⟩))
      go_ret
      exact ⟨rfl,hx016.tr hx9⟩
     | false =>
      have hbo:=HOK.out.1
      have h50:1≤x5∧x5≤1099511627776:=Oy hbo
      have h5a:1≤x5:=h50.1
      have h5b:x5 < 1099511627776:=by simp at v5;omega
      clear hbo h50
      go_upto_region 28 with (first|go_skip|go_guarded)
      have hs:Ext (fun q=>q=Y) wc (wc.setCell ⟨Y,5,none⟩ (.int .i64 (x5+1))):=Ext.set1 _ _ _ _
      have hY18:Blk (wc.setCell ⟨Y,5,none⟩ (.int .i64 (x5+1))) Y 43 #[.int .i64 x0,.int .i64 x1,.int .i64 x2,.bool true,.bool x4,.int .i64 (x5+1),.int .i64 x6,.int .i64 x7]:=hY16.Bg 5 _
      have hT18:=hT16.ext hs (fun e=>Blk.ne hT16 hY16 (by decide) e)
      have hO18:=hO16.under hs (fun q e=>by have h9:q=Y:=e;have:=HYA.out;omega)
      have hx018:=hx016.trans hs (fun q hq e=>absurd (show q=Y from e) (by have h9:q < w.heap.size:=hq;omega))
      clear hs hT16 hO16 hY16 hx016 y5 y5f
      generalize (wc.setCell ⟨Y,5,none⟩ (.int .i64 (x5+1)))=w18 at hY18 hT18 hO18 hx018 ⊢
      go_upto_region 29 with (first|go_skip|go_guarded|((with_reducible refine isW ?_);refine Ad rfl 30 _ rfl STStore TT5 rfl s5.arr (show Blk _ _ 30 _ from hT18) rfl ?_)|((with_reducible refine isW ?_);refine Ad rfl 43 _ rfl Bl Y rfl #[.int .i64 x0,.int .i64 x1,.int .i64 x2,.bool true,.bool x4,.int .i64 (x5+1),.int .i64 x6,.int .i64 x7] (show Blk _ _ 43 _ from hY18) rfl ?_)|(go_at_call 15;(with_reducible refine (Bq (base:=wa.heap.size) (t:=ln+1) (w:=w18) (s:=s5) (c:=CB 5 (⟨x0,⟨x1,x2⟩,true,x4,(x5+1),x6,x7⟩ : NodD) [] none 0 0) (ix:=(ln:Int)+2) 1 hO18 HS5.out (FR 5 (⟨x0,⟨x1,x2⟩,true,x4,(x5+1),x6,x7⟩ : NodD) 0 (w:=w) (Sl.nil _ _ _) (by omega) hx018) (show (Lit.int .i64 5).wf=true by decide) (by omega) (by push_cast;omega) (by omega)).mono ?_);rintro e w3 ⟨s19,r19,rv19,rfl,hO19,hF19,⟨RA19,rc19,rfl,hro19⟩,hx3⟩))
      have hal:Ext Nothing w3 ((w3.alloc (.cells s19.arr 30)).alloc (.cells #[.int .i64 r19.code,.int .i64 r19.value,.slice RA19 r19.allocs.length rc19] 34)):=Ext.Al
      have hT19:Blk ((w3.alloc (.cells s19.arr 30)).alloc (.cells #[.int .i64 r19.code,.int .i64 r19.value,.slice RA19 r19.allocs.length rc19] 34)) w3.heap.size 30 s19.arr:=(Blk.new w3 _ _).e0 Ext.Al
      have hE19:Blk ((w3.alloc (.cells s19.arr 30)).alloc (.cells #[.int .i64 r19.code,.int .i64 r19.value,.slice RA19 r19.allocs.length rc19] 34)) (w3.heap.size+1) 34 #[.int .i64 r19.code,.int .i64 r19.value,.slice RA19 r19.allocs.length rc19]:=Blk.new' _ _ _ (by simp)
      have hx19:Ext Nothing w18 ((w3.alloc (.cells s19.arr 30)).alloc (.cells #[.int .i64 r19.code,.int .i64 r19.value,.slice RA19 r19.allocs.length rc19] 34)):=hx3.tr hal
      replace hO19:=(hO19.base (show w.heap.size≤w18.heap.size by have:=hx018.size;omega)).Aw hal
      have hz3:=hx3.size
      clear hal hx3
      generalize w3.heap.size=TT19 at hT19 hE19 hz3 ⊢
      generalize ((w3.alloc (.cells s19.arr 30)).alloc (.cells #[.int .i64 r19.code,.int .i64 r19.value,.slice RA19 r19.allocs.length rc19] 34))=w19 at hT19 hE19 hx19 hO19 ⊢
      clear hz3 hro19
      have HRN:=Lib.hid (Fsm.Lg ((ln:Int)+2) (CB 5 (⟨x0,⟨x1,x2⟩,true,x4,(x5+1),x6,x7⟩ : NodD) [] none 0 0).d rfl (OM HOK.out.1 (by omega)) HN5.out (by show x5 < x5+1;omega) ⟨by show 0≤x6+1;omega,by show x6+1 < _;omega⟩)
      have HF19:=Lib.hid hF19
      have hr19:r19.code=0∧r19.value=x6+2:=by have h9:=HRN.out.1;rw [HF19.out] at h9;have h8:r19=⟨0,x6+1+1,[]⟩:=h9;rw [h8];exact ⟨rfl,by show x6+1+1=x6+2;omega⟩
      obtain ⟨q,hq1,hq2,hq3⟩:=HRN.out.2
      rw [HF19.out] at hq1
      have hq3:q.epoch=x6+2:=by rw [hq3];show x6+1+1=x6+2;omega
      have HS19:=Lib.hid (show Fsm.EF (ln+2) s19.data by have h9:=Fsm.C9 HS5.out (by omega) (c:=(CB 5 (⟨x0,⟨x1,x2⟩,true,x4,(x5+1),x6,x7⟩ : NodD) [] none 0 0).d) (by simp [AP.d]);rw [show (((ln+1:Nat):Int)+1)=(ln:Int)+2 by omega,HF19.out] at h9;exact h9)
      have hY19:=hY18.e0 hx19
      have hx020:=hx018.tr hx19
      clear hF19 hT18 hO18 hY18 hx018 hx19
      have z0:w19.cell? ⟨TT19+1,0,none⟩=some (.int .i64 0):=by have h9:w19.cell? ⟨TT19+1,0,none⟩=some (.int .i64 r19.code):=hE19.cell 0;rw [hr19.1] at h9;exact h9
      have z1:w19.cell? ⟨TT19+1,1,none⟩=some (.int .i64 (x6+2)):=by have h9:w19.cell? ⟨TT19+1,1,none⟩=some (.int .i64 r19.value):=hE19.cell 1;rw [hr19.2] at h9;exact h9
      have y6:w19.cell? ⟨Y,6,none⟩=some (.int .i64 x6):=hY19.cell 6
      clear hE19 hY19 hr19
      obtain ⟨ql1,ql2,ql3,ql4,ql5,ql6,ql7⟩:=CF HS19.out (show ln+2≤1048576 by omega)
      have hvJ:s19.nJ≤1048576:=by have:=hO19.jl;omega
      have hvS:s19.nS≤1048576:=by have:=hO19.tl;omega
      have hvN:s19.nN≤1048576:=by have:=hO19.nl;omega
      have hvA:s19.nA≤64:=by have:=hO19.al;omega
      have hvE:s19.nE≤1048576:=by have:=hO19.el;omega
      have hvD:s19.nD≤1048576:=by have:=hO19.dl;omega
      clear ql1 ql2 ql3 ql4 ql5 ql6 ql7
      have hslv:=hO19.slN
      have hkv:s19.nN≤67108864:=by omega
      rcases AC (fun y:NodD=>y.id == x0) s19.nodes with ⟨hi,hf,_⟩|⟨j,y,hi,hyj,_,hf,_⟩
      ·exact absurd (show Fsm.nodeAt s19.data x0=none from hf) (by rw [show Fsm.nodeAt s19.data x0=some q from hq1];simp)
      have HIo:=HI
      clear HI
      have HI:=Lib.hid hi
      have hy:q=y:=by have h9:Fsm.nodeAt s19.data x0=some y:=hf;rw [show Fsm.nodeAt s19.data x0=some q from hq1] at h9;exact Option.some.inj h9
      subst hy
      clear hi hf hq1
      go_upto_region 30 with (first|go_skip|go_guarded|((with_reducible refine isW ?_);refine Ad rfl 30 _ rfl STStore TT19 rfl s19.arr (show Blk _ _ 30 _ from hT19) rfl ?_)|(go_at_call 18;(with_reducible refine (EQ s19.AN s19.nN s19.cN s19.nodes x0 w19 hslv hkv _ _ _ _ _ _ _ _).mono ?_);rintro e w20 ⟨rfl,hx20⟩;(rw [HI.out])))
      have hO20:=hO19.Aw hx20
      have hT20:=hT19.e0 hx20
      have hx021:=hx020.tr hx20
      have z0:=hx20.c0 z0
      have z1:=hx20.c0 z1
      have y6:=hx20.c0 y6
      clear hT19 hO19 hx020 hx20 hslv
      have hlj:j < s19.nN:=by rw [hO20.nl];exact (List.getElem?_eq_some_iff.1 hyj).1
      obtain ⟨hjn,gv,offv,hAe,hce⟩:=hO20.slN.get (Ext.refl _ _) hlj
      rw [(List.getElem?_eq_some_iff.1 hyj).2] at hce
      have m4:w20.cell? ⟨TT19,4,none⟩=some (.slice (some ⟨gv,offv,none⟩) s19.nN s19.cN):=by rw [← hAe];exact hT20.cell 4
      have b3:w20.cell? ⟨gv,offv+j*8+3,none⟩=some (.bool true):=by rw [← hq2];exact hce 3 _ rfl
      have b6:w20.cell? ⟨gv,offv+j*8+6,none⟩=some (.int .i64 (x6+2)):=by rw [← hq3];exact hce 6 _ rfl
      have hj0:(0:Int)≤(j:Int):=by omega
      have hj1:(j:Int) < s19.nN:=by omega
      have hjd:decide ((0:Int)≤(j:Int))=true:=by simp
      have hwr:wrap64 (x6+2)=x6+2:=by unfold wrap64;omega
      have v3:(x6+2 == x6+2)=true:=by simp
      clear hAe hce hyj hlj hjn hq2 hq3
      refine Au (by kernel_rfl) (by kernel_rfl) ?_
      repeat (first|go_big_quiet_skip|(go_big_quiet_want;(first|((refine AY rfl ?_);(first|(refine Ae (p:=⟨TT19+1,0,none⟩) (v:=.int .i64 0) ?_ ?_ ?_;(focus rfl);(focus (intro W' hW;have q:=hW.c0 z0;go_simp;done)))|(refine Ae (p:=⟨TT19+1,1,none⟩) (v:=.int .i64 (x6+2)) ?_ ?_ ?_;(focus rfl);(focus (intro W' hW;have q:=hW.c0 z1;go_simp;done)))|(refine Ae (p:=⟨TT19,4,none⟩) (v:=.slice (some ⟨gv,offv,none⟩) s19.nN s19.cN) ?_ ?_ ?_;(focus rfl);(focus (intro W' hW;have q:=hW.c0 m4;go_simp;done)))|(refine Ae (p:=⟨gv,offv+j*8+3,none⟩) (v:=.bool true) ?_ ?_ ?_;(focus rfl);(focus (intro W' hW;have q:=hW.c0 b3;go_simp;done)))|(refine Ae (p:=⟨gv,offv+j*8+6,none⟩) (v:=.int .i64 (x6+2)) ?_ ?_ ?_;(focus rfl);(focus (intro W' hW;have q:=hW.c0 b6;go_simp;done)))|(refine Ae (p:=⟨Y,6,none⟩) (v:=.int .i64 x6) ?_ ?_ ?_;(focus rfl);(focus (intro W' hW;have q:=hW.c0 y6;go_simp;done))));(try simp only [Act.put,zA,zB,zC,zD,zE,zF]);(try simp only [hjd]);(try simp only [hwr]);(try simp only [v3]))|((refine Bp rfl ?_);(first|(refine Am (f:=17) (args:=#[]) (v:=.bool true) ?_ ?_ ?_;(focus (intro W' hW;go_simp;done));(focus (intro W' hW;refine (CJ W').mono ?_;intro e w' hcc;obtain ⟨he,hxu⟩:=hcc;refine ⟨?_,hxu⟩;exact he;done))));(try simp only [Act.put,zA,zB,zC,zD,zE,zF]);(try simp only [hjd]);(try simp only [hwr]);(try simp only [v3]))|go_big_quiet_op);go_big_quiet_on))
      refine wpQuiet_nil ?_
      intro w21 hx22
      go_wp2
      go_ret
      exact ⟨rfl,hx021.tr hx22⟩
end Go.Proofs.YtccekmeifanipaaGreat
