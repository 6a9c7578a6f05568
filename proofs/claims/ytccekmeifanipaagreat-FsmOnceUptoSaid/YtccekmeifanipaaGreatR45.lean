/- Parts of the proof: OnceF Once -/
import Derived.Test.YtccekmeifanipaaGreatR14
import Derived.Test.YtccekmeifanipaaGreatR35
import Derived.Test.YtccekmeifanipaaGreatR44
import Derived.Test.YtccekmeifanipaaGreatR15
import Derived.Test.YtccekmeifanipaaGreatR34
namespace Go.Proofs.YtccekmeifanipaaGreat
set_option linter.unusedVariables false
set_option linter.unusedSimpArgs false
set_option linter.unusedSectionVars false
section
open Go.RowKit
namespace Fsm
structure Fx (t:Nat) (x:Int) (s:Ab):Prop where
 num:Num (t*1099511627776) s
 evs:Evs s
 w:Wf s
 stt:StT s
 ix:s.index=x
 lj:s.jobs.length≤t
 ln:s.nodes.length≤t
 ld:s.deploys.length≤t
 lx:s.seen.length≤t
theorem Nb {t:Nat} {x ix:Int} {s:Ab} (h:Fx t x s) (ht:t≤1048576) {c:Bi} (hp:c.plan.places.length≤1048576) (hx:x≤ix) (h1:1≤ix):Fx (t+1) ix (apply s ix c).1:=by
 have hq:=PQ hp
 obtain ⟨f1,f2,f3,f4⟩:=KV s ix c
 obtain ⟨e1,e2⟩:=KI h.evs ix c (by rw [h.ix];exact hx) h1
 have g1:=h.lj
 have g2:=h.ln
 have g3:=h.ld
 have g4:=h.lx
 exact ⟨(KT h.num _ c (by omega)).more (by omega),e1,MO h.w _ c,KW h.stt _ c,e2,by omega,by omega,by omega,by omega⟩
theorem Ms {t:Nat} {x ix:Int} {s:Ab} (h:Fx t x s) (hx:x≤ix):Fx t ix { s with index:=ix } :=
 ⟨h.num.Lu ⟨rfl,Ons.refl _⟩,⟨h.evs.keys,h.evs.sorted,fun e he=>⟨(h.evs.bound e he).1,by have:=(h.evs.bound e he).2;have:=h.ix;show e.index≤ix;omega⟩,h.evs.own⟩,⟨h.w.j,h.w.t,h.w.n,h.w.e,h.w.d,h.w.x,h.w.es,h.w.jc,h.w.tc⟩,h.stt,rfl,h.lj,h.ln,h.ld,h.lx⟩
theorem O8:Fx 0 0 new:=⟨Ct.num,Ct.evs,Ct.w,Ct.stt,rfl,Ct.lj,Ct.ln,Ct.ld,Ct.lx⟩
theorem JM {s:Ab} {c:Bi} (ho:(c.op == 3 || c.op == 4 || c.op == 8)=true):(command s c).2.allocs=[]:=by
 simp only [Bool.or_eq_true,beq_iff_eq] at ho
 rcases ho with (ho|ho)|ho
 ·unfold command
  rw [if_neg (by omega),if_pos ho]
  unfold BK
  split
  ·rfl
  split
  ·split <;> rfl
  split <;> rfl
 ·unfold command
  rw [if_neg (by omega),if_neg (by omega),if_pos ho]
  unfold cancel
  split <;> rfl
 unfold command
 rw [if_neg (by omega),if_neg (by omega),if_neg (by omega),if_neg (by omega),if_neg (by omega),if_neg (by omega),if_pos ho]
 unfold drain
 split <;> rfl
theorem O6 {s:Ab} {ix:Int} {c:Bi} (hs:∀ y∈s.seen,y.answer.allocs=[]) (ho:(c.op == 3 || c.op == 4 || c.op == 8)=true):(apply s ix c).2.allocs=[]:=by
 unfold apply
 simp only
 split
 ·exact JM ho
 split
 ·rfl
 split
 ·rename_i x hx
  split
  ·rfl
  exact hs x (List.mem_of_find?_eq_some hx)
 exact JM ho
end Fsm
end
section
open Go.RowKit
theorem AP.one {w:World} {c:AP} (h:c.Read w):c.arr.toList.all Value.oneCell' = true:=by
 have a:=h.o25
 have b:=h.o26
 show (true && (true && (true && (true && (true && (true && (true && (true && (true && (true && (true && (true && (true && (true && (true && (true && (true && (true && (true && (true && (true && (true && (true && (true && (true && (c.v25.oneCell' && (c.v26.oneCell' && true)))))))))))))))))))))))))))=true
 rw [a,b]
 rfl
theorem Jy {t:Nat} {x:Int} {s:Aa} (h:Fsm.Fx t x s.data) (ht:t≤1048576):s.jobs.length≤t∧s.stable.length≤t∧s.nodes.length≤t∧s.allocs.length≤64∧s.evals.length≤t∧s.deploys.length≤t∧s.seen.length≤t:=by
 have h1:(s.jobs.map (·.1)).length≤t:=h.lj
 have h2:(s.stable.map (·.1)).length≤(s.jobs.map (·.1)).length:=Fsm.Jt h.w.t h.stt
 have h3:s.evals.length=(s.jobs.map (·.1)).length:=by have:=congrArg List.length h.evs.keys;simpa [Aa.data] using this
 have h4:(s.seen.map (·.1)).length≤t:=h.lx
 have h5:=h.ln
 have h6:=h.ld
 have h7:=h.num.len
 rw [List.length_map] at h1 h2 h3 h4
 rw [List.length_map] at h2
 exact ⟨h1,by omega,h5,h7,by omega,h6,h4⟩
theorem Ie {base t:Nat} {x:Int} {w:World} {s:Aa} (ho:Az base w s) (hg:Fsm.Fx t x s.data) (ht:t≤1048576):s.Lay w:=by
 obtain ⟨a,b,c',d,e,f,g⟩:=Jy hg ht
 exact ho.lay (by omega) (by omega) (by omega) (by omega) (by omega) (by omega) (by omega)
theorem IL {base t:Nat} {x:Int} {w:World} {s:Aa} {c:AP} {ix:Int} (term:Int) (ho:Az base w s) (hg:Fsm.Fx t x s.data) (hc:DZ w.heap.size w c) (hop:(Lit.int .i64 c.op).wf=true) (ht:t≤1048575) (hix:x≤ix) (h1:1≤ix) :
  Calls Tryz.prog 15 #[.agg s.arr,.agg (c.ent ix term)] w fun e w'=>NF s c ix w e w':=by
 obtain ⟨a,b,c',d,e,f,g⟩:=Jy hg (by omega)
 refine Qx Pt s c ix term w (Ie ho hg (by omega)) (fun y hy=>by obtain ⟨_,_,_,h⟩:=ho.xa y hy;exact h) hc hop ⟨by omega,by omega,by omega,by omega,by omega,by omega⟩ (by omega) hg.w hg.evs ?_ h1
 have h2:s.index=x:=hg.ix
 omega
theorem LG {a b:Aa} (h:b.data=a.data):Oq a b:=by
 have e:=h
 simp only [Aa.data] at e
 injection e with e1 e2 e3 e4 e5 e6 e7 e8 e9
 exact ⟨e1,e2,e3,e4,e5,e6,e7,e8,e9⟩
set_option maxRecDepth 20000 in
set_option maxHeartbeats 16000000 in
theorem PU (LA:Option Addr) (ln lc:Nat) (l:List AP) (w:World) (hl:Sl w 27 LA ln (l.map AP.cells)) (hr:∀ c∈l,c.Read w) (hn:ln≤1048575) :
  Calls Tryz.prog 5 #[.slice LA ln lc] w fun e w'=>e=.returned (.bool true)∧Ext Nothing w w':=by
 go_enter Tryz.func5,Tryz.ntmps5
 have hln:=Lib.hid hl.len
 go_upto_region 2 with (first|go_skip|go_guarded|(go_at_call 14;(with_reducible refine (QV w).mono ?_);rintro e w1 ⟨rfl,hx1⟩))
 have hxT:Ext Nothing w1 (w1.alloc (.cells #[.int .i64 0,.int .i64 1,.slice none 0 0,.slice none 0 0,.slice none 0 0,.slice none 0 0,.slice none 0 0,.slice none 0 0,.slice none 0 0] 30)):=Ext.Al
 have hT0:Blk (w1.alloc (.cells #[.int .i64 0,.int .i64 1,.slice none 0 0,.slice none 0 0,.slice none 0 0,.slice none 0 0,.slice none 0 0,.slice none 0 0,.slice none 0 0] 30)) w1.heap.size 30 ES.arr:=Blk.new _ _ _
 have hzT:w.heap.size≤w1.heap.size:=hx1.size
 have hx0:=hx1.tr hxT
 generalize hTT:w1.heap.size=T at hT0 hzT ⊢
 generalize (w1.alloc (.cells #[.int .i64 0,.int .i64 1,.slice none 0 0,.slice none 0 0,.slice none 0 0,.slice none 0 0,.slice none 0 0,.slice none 0 0,.slice none 0 0] 30))=w2 at hT0 hx0 ⊢
 clear hxT hx1 hTT
 have hO0:Az w.heap.size w2 ES:=GX _ _
 go_wp2
 go_loopw [4,5] (fun vn vi wr=>∃ t n:Nat,t≤ln∧vi=.int .i64 t∧vn=.int .i64 n∧n≤2*t∧∃ sV:Aa,Az w.heap.size wr sV∧Fsm.Fx t n sV.data∧Blk wr T 30 sV.arr∧Ext Nothing w wr) (fun _ vi _=>ln - (intOf vi).toNat)
 case atStart=>exact ⟨0,0,Nat.zero_le _,rfl,rfl,Nat.zero_le _,ES,hO0,Fsm.O8,hT0,hx0⟩
 case round =>
  obtain ⟨t,n,ht,rfl,rfl,hn2,sV,hO,hG,hT,hx⟩:=hrel
  clear hO0 hT0 hx0
  by_cases hlt:t < ln
  ·obtain ⟨hjn,b,off,hLe,hce⟩:=hl.get hx hlt
   have hrd:=hr _ (List.getElem_mem hjn)
   generalize l[t]=c at hce hrd
   subst hLe
   have hk0:(0:Int)≤(t:Int):=by omega
   have hk1:(t:Int) < ln:=by omega
   have HT:=Lib.hid hlt
   have HN:=Lib.hid hn2
   have HG:=Lib.hid hG
   have hbw:b < w.heap.size:=by obtain ⟨q,hq⟩:=hl.blk (show 0 < ln by omega);exact hq
   have hnb:(n:Int)≤2097152:=by omega
   have hn0:(0:Int)≤(n:Int):=by omega
   have HXC:=Lib.hid (show ∀ j u,c.arr.toList[j]? = some u→wr.cell? ⟨b,off+t*27+j,none⟩=some u from hce)
   clear hce hG hlt hn2
   obtain ⟨wo,rfl⟩ : ∃ z:World,z=wr:=⟨_,rfl⟩
   go_upto_region 8 with (first|go_skip|go_guarded)
   have hal:Ext Nothing wo (wo.alloc (.cells #[.int .i64 0,.int .i64 0,.slice none 0 0] 34)):=Ext.Al
   have hQ:Blk (wo.alloc (.cells #[.int .i64 0,.int .i64 0,.slice none 0 0] 34)) wo.heap.size 34 #[.int .i64 0,.int .i64 0,.slice none 0 0]:=Blk.new _ _ _
   have hzQ:w.heap.size≤wo.heap.size:=hx.size
   have hTQ:T < wo.heap.size:=hT.lt
   have hTq:=hT.e0 hal
   have hOq:=hO.Aw hal
   have hxq:=hx.tr hal
   have HCE:=Lib.hid (show ∀ j u,c.arr.toList[j]? = some u→((wo.alloc (.cells #[.int .i64 0,.int .i64 0,.slice none 0 0] 34))).cell? ⟨b,off+t*27+j,none⟩=some u from fun j u hu=>hal.c0 (HXC.out j u hu))
   clear hT hO hx hal HXC
   generalize wo.heap.size=Q at hQ hzQ hTQ ⊢
   generalize (wo.alloc (.cells #[.int .i64 0,.int .i64 0,.slice none 0 0] 34))=wq at hQ hTq hOq hxq HCE ⊢
   have hd:Ext Nothing wq wq.drew:=(Ext.refl _ _).drew
   refine zS (S:=fun W'=>Ext (fun q=>q=T ∨ q=Q) wq W') (by kernel_rfl) ?_
   have hS:=hd.any (S:=fun q=>q=T ∨ q=Q)
   generalize wq.drew=Wd at hd hS ⊢
   refine zV 1 (.int .i64 ((n:Int)+1)) rfl (by kernel_rfl) hS (fun _ _ _ h=>h) (fun W' hS'=>by go_simp) ?_
   refine zV 2 (.slice (some ⟨b,off,none⟩) ln lc) rfl (by kernel_rfl) hS (fun _ _ _ h=>h) (fun W' hS'=>by go_simp) ?_
   refine zV 3 (.int .i64 (t:Int)) rfl (by kernel_rfl) hS (fun _ _ _ h=>h) (fun W' hS'=>by go_simp) ?_
   refine zV 4 (.pointer (some ⟨b,off+t*27,none⟩)) rfl (by kernel_rfl) hS (fun _ _ _ h=>h) (fun W' hS'=>by go_simp) ?_
   refine zV 5 (.agg c.arr) rfl (by kernel_rfl) hS (fun _ _ _ h=>h) (fun W' hS'=>by exact run_load_struct (sz:=27) (b:=b) (off:=off+t*27) rfl Er (by go_simp) (fun j u hu=>hS'.cell (HCE.out j u hu) (fun e=>absurd (show b=T ∨ b=Q from e) (by omega))) rfl) ?_
   refine zV 6 (.agg (c.ent ((n:Int)+1) 1)) rfl (by kernel_rfl) hS (fun _ _ _ h=>h) (fun W' hS'=>by go_simp) ?_
   (try simp only [Act.put,zA,zB,zC,zD,zE,zF])
   have hTd:=hTq.e0 hd
   have hQd:=hQ.e0 hd
   have hOd:=hOq.Aw hd
   have hcq:=hrd.ME (hxq.tr hd)
   refine zO 0 (by kernel_rfl) ?_
   refine wpOp_val (v:=.agg sV.arr) (w':=Wd) rfl (by rfl) (by exact Ar rfl STStore (by go_simp) hTd rfl) ⟨hS,?_⟩
   (try simp only [Act.put,zA,zB,zC,zD,zE,zF])
   refine zO 7 (by kernel_rfl) ?_
   refine Ai (f:=15) (args:=#[.agg sV.arr,.agg (c.ent ((n:Int)+1) 1)]) rfl (by rfl) (by go_simp) ((IL (base:=w.heap.size) (t:=t) (x:=n) (w:=Wd) (s:=sV) (c:=c) (ix:=((n:Int)+1)) 1 hOd HG.out hcq hrd.op (by have:=HT.out;omega) (by omega) (by omega)).mono ?_)
   rintro e w2 ⟨s2,r2,rv2,rfl,hO2,hF2,⟨RA2,rc2,rfl,hro2⟩,hx2⟩
   have hT2:=hTd.e0 hx2
   have hQ2:=hQd.e0 hx2
   have hS2:=hS.trans hx2 (fun _ _ e=>e.elim)
   have HG2:=Lib.hid (show Fsm.Fx (t+1) ((n:Int)+1) s2.data by have h9:=Fsm.Nb (c:=c.d) HG.out (by have:=HT.out;omega) hrd.EI (ix:=((n:Int)+1)) (by omega) (by omega);rw [hF2] at h9;exact h9)
   have HF2:=Lib.hid hF2
   clear hF2 hro2
   refine ⟨_,rfl,hS2,?_⟩
   (try simp only [Act.put,zA,zB,zC,zD,zE,zF])
   refine zO 8 (by kernel_rfl) ?_
   refine wpOp_val (v:=.tuple #[.agg s2.arr,.agg #[.int .i64 r2.code,.int .i64 r2.value,.slice RA2 r2.allocs.length rc2]]) (w':=w2) rfl (by rfl) (by go_simp) ⟨hS2,?_⟩
   (try simp only [Act.put,zA,zB,zC,zD,zE,zF])
   refine zV 9 (.agg s2.arr) rfl (by kernel_rfl) hS2 (fun _ _ _ h=>h) (fun W' hS'=>by go_simp) ?_
   refine zV 10 (.agg #[.int .i64 r2.code,.int .i64 r2.value,.slice RA2 r2.allocs.length rc2]) rfl (by kernel_rfl) hS2 (fun _ _ _ h=>h) (fun W' hS'=>by go_simp) ?_
   (try simp only [Act.put,zA,zB,zC,zD,zE,zF])
   refine zO 11 (by kernel_rfl) ?_
   refine Bd (p:=T) (cs:=s2.arr) rfl (by rfl) rfl (by go_simp) (by go_simp) hT2 rfl STStore rfl rfl (fun w3 hB3 hx3=>?_)
   have hS3:=hS2.trans hx3 (fun q hq e=>.inl e)
   have hQ3:=hQ2.ext hx3 (fun e=>absurd (show Q=T from e) (by omega))
   refine ⟨hS3,?_⟩
   (try simp only [Act.put,zA,zB,zC,zD,zE,zF])
   refine zO 12 (by kernel_rfl) ?_
   refine Bd (p:=Q) (cs:=#[.int .i64 r2.code,.int .i64 r2.value,.slice RA2 r2.allocs.length rc2]) rfl (by rfl) rfl (by go_simp) (by go_simp) hQ3 rfl STResult rfl rfl (fun w5 hQ5 hx5=>?_)
   have hS5:=hS3.trans hx5 (fun q hq e=>.inr e)
   refine ⟨hS5,wpAnyH_done (by kernel_rfl) ?_ _⟩
   (try simp only [Act.put,zA,zB,zC,zD,zE,zF])
   have hB5:=hB3.ext hx5 (fun e=>absurd (show T=Q from e) (by omega))
   have hO5:=((hO2.base (hxq.tr hd).size).keep hx3 (Apart.one hT2 (by decide))).keep hx5 (Apart.one hQ3 (by decide))
   have hx05:Ext Nothing w w5:=hxq.trans hS5 (fun b hb e=>absurd (show b=T ∨ b=Q from e) (by have h9:b < w.heap.size:=hb;omega))
   have HC5:=Lib.hid (show ∀ j u,c.arr.toList[j]? = some u→w5.cell? ⟨b,off+t*27+j,none⟩=some u from fun j u hu=>hS5.cell (HCE.out j u hu) (fun e=>absurd (show b=T ∨ b=Q from e) (by omega)))
   have HXN:=Lib.hid (show ∀ y∈sV.data.seen,y.answer.allocs=[] from fun y hy=>by obtain ⟨z,hz,rfl⟩:=List.mem_map.1 hy;obtain ⟨_,_,_,h⟩:=hOq.xa z hz;exact h)
   clear hd hS hS2 hS3 hS5 hTq hTd hQ hQd hOq hOd hxq hcq hT2 hQ2 hx2 hO2 hx3 hx5 hB3 hQ3 HCE
   go_upto_region 9 with (first|go_skip|go_guarded)
   have hone:=AP.one hrd
   go_upto_region 10 with (first|go_skip|go_guarded|((with_reducible refine isW ?_);refine Af rfl 51 _ rfl Er b (off+t*27) rfl c.arr HC5.out rfl ?_)|((with_reducible refine isW ?_);refine Ag rfl 51 _ _ rfl Er w5.heap.size rfl c.arr rfl (show Blk _ _ 51 _ from Blk.new w5 _ _) rfl rfl hone ?_;intro w6 hC6 hx6))
   have hal:Ext Nothing w5 w6:=by refine Ext.trans ?_ hx6 (fun q hq e=>?_);(focus exact Ext.Al);exact absurd (show q=w5.heap.size from e) (by have h9:q < w5.heap.size:=hq;omega)
   have hT6:=hB5.e0 hal
   have hQ6:=hQ5.e0 hal
   have hO6:=hO5.Aw hal
   have hx06:=hx05.tr hal
   clear hx6 hal hB5 hQ5 hO5 hx05 HC5 hone
   generalize w5.heap.size=C at hC6 ⊢
   go_frame
   go_cut [55] from 38 to 54 (fun e wx=>e=.bool ((!(c.op == 3 || c.op == 4 || c.op == 8)) || (c.client == 0))∧wx=w6)
   case first =>
    have p0:w6.cell? ⟨C,0,none⟩=some (.int .i64 c.op):=hC6.cell 0
    have p1:w6.cell? ⟨C,1,none⟩=some (.int .i64 c.client):=hC6.cell 1
    clear hT6 hQ6 hO6 hx06 hC6
    cases v1:(c.op == 3) <;> cases v2:(c.op == 4) <;> cases v3:(c.op == 8) <;> cases v4:(c.client == 0) <;> (have v5:(c.op != 3)=(!(c.op == 3)):=rfl;have v6:(c.op != 4)=(!(c.op == 4)):=rfl;have v7:(c.op != 8)=(!(c.op == 8)):=rfl;rw [v1] at v5;rw [v2] at v6;rw [v3] at v7;go_wp2_with (first|go_skip|go_guarded);go_meet;exact ⟨by simp [v1,v2,v3,v4],rfl⟩)
   case rest =>
    obtain ⟨rfl,rfl⟩:=hcut
    have HSK:=Lib.hid (show ((!(c.op == 3 || c.op == 4 || c.op == 8)) || (c.client == 0))=false→(c.op == 3 || c.op == 4 || c.op == 8)=true∧(c.client == 0)=false from fun e=>by rw [Bool.or_eq_false_iff] at e;refine ⟨?_,e.2⟩;have h9:=e.1;revert h9;cases (c.op == 3 || c.op == 4 || c.op == 8) <;> simp)
    generalize ((!(c.op == 3 || c.op == 4 || c.op == 8)) || (c.client == 0))=skip at HSK ⊢
    cases skip with
    | true =>
     go_wp2_with (first|go_skip|go_guarded)
     go_roundw
     case rel=>exact ⟨t+1,n+1,HT.out,by go_num,by go_num,by have:=HN.out;omega,s2,hO6,by have h9:=HG2.out;push_cast;exact h9,hT6,hx06⟩
     case measure=>have:=HT.out;simp [intOf];omega
    | false =>
     obtain ⟨hop,hcl⟩:=HSK.out rfl
     have HOP:=Lib.hid hop
     have HCL:=Lib.hid hcl
     clear hop hcl
     obtain ⟨w7,rfl⟩ : ∃ z:World,z=wc:=⟨_,rfl⟩
     go_upto_region 13 with (first|go_skip|go_guarded|((with_reducible refine isW ?_);refine Ad rfl 30 _ rfl STStore T rfl s2.arr (show Blk _ _ 30 _ from hT6) rfl ?_)|((with_reducible refine isW ?_);refine Ad rfl 51 _ rfl Er C rfl c.arr (show Blk _ _ 51 _ from hC6) rfl ?_)|(go_at_call 15;(with_reducible refine (IL (base:=w.heap.size) (t:=t+1) (x:=(n:Int)+1) (w:=w7) (s:=s2) (c:=c) (ix:=(n:Int)+1+1) 2 hO6 HG2.out (hrd.ME hx06) hrd.op (by have:=HT.out;omega) (by omega) (by omega)).mono ?_);rintro e w3 ⟨s5,r5,rv5,rfl,hO5,hF5,⟨RA5,rc5,rfl,hro5⟩,hx3⟩;have HX3:=Lib.hid hx3))
     have hal:Ext Nothing w3 ((w3.alloc (.cells s5.arr 30)).alloc (.cells #[.int .i64 r5.code,.int .i64 r5.value,.slice RA5 r5.allocs.length rc5] 34)):=Ext.Al
     have hT8:Blk ((w3.alloc (.cells s5.arr 30)).alloc (.cells #[.int .i64 r5.code,.int .i64 r5.value,.slice RA5 r5.allocs.length rc5] 34)) w3.heap.size 30 s5.arr:=(Blk.new w3 _ _).e0 Ext.Al
     have hE8:Blk ((w3.alloc (.cells s5.arr 30)).alloc (.cells #[.int .i64 r5.code,.int .i64 r5.value,.slice RA5 r5.allocs.length rc5] 34)) (w3.heap.size+1) 34 #[.int .i64 r5.code,.int .i64 r5.value,.slice RA5 r5.allocs.length rc5]:=Blk.new' _ _ _ (by simp)
     have hx78:Ext Nothing w7 ((w3.alloc (.cells s5.arr 30)).alloc (.cells #[.int .i64 r5.code,.int .i64 r5.value,.slice RA5 r5.allocs.length rc5] 34)):=hx3.tr hal
     replace hO5:=(hO5.base (show w.heap.size≤w7.heap.size by have:=hx06.size;omega)).Aw hal
     clear hal hx3 hro5
     have hTTw:w.heap.size≤w3.heap.size:=by have h1:=hx06.size;have h2:Ext Nothing w7 w3:=HX3.out;have:=h2.size;omega
     have hTTT:T < w3.heap.size:=by have h1:=hT6.lt;have h2:Ext Nothing w7 w3:=HX3.out;have:=h2.size;omega
     generalize w3.heap.size=TT at hT8 hE8 hTTw hTTT ⊢
     generalize ((w3.alloc (.cells s5.arr 30)).alloc (.cells #[.int .i64 r5.code,.int .i64 r5.value,.slice RA5 r5.allocs.length rc5] 34))=w8 at hT8 hE8 hx78 hO5 ⊢
     clear HX3
     have HON:=Lib.hid (Fsm.NA sV.data ((n:Int)+1) ((n:Int)+1+1) c.d HOP.out HCL.out)
     rw [HF2.out] at HON
     have hF9:(s5.data,r5)=(({ s2.data with index:=(n:Int)+1+1 }:Ab),r2):=by rw [← hF5];exact HON.out
     injection hF9 with hd5 hr5
     subst hr5
     have HD5:=Lib.hid hd5
     have hnil:=Lib.hid (show r5.allocs=[] by have h9:=Fsm.O6 (s:=sV.data) (ix:=((n:Int)+1)) (c:=c.d) HXN.out HOP.out;rw [HF2.out] at h9;exact h9)
     clear hd5 hF5 HON
     have hT7:=hT6.e0 hx78
     have hQ7:=hQ6.e0 hx78
     have hO7:=hO6.Aw hx78
     have hx08:=hx06.tr hx78
     clear hT6 hQ6 hO6 hx06 hC6 hx78
     rw [hnil.out] at hQ7 hE8
     rw [List.length_nil] at hQ7 hE8
     have hsl1:Sl w8 11 RA2 0 (r5.allocs.map Ac.cells):=by rw [hnil.out];exact Sl.nil _ _ _
     have hsl2:Sl w8 11 RA5 0 (r5.allocs.map Ac.cells):=by rw [hnil.out];exact Sl.nil _ _ _
     go_upto_region 14 with (first|go_skip|go_guarded|((with_reducible refine isW ?_);refine Ad rfl 34 _ rfl STResult Q rfl #[.int .i64 r5.code,.int .i64 r5.value,.slice RA2 0 rc2] (show Blk _ _ 34 _ from hQ7) rfl ?_)|((with_reducible refine isW ?_);refine Ad rfl 34 _ rfl STResult (TT+1) rfl #[.int .i64 r5.code,.int .i64 r5.value,.slice RA5 0 rc5] (show Blk _ _ 34 _ from hE8) rfl ?_)|(go_at_call 19;(with_reducible refine (JL r5 RA2 0 rc2 RA5 rc5 w8 hsl1 hsl2 (by omega)).mono ?_);rintro e w9 ⟨rfl,hx9a⟩))
     have hT9:=hT7.e0 hx9a
     have hTT9:=hT8.e0 hx9a
     have hO9:=hO7.Aw hx9a
     have hP9:=hO5.Aw hx9a
     have hx09:=hx08.tr hx9a
     clear hT7 hT8 hO7 hO5 hx08 hx9a hQ7 hE8 hsl1 hsl2
     go_upto_region 15 with (first|go_skip|go_guarded|((with_reducible refine isW ?_);refine Ad rfl 30 _ rfl STStore T rfl s2.arr (show Blk _ _ 30 _ from hT9) rfl ?_))
     have hal:Ext Nothing w9 (w9.alloc (.cells s2.arr 30)):=Ext.Al
     have hV0:Blk (w9.alloc (.cells s2.arr 30)) w9.heap.size 30 s2.arr:=Blk.new _ _ _
     generalize hVe:w9.heap.size=V at hV0 ⊢
     have HVE:=Lib.hid hVe
     clear hVe
     generalize (w9.alloc (.cells s2.arr 30))=wv at hV0 hal ⊢
     have v0:wv.cell? ⟨V,0,none⟩=some (.int .i64 s2.index):=hV0.cell 0
     have v0f:wv.frozen? ⟨V,0,none⟩=false:=hV0.frozen 0
     go_upto_region 16 with (first|go_skip|go_guarded)
     have hs:Ext (fun q=>q=V) wv (wv.setCell ⟨V,0,none⟩ (.int .i64 ((n:Int)+1+1))):=Ext.set1 _ _ _ _
     have hV:Blk (wv.setCell ⟨V,0,none⟩ (.int .i64 ((n:Int)+1+1))) V 30 ({ s2 with index:=(n:Int)+1+1 }:Aa).arr:=hV0.Bg 0 _
     have hx9w:=hal.trans hs (fun q hq e=>absurd (show q=V from e) (by have h9:q < w9.heap.size:=hq;have:=HVE.out;omega))
     have hTx:=hT9.e0 hx9w
     have hTTx:=hTT9.e0 hx9w
     have hOx:=hO9.Aw hx9w
     have hPx:=hP9.Aw hx9w
     have hx0x:=hx09.tr hx9w
     clear hs hal hV0 v0 v0f hT9 hTT9 hO9 hP9 hx09 hx9w HVE
     generalize (wv.setCell ⟨V,0,none⟩ (.int .i64 ((n:Int)+1+1)))=wx at hV hTx hTTx hOx hPx hx0x ⊢
     have HS5:=Lib.hid (show Fsm.Fx (t+1) ((n:Int)+1+1) s5.data by rw [HD5.out];exact Fsm.Ms HG2.out (by omega))
     have HLa:=Lib.hid (Ie hPx HS5.out (by have:=HT.out;omega))
     have HLb:=Lib.hid (Ie (s:={ s2 with index:=(n:Int)+1+1 }) (hOx.index _) (show Fsm.Fx (t+1) ((n:Int)+1+1) _ from Fsm.Ms HG2.out (by omega)) (by have:=HT.out;omega))
     have HSM:=Lib.hid (LG (a:=s5) (b:={ s2 with index:=(n:Int)+1+1 }) (by rw [HD5.out];rfl))
     go_upto_region 17 with (first|go_skip|go_guarded|((with_reducible refine isW ?_);refine Ad rfl 30 _ rfl STStore TT rfl s5.arr (show Blk _ _ 30 _ from hTTx) rfl ?_)|((with_reducible refine isW ?_);refine Ad rfl 30 _ rfl STStore V rfl ({ s2 with index:=(n:Int)+1+1 }:Aa).arr (show Blk _ _ 30 _ from hV) rfl ?_)|(go_at_call 20;(with_reducible refine (PP s5 { s2 with index:=(n:Int)+1+1 } wx HLa.out HLb.out HSM.out).mono ?_);rintro e wy ⟨rfl,hxy⟩))
     have hTy:=hTx.e0 hxy
     have hTTy:=hTTx.e0 hxy
     have hPy:=hPx.Aw hxy
     have hx0y:=hx0x.tr hxy
     clear hTx hTTx hPx hOx hx0x hxy hV
     go_wp2_with (first|go_skip|go_guarded|((with_reducible refine isW ?_);refine Ad rfl 30 _ rfl STStore TT rfl s5.arr (show Blk _ _ 30 _ from hTTy) rfl ?_)|((with_reducible refine isW ?_);refine Ag rfl 30 _ _ rfl STStore T rfl s5.arr rfl (show Blk _ _ 30 _ from hTy) rfl rfl rfl ?_;intro wz hTz hxz))
     go_roundw
     case rel=>exact ⟨t+1,n+2,HT.out,by go_num,by go_num,by have:=HN.out;omega,s5,hPy.keep hxz (Apart.one hTy (by decide)),by have h9:=HS5.out;rw [show (((n+2:Nat):Int))=(n:Int)+1+1 by omega];exact h9,hTz,hx0y.trans hxz (fun q hq e=>by have h9:q < w.heap.size:=hq;have:q=T:=e;omega)⟩
     case measure=>have:=HT.out;simp [intOf];omega
  have hnl:¬ ((t:Int) < ln):=by omega
  go_wp2_with (first|go_skip|go_guarded|(go_at_call 17;(with_reducible refine (CJ _).mono ?_);rintro e w9 ⟨rfl,hx9⟩))
  go_ret
  exact ⟨rfl,hx.tr hx9⟩
end
end Go.Proofs.YtccekmeifanipaaGreat
