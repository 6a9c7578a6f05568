/- Parts of the proof: GrownF Grown Behind -/
import Derived.Test.YtccekmeifanipaaGreatR14
import Derived.Test.YtccekmeifanipaaGreatR35
import Derived.Test.YtccekmeifanipaaGreatR04
import Derived.Test.YtccekmeifanipaaGreatR03
namespace Go.Proofs.YtccekmeifanipaaGreat
set_option linter.unusedVariables false
set_option linter.unusedSimpArgs false
set_option linter.unusedSectionVars false
section
open Go.RowKit
namespace Fsm
def Dn (l:List Bi):Nat→Ab
 | 0=>new
 | t+1=>match l[t]? with
  | some c=>(apply (Dn l t) ((t:Int)+1) c).1
  | none=>Dn l t
theorem Jj {l:List Bi} {t:Nat} {c:Bi} (h:l[t]? = some c):Dn l (t+1)=(apply (Dn l t) ((t:Int)+1) c).1:=by
 simp only [Dn,h]
theorem H5 {l:List Bi} {P:Nat→Ab→Prop} (h0:P 0 new) (hs:∀ t s c,t < l.length→c∈l→P t s→P (t+1) (apply s ((t:Int)+1) c).1):∀ t,t≤l.length→P t (Dn l t)
 | 0,_=>h0
 | t+1,h=>by
  have h1:l[t]? = some l[t]:=List.getElem?_eq_getElem (by omega)
  rw [Jj h1]
  exact hs t _ _ (by omega) (List.getElem_mem (by omega)) (H5 h0 hs t (by omega))
end Fsm
end
section
open Go.RowKit
set_option maxRecDepth 20000 in
set_option maxHeartbeats 16000000 in
theorem KO (LA:Option Addr) (ln lc:Nat) (l:List AP) (w:World) (hl:Sl w 27 LA ln (l.map AP.cells)) (hr:∀ c∈l,c.Read w) (hn:ln≤1048576) :
  Calls Tryz.prog 24 #[.slice LA ln lc] w fun e w'=>∃ sV:Aa,e=.returned (.agg sV.arr)∧Az w.heap.size w' sV∧Fsm.EF ln sV.data∧sV.data=Fsm.Dn (l.map AP.d) ln∧Ext Nothing w w':=by
 have hxR:Ext Nothing w (w.alloc (.cells #[.int .i64 0,.int .i64 0,.slice none 0 0,.slice none 0 0,.slice none 0 0,.slice none 0 0,.slice none 0 0,.slice none 0 0,.slice none 0 0] 30)):=Ext.Al
 have hR0:Blk (w.alloc (.cells #[.int .i64 0,.int .i64 0,.slice none 0 0,.slice none 0 0,.slice none 0 0,.slice none 0 0,.slice none 0 0,.slice none 0 0,.slice none 0 0] 30)) w.heap.size 30 #[.int .i64 0,.int .i64 0,.slice none 0 0,.slice none 0 0,.slice none 0 0,.slice none 0 0,.slice none 0 0,.slice none 0 0,.slice none 0 0]:=Blk.new _ _ _
 go_enter Tryz.func24,Tryz.ntmps24
 have hln:=Lib.hid hl.len
 go_upto_region 1 with fail
 generalize (w.alloc (.cells #[.int .i64 0,.int .i64 0,.slice none 0 0,.slice none 0 0,.slice none 0 0,.slice none 0 0,.slice none 0 0,.slice none 0 0,.slice none 0 0] 30))=wq at hxR hR0 ⊢
 go_upto_region 2 with (first|go_skip|go_guarded|(go_at_call 14;(with_reducible refine (QV wq).mono ?_);rintro e w1 ⟨rfl,hx1⟩))
 have hxT:Ext Nothing w1 (w1.alloc (.cells #[.int .i64 0,.int .i64 1,.slice none 0 0,.slice none 0 0,.slice none 0 0,.slice none 0 0,.slice none 0 0,.slice none 0 0,.slice none 0 0] 30)):=Ext.Al
 have hT0:Blk (w1.alloc (.cells #[.int .i64 0,.int .i64 1,.slice none 0 0,.slice none 0 0,.slice none 0 0,.slice none 0 0,.slice none 0 0,.slice none 0 0,.slice none 0 0] 30)) w1.heap.size 30 ES.arr:=Blk.new _ _ _
 have hRT:w.heap.size < w1.heap.size:=(hR0.e0 hx1).lt
 have hR1:=(hR0.e0 hx1).e0 hxT
 have hx0:=(hxR.tr hx1).tr hxT
 generalize hTT:w1.heap.size=T at hT0 hRT ⊢
 generalize (w1.alloc (.cells #[.int .i64 0,.int .i64 1,.slice none 0 0,.slice none 0 0,.slice none 0 0,.slice none 0 0,.slice none 0 0,.slice none 0 0,.slice none 0 0] 30))=w2 at hT0 hx0 hR1 ⊢
 clear hxT hx1 hTT hxR hR0
 have hzT:w.heap.size≤T:=by omega
 have hO0:Az w.heap.size w2 ES:=GX _ _
 go_wp2
 go_loopw [4] (fun ki wr=>∃ t:Nat,t≤ln∧ki=.int .i64 t∧∃ sV:Aa,Az w.heap.size wr sV∧Fsm.EF t sV.data∧sV.data=Fsm.Dn (l.map AP.d) t∧Blk wr T 30 sV.arr∧Blk wr w.heap.size 30 #[.int .i64 0,.int .i64 0,.slice none 0 0,.slice none 0 0,.slice none 0 0,.slice none 0 0,.slice none 0 0,.slice none 0 0,.slice none 0 0]∧Ext Nothing w wr) (fun ki _=>ln - (intOf ki).toNat)
 case atStart=>exact ⟨0,Nat.zero_le _,rfl,ES,hO0,Fsm.Ct,rfl,hT0,hR1,hx0⟩
 case round =>
  obtain ⟨t,ht,rfl,sV,hO,hG,hD,hT,hR,hx⟩:=hrel
  clear hO0 hT0 hx0 hR1
  by_cases hlt:t < ln
  ·obtain ⟨hjn,b,off,hLe,hce⟩:=hl.get hx hlt
   have hrd:=hr _ (List.getElem_mem hjn)
   have hlt9:l[t]? = some l[t]:=List.getElem?_eq_getElem hjn
   generalize l[t]=c at hce hrd hlt9
   have HLT:=Lib.hid hlt9
   have HD:=Lib.hid hD
   clear hlt9 hD
   subst hLe
   have hk0:(0:Int)≤(t:Int):=by omega
   have hk1:(t:Int) < ln:=by omega
   have HW:=Lib.hid (show wrap64 ((t:Int)+1)=(t:Int)+1 by unfold wrap64;omega)
   have HT:=Lib.hid hlt
   have HG:=Lib.hid hG
   have hbw:b < w.heap.size:=by obtain ⟨q,hq⟩:=hl.blk (show 0 < ln by omega);exact hq
   have HCE:=Lib.hid (show ∀ j u,c.arr.toList[j]? = some u→wr.cell? ⟨b,off+t*27+j,none⟩=some u from hce)
   clear hce hG hlt
   go_upto_region 5 with (first|go_skip|go_guarded)
   have hd:Ext Nothing wr wr.drew:=(Ext.refl _ _).drew
   refine zS (S:=fun W'=>Ext (fun q=>q=T) wr W') (by kernel_rfl) ?_
   have hS:=hd.any (S:=fun q=>q=T)
   generalize wr.drew=Wd at hd hS ⊢
   refine zV 1 (.int .i64 (t:Int)) rfl (by kernel_rfl) hS (fun _ _ _ h=>h) (fun W' hS'=>by go_simp) ?_
   refine zV 2 (.int .i64 (wrap64 ((t:Int)+1))) rfl (by kernel_rfl) hS (fun _ _ _ h=>h) (fun W' hS'=>by go_simp;rw [IntKind.wrap_i64];have:=HT.out;unfold wrap64;omega) ?_
   refine zV 3 (.slice (some ⟨b,off,none⟩) ln lc) rfl (by kernel_rfl) hS (fun _ _ _ h=>h) (fun W' hS'=>by go_simp) ?_
   refine zV 4 (.int .i64 (t:Int)) rfl (by kernel_rfl) hS (fun _ _ _ h=>h) (fun W' hS'=>by go_simp) ?_
   refine zV 5 (.pointer (some ⟨b,off+t*27,none⟩)) rfl (by kernel_rfl) hS (fun _ _ _ h=>h) (fun W' hS'=>by go_simp) ?_
   refine zV 6 (.agg c.arr) rfl (by kernel_rfl) hS (fun _ _ _ h=>h) (fun W' hS'=>by exact run_load_struct (sz:=27) (b:=b) (off:=off+t*27) rfl Er (by go_simp) (fun j u hu=>hS'.cell (HCE.out j u hu) (fun e=>absurd (show b=T from e) (by omega))) rfl) ?_
   refine zV 7 (.agg (c.ent (wrap64 ((t:Int)+1)) 1)) rfl (by kernel_rfl) hS (fun _ _ _ h=>h) (fun W' hS'=>by go_simp) ?_
   (try simp only [Act.put,zA,zB,zC,zD,zE,zF])
   have hTq:=hT.e0 hd
   have hOq:=hO.Aw hd
   have hxq:=hx.tr hd
   have hcq:=hrd.ME hxq
   refine zO 0 (by kernel_rfl) ?_
   refine wpOp_val (v:=.agg sV.arr) (w':=Wd) rfl (by rfl) (by exact Ar rfl STStore (by go_simp) hTq rfl) ⟨hS,?_⟩
   (try simp only [Act.put,zA,zB,zC,zD,zE,zF])
   refine zO 8 (by kernel_rfl) ?_
   refine Ai (f:=15) (args:=#[.agg sV.arr,.agg (c.ent (wrap64 ((t:Int)+1)) 1)]) rfl (by rfl) (by go_simp) ((Bq (base:=w.heap.size) (t:=t) (w:=Wd) (s:=sV) (c:=c) (ix:=(wrap64 ((t:Int)+1))) 1 hOq HG.out hcq hrd.op (by have:=HT.out;omega) (by have:=HT.out;rw [HW.out];omega) (by rw [HW.out];omega)).mono ?_)
   rintro e w2 ⟨s2,r2,rv2,rfl,hO2,hF2,hres2,hx2⟩
   have hT2:=hTq.e0 hx2
   have hS2:=hS.trans hx2 (fun _ _ e=>e.elim)
   have HG2:=Lib.hid (show Fsm.EF (t+1) s2.data by have h9:=Fsm.C9 HG.out (by have:=HT.out;omega) hrd.EI;rw [← HW.out,hF2] at h9;exact h9)
   have HD2:=Lib.hid (show s2.data=Fsm.Dn (l.map AP.d) (t+1) by rw [Fsm.Jj (show (l.map AP.d)[t]? = some c.d by rw [List.getElem?_map,HLT.out];rfl),← HD.out,← HW.out,hF2])
   have HF2:=Lib.hid hF2
   clear hF2
   refine ⟨_,rfl,hS2,?_⟩
   (try simp only [Act.put,zA,zB,zC,zD,zE,zF])
   refine zO 9 (by kernel_rfl) ?_
   refine wpOp_val (v:=.tuple #[.agg s2.arr,.agg #[.int .i64 r2.code,.int .i64 r2.value,rv2]]) (w':=w2) rfl (by rfl) (by go_simp) ⟨hS2,?_⟩
   (try simp only [Act.put,zA,zB,zC,zD,zE,zF])
   refine zV 10 (.agg s2.arr) rfl (by kernel_rfl) hS2 (fun _ _ _ h=>h) (fun W' hS'=>by go_simp) ?_
   refine zV 11 (.agg #[.int .i64 r2.code,.int .i64 r2.value,rv2]) rfl (by kernel_rfl) hS2 (fun _ _ _ h=>h) (fun W' hS'=>by go_simp) ?_
   (try simp only [Act.put,zA,zB,zC,zD,zE,zF])
   refine zO 12 (by kernel_rfl) ?_
   refine Bd (p:=T) (cs:=s2.arr) rfl (by rfl) rfl (by go_simp) (by go_simp) hT2 rfl STStore rfl rfl (fun w5 hB5 hx5=>?_)
   have hS5:=hS2.trans hx5 (fun q hq e=>e)
   refine ⟨hS5,wpAnyH_done (by kernel_rfl) ?_ _⟩
   (try simp only [Act.put,zA,zB,zC,zD,zE,zF])
   have hR5:=(hR.e0 hd).e0 hx2 |>.ext hx5 (fun e=>absurd (show w.heap.size=T from e) (by omega))
   have hO5:=(hO2.base hxq.size).keep hx5 (Apart.one hT2 (by decide))
   have hx5w:Ext Nothing w w5:=hx.trans hS5 (fun b hb e=>absurd (show b=T from e) (by omega))
   clear hd hS hS2 hS5 hTq hOq hxq hcq hT2 hx2 hO2 hx5 hres2 hT hO hx
   obtain ⟨ql1,ql2,ql3,ql4,ql5,ql6,ql7⟩:=CF HG2.out (show t+1≤1048576 by have:=HT.out;omega)
   have hnJ:s2.nJ≤1048576:=by have:=hO5.jl;have:=HT.out;omega
   have hnS:s2.nS≤1048576:=by have:=hO5.tl;have:=HT.out;omega
   have hnN:s2.nN≤1048576:=by have:=hO5.nl;have:=HT.out;omega
   have hnA:s2.nA≤64:=by have:=hO5.al;omega
   have hnE:s2.nE≤1048576:=by have:=hO5.el;have:=HT.out;omega
   have hnD:s2.nD≤1048576:=by have:=hO5.dl;have:=HT.out;omega
   clear ql1 ql2 ql3 ql4 ql5 ql6 ql7
   go_wp2
   go_roundw
   case rel=>exact ⟨t+1,HT.out,by go_num,s2,hO5,HG2.out,HD2.out,hB5,hR5,hx5w⟩
   case measure=>have:=HT.out;simp [intOf];omega
  have hnl:¬ ((t:Int) < ln):=by omega
  have hte:t=ln:=by omega
  subst hte
  go_wp2_with (first|go_skip|go_guarded|((with_reducible refine isW ?_);refine Ad rfl 30 _ rfl STStore T rfl sV.arr (show Blk _ _ 30 _ from hT) rfl ?_)|((with_reducible refine isW ?_);refine Ag rfl 30 _ _ rfl STStore w.heap.size rfl sV.arr rfl (show Blk _ _ 30 _ from hR) rfl rfl rfl ?_;intro w8 hR8 hx8))
  exact bodyPost_ret (results_cell rfl STStore (g:=w.heap.size) rfl hR8 rfl) rfl ⟨sV,rfl,hO.keep hx8 (Apart.one hR (by decide)),hG,hD,hx.trans hx8 (fun q hq e=>by have h9:q < w.heap.size:=hq;have:q=w.heap.size:=e;omega)⟩
end
section
open Go.RowKit
theorem AP.Read.Ap {w w' : World} {c:AP} (h:c.Read w) (hx:Ext Nothing w w'):c.Read w':=⟨h.g.Ap hx,h.gl,h.r.Ap hx,h.rl,h.s.Ap hx,h.sl,h.p.Ap hx,h.pl,h.o25,h.o26,h.op,h.ok⟩
abbrev CB (op:Int) (n:NodD) (rs:List (Int × Int)) (RA:Option Addr) (rn rc:Nat):AP:=⟨op,0,0,⟨0,0,0,0,[],0,false⟩,none,0,0,n,rs,RA,rn,rc,0,0,0,[],none,0,0,[],none,0,0,false,.slice none 0 0,.slice none 0 0⟩
theorem FR {w w' : World} (op:Int) (n:NodD) {rs:List (Int × Int)} {RA:Option Addr} {rn:Nat} (rc:Nat) (hs:Sl w 2 RA rn (rs.map Dk)) (hn:rn≤1048576) (hx:Ext Nothing w w'):DZ w'.heap.size w' (CB op n rs RA rn rc):=by
 have hr:=hs.Ap hx
 refine ⟨Sl.nil _ _ _,by simp,by simp,hr,hn,fun b hb hne=>?_,Sl.nil _ _ _,by simp,by simp,Sl.nil _ _ _,by simp,by simp,rfl,rfl⟩
 rcases Nat.lt_or_ge b w'.heap.size with h1|h1
 ·exact h1
 exact absurd (hr.old (by decide) hb h1) (by simpa using hne)
theorem Az.under {base:Nat} {W W' : World} {s:Aa} {S:Nat→Prop} (h:Az base W s) (hx:Ext S W W') (hS:∀ q,S q→q < base):Az base W' s:=by
 have r:∀ {e sz n:Nat} {v:Value} {xs:List Value},W.ownsRow base e sz v n xs→W'.ownsRow base e sz v n xs:=fun ho=>Ao ho hx (fun g hg hs=>by have h1:=Cj ho hg;have h2:=hS g hs;omega)
 have g:∀ {v:Value} {ys:List JobV},BU base W v ys→BU base W' v ys:=fun hj=>⟨r hj.own,fun y hy=>by
  obtain ⟨A,n,c,h1,h2,h3,h4⟩:=hj.grp y hy
  exact ⟨A,n,c,h1,r h2,h3,h4⟩⟩
 exact ⟨g h.j,h.jl,g h.t,h.tl,r h.n,h.nl,r h.a,h.al,r h.e,h.el,r h.d,h.dl,r h.x,h.xl,h.xa,h.sep⟩
end
end Go.Proofs.YtccekmeifanipaaGreat
