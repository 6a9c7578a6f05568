/- Parts of the proof: MPlace -/
import Derived.Test.YtccekmeifanipaaGreatT29
import Derived.Test.YtccekmeifanipaaGreatT19
namespace Go.Proofs.YtccekmeifanipaaGreat
set_option linter.unusedVariables false
set_option linter.unusedSimpArgs false
set_option linter.unusedSectionVars false
open Go.RowKit
theorem Sl.step {w w' : World} {b sz n:Nat} {s s' : Aa} {A:Option Addr} {xs:List (List Value)} (h:Sl w sz A n xs) (k:Step w w' b s s') (hn:∀ q,A.map (·.block)=some q→xs ≠ []→¬ MW s b q):Sl w' sz A n xs:=h.ext k.ext (fun q e ne hq=>hn q e ne hq)
theorem ET (j:Aq) (n:NodD):∀ l:List Ac,l.foldl (Fsm.Bc j n) (none:Option Ab)=none
 | []=>rfl
 | x :: l=>ET j n l
theorem Fsm.LU {s:Ab} {j:Aq} {n:NodD} {x:Ac} (h:Fsm.EI s j n x=true):n.epoch=x.epoch:=by
 rw [Fsm.Ir] at h
 simp only [Bool.and_eq_true] at h
 have h3:=(Fsm.Jc h.1.1.1.1).2.2.1
 have:x.epoch=n.epoch:=by simpa using h3
 exact this.symm
theorem NA {P:Program} {ops:Array Oper} {Q:Exit→Act→World→Prop} {i:Nat} {o:Oper} {a:Act} {w:World} {K:Act→World→Prop} (hi:ops[i]? = some o) (hw:Region.wanted o (yielded ops a.tmps)=true) (s x:Operand) (t:TypeId) (ho:o.op=.call { callee:=.builtin .append,args:=#[s,x],argTypes:=#[t,t] })
  (base:Nat) {e sz:Nat} (E:Bg P t e sz) (v:Value) (n:Nat) (xs:List Value) (hs:a.eval s=v) (hown:w.ownsRow base e sz v n xs)
  (g c:Nat) (cs:Array Value) (hx:a.eval x=.slice (some ⟨g,0,none⟩) 1 c) (hg:Blk w g e cs) (hcs:cs.size=sz) (h1:cs.toList.all Value.oneCell' = true)
  (hn:n < 67108864) (hbase:base≤w.heap.size)
  (h:∀ A' c' w',w'.ownsRow base e sz (.slice A' (n+1) c') (n+1) (xs ++ cs.toList)→w.grownBy w' v.ownBlock→(∀ q,(Value.slice A' (n+1) c').ownBlock=some q→v.ownBlock=some q ∨ w.heap.size≤q)→K (a.put o.dst (.slice A' (n+1) c')) w'):wpOp P ops Q i K a w:=by
 obtain ⟨ht,i',z,hi',hz,hzs,hsz,h0,hle,hby⟩:=E
 have hnews:∀ j u,cs.toList[j]? = some u→w.cell? ((⟨g,0,none⟩ : Addr).add j)=some u:=fun j u hu=>by
  have hadd:(⟨g,0,none⟩ : Addr).add j=⟨g,j,none⟩:=by unfold Addr.add;split <;> simp_all
  rw [hadd,hg.cell];simpa using hu
 have hone:∀ u∈cs.toList,u.oneCell' = true:=fun u hu=>List.all_eq_true.1 h1 u hu
 have hb:(n+1)*i'.bytes≤140737488355328:=by have:=Nat.mul_le_mul (show n+1≤67108864 by omega) hby;omega
 have h63:n+1≤maxLen:=by unfold maxLen;omega
 obtain ⟨v',w',hr,h2,h3,h4⟩:=run_append_own (P:=P) w base t o.type e i' z sz i'.bytes ht hi' hz hsz rfl hzs h0 v n xs hown ⟨g,0,none⟩ 1 c cs.toList (by simpa using hcs) hnews hone h63 hb hbase
 have hq:=EK base t o.type e i' z sz i'.bytes ht hi' hz hsz rfl hzs h0 v n xs hown ⟨g,0,none⟩ 1 c cs.toList (by simpa using hcs) hnews hone h63 hb hr
 obtain ⟨A',c',rfl⟩:=Bn h2
 refine Km hi hw ?_
 unfold Oper.wp execOp
 simp only [ho,resolve,invoke,builtin,Sem.run_bind,Sem.run_pure,Result.andThen_ok,List.map_toArray,List.map_cons,List.map_nil,hs,hx,hr]
 exact h A' c' w' h2 h3 hq
theorem Fsm.GN {s:Ab} {j:Aq} {nd:Int} {ls:List Ac} {n:NodD} (hn:Fsm.nodeAt s nd=some n) (hu:n.up=true) (hd:n.drain=false) (hs:j.stopped=false) (hls:∀ x∈ls,(x.node == nd)=true) :
  Fsm.places s j nd ls=match ls.foldl (Fsm.Bc j n) (some s) with|none=>(s,false)|some t=>match Fsm.Di t.jobs t.allocs.length t.allocs with|none=>(s,false)|some m=>({ t with allocs:=m },true):=by
 unfold Fsm.places
 rw [hn]
 simp only [hu,hd,hs]
 rw [show ls.filter (fun x=>x.node == nd)=ls from List.filter_eq_self.2 hls]
 rfl
section
variable {s t:Ab} {j:Aq} {nd:Int} {ls m:List Ac} {n:NodD}
theorem Fsm.L6 (hn:Fsm.nodeAt s nd=some n) (hu:n.up=true) (hd:n.drain=false) (hs:j.stopped=false) (hls:∀ x∈ls,(x.node == nd)=true) (h1:ls.foldl (Fsm.Bc j n) (some s)=none):Fsm.places s j nd ls=(s,false):=by
 rw [Fsm.GN hn hu hd hs hls,h1]
theorem Fsm.Mo (hn:Fsm.nodeAt s nd=some n) (hu:n.up=true) (hd:n.drain=false) (hs:j.stopped=false) (hls:∀ x∈ls,(x.node == nd)=true) (h1:ls.foldl (Fsm.Bc j n) (some s)=some t) (h2:Fsm.Di t.jobs t.allocs.length t.allocs=none):Fsm.places s j nd ls=(s,false):=by
 rw [Fsm.GN hn hu hd hs hls,h1];simp only [h2]
theorem Fsm.Ma (hn:Fsm.nodeAt s nd=some n) (hu:n.up=true) (hd:n.drain=false) (hs:j.stopped=false) (hls:∀ x∈ls,(x.node == nd)=true) (h1:ls.foldl (Fsm.Bc j n) (some s)=some t) (h2:Fsm.Di t.jobs t.allocs.length t.allocs=some m):Fsm.places s j nd ls=({ t with allocs:=m },true):=by
 rw [Fsm.GN hn hu hd hs hls,h1];simp only [h2]
end
structure OT (base b:Nat) (s:Aa) (cm:Bool) (j:Aq) (nd:Int) (ls:List Ac) (w:World) (e:Ending) (w' : World):Prop where
 out:∃ s' r,e=.returned (.bool r)∧Az base w' b s' cm∧Fsm.places s.data j nd ls=(s'.data,r)∧Step w w' b s s'
set_option maxRecDepth 20000 in
set_option maxHeartbeats 16000000 in
theorem Oh (base b:Nat) (s:Aa) (cm:Bool) (j0 j1 j2 j3:Int) (jg:List Ao) (j5:Int) (j6:Bool) (GA:Option Addr) (gn gc:Nat) (nd:Int) (LA:Option Addr) (ln lc:Nat) (ls:List Ac) (w:World) (hM:Az base w b s cm) (hb:base≤w.heap.size) (hJ:s.jobs.length≤1048576) (hN:s.nodes.length≤1048576) (hA:s.allocs.length≤4194304) (hl5:ln≤4194304)
  (hG:Sl w 3 GA gn (jg.map Ao.cells)) (hGn:∀ q,GA.map (·.block)=some q→jg.map Ao.cells ≠ []→¬ MW s b q) (hgn:gn≤1048576) (hcg:∀ g∈jg,0≤g.count∧g.count≤4) (hL:Sl w 11 LA ln (ls.map Ac.cells)) (hLn:∀ q,LA.map (·.block)=some q→ls.map Ac.cells ≠ []→¬ MW s b q) (hls:∀ x∈ls,(x.node == nd)=true) :
  Calls Tryz.prog 79 #[.pointer (some ⟨b,0,none⟩),.agg #[.int .i64 j0,.int .i64 j1,.int .i64 j2,.int .i64 j3,.slice GA gn gc,.int .i64 j5,.bool j6],.int .i64 nd,.slice LA ln lc] w fun e w'=>OT base b s cm ⟨j0,j1,j2,j3,jg,j5,j6⟩ nd ls w e w':=by
 have hnl:=Lib.hid hM.own.nl
 have hnN:s.nN≤67108864:=by have:=hM.own.nl;omega
 have hal:=Lib.hid hM.own.al
 have hnA:s.nA≤67108864:=by have:=hM.own.al;omega
 have hxW:Ext Nothing w (w.alloc (.cells #[.int .i64 j0,.int .i64 j1,.int .i64 j2,.int .i64 j3,.slice GA gn gc,.int .i64 j5,.bool j6] 39)):=Ext.Ay
 have hCW:Blk (w.alloc (.cells #[.int .i64 j0,.int .i64 j1,.int .i64 j2,.int .i64 j3,.slice GA gn gc,.int .i64 j5,.bool j6] 39)) w.heap.size 39 #[.int .i64 j0,.int .i64 j1,.int .i64 j2,.int .i64 j3,.slice GA gn gc,.int .i64 j5,.bool j6]:=Blk.new _ _ _
 have hMW:=hM.e0 hxW
 have hnC:¬ MW s b w.heap.size:=fun e=>by have:=hM.FL e;omega
 have hzW:=hxW.size
 have hsn:=hMW.own.slN
 rcases AV (fun x:NodD=>x.id == nd) s.nodes with ⟨hi,hf,_⟩|⟨i,x,hi,hxi,hp,hf,_⟩
 ·have HI:=Lib.hid hi
  have HNA:=Lib.hid (show Fsm.nodeAt s.data nd=none from hf)
  clear hi hf
  go_enter Tryz.func79,Tryz.ntmps79
  go_upto_region 1 with (first|go_skip|go_guarded)
  generalize hC:w.heap.size=C at hCW hnC hzW ⊢
  have HC:=Lib.hid hC
  clear hC
  generalize (w.alloc (.cells #[.int .i64 j0,.int .i64 j1,.int .i64 j2,.int .i64 j3,.slice GA gn gc,.int .i64 j5,.bool j6] 39))=W at hxW hCW hMW hzW hsn ⊢
  go_upto_region 2 with (first|go_skip|go_guarded|((with_reducible refine isW ?_);refine Ad rfl 30 _ rfl Aj b 0 rfl s.arr (hMW.at) rfl ?_)|(go_at_call 66;(with_reducible refine (Dq s.AN s.nN s.cN s.nodes nd W hsn hnN _ _ _ _ _ _ _ _ _ rfl).mono ?_);rintro e w1 ⟨rfl,hx1⟩;(rw [HI.out])))
  go_wp2_with (first|go_skip|go_guarded)
  go_ret
  exact ⟨⟨s,false,rfl,hMW.e0 hx1,by show Fsm.places s.data ⟨j0,j1,j2,j3,jg,j5,j6⟩ nd ls=(s.data,false);unfold Fsm.places;rw [HNA.out],Step.of0 (hxW.tr hx1)⟩⟩
 have hid:nd=x.id:=(show x.id=nd by simpa using hp).symm
 obtain ⟨x0,⟨n1,n2⟩,n3,n4,n5,n6,n7⟩:=x
 change nd=x0 at hid
 subst hid
 have HI:=Lib.hid hi
 have HX:=Lib.hid hxi
 have HNA:=Lib.hid (show Fsm.nodeAt s.data nd=some ⟨nd,⟨n1,n2⟩,n3,n4,n5,n6,n7⟩ from hf)
 have hk0:(0:Int)≤(i:Int):=by omega
 have hk1:(i:Int) < s.nN:=by have:=hnl.out;have:=(List.getElem?_eq_some_iff.1 hxi).1;omega
 have hnd:decide ((i:Int) < 0)=false:=by simp
 clear hi hf hxi hp
 go_enter Tryz.func79,Tryz.ntmps79
 go_upto_region 1 with (first|go_skip|go_guarded)
 generalize hC:w.heap.size=C at hCW hnC hzW ⊢
 have HC:=Lib.hid hC
 clear hC
 generalize (w.alloc (.cells #[.int .i64 j0,.int .i64 j1,.int .i64 j2,.int .i64 j3,.slice GA gn gc,.int .i64 j5,.bool j6] 39))=W at hxW hCW hMW hzW hsn ⊢
 go_upto_region 2 with (first|go_skip|go_guarded|((with_reducible refine isW ?_);refine Ad rfl 30 _ rfl Aj b 0 rfl s.arr (hMW.at) rfl ?_)|(go_at_call 66;(with_reducible refine (Dq s.AN s.nN s.cN s.nodes nd W hsn hnN _ _ _ _ _ _ _ _ _ rfl).mono ?_);rintro e w1 ⟨rfl,hx1⟩;(rw [HI.out])))
 have hM1:=hMW.e0 hx1
 have hC1:=hCW.e0 hx1
 have hx01:=hxW.tr hx1
 obtain ⟨g,cur,hAe,hob,hgb,_,hce,_⟩:=hM1.own.IY HX.out
 change s.AN=_ at hAe
 have m4:w1.cell? ⟨b,4,none⟩=some (.slice (some ⟨g,0,none⟩) s.nN s.cN):=by rw [← hAe];exact hM1.blk.cell 4
 have k3:w1.cell? ⟨g,i*8+3,none⟩=some (.bool n3):=hce 3 _ rfl
 have k4:w1.cell? ⟨g,i*8+4,none⟩=some (.bool n4):=hce 4 _ rfl
 have c6:w1.cell? ⟨C,6,none⟩=some (.bool j6):=hC1.cell 6
 have HA:=Lib.hid hAe
 clear hAe hce hob
 cases n3 with
 | false =>
  go_wp2_with (first|go_skip|go_guarded)
  go_ret
  exact ⟨⟨s,false,rfl,hM1,by show Fsm.places s.data ⟨j0,j1,j2,j3,jg,j5,j6⟩ nd ls=(s.data,false);unfold Fsm.places;rw [HNA.out];simp,Step.of0 hx01⟩⟩
 | true =>
  cases n4 with
  | true =>
   go_wp2_with (first|go_skip|go_guarded)
   go_ret
   exact ⟨⟨s,false,rfl,hM1,by show Fsm.places s.data ⟨j0,j1,j2,j3,jg,j5,j6⟩ nd ls=(s.data,false);unfold Fsm.places;rw [HNA.out];simp,Step.of0 hx01⟩⟩
  | false =>
   cases j6 with
   | true =>
    go_wp2_with (first|go_skip|go_guarded)
    go_ret
    exact ⟨⟨s,false,rfl,hM1,by show Fsm.places s.data ⟨j0,j1,j2,j3,jg,j5,true⟩ nd ls=(s.data,false);unfold Fsm.places;rw [HNA.out];simp,Step.of0 hx01⟩⟩
   | false =>
    go_upto_region 4 with (first|go_skip|go_guarded)
    clear m4 k3 k4 c6
    have hsa:=hM1.own.slA
    have m5:w1.cell? ⟨b,5,none⟩=some (.slice s.AA s.nA s.cA):=hM1.blk.cell 5
    have m1:w1.cell? ⟨b,1,none⟩=some (.int .i64 s.next):=hM1.blk.cell 1
    have hd:Ext Nothing w1 w1.drew:=(Ext.refl _ _).drew
    refine zS (S:=fun W'=>Ext Nothing w1 W') (by kernel_rfl) ?_
    generalize w1.drew=Wd at hd ⊢
    refine zV 0 (.pointer (some ⟨b,0,none⟩)) rfl (by kernel_rfl) hd (fun _ _ _ h=>h) (fun W' hS'=>by go_simp) ?_
    refine zV 1 (.pointer (some ⟨b,0,none⟩)) rfl (by kernel_rfl) hd (fun _ _ _ h=>h) (fun W' hS'=>by go_simp) ?_
    refine zV 2 (.pointer (some ⟨b,0,none⟩)) rfl (by kernel_rfl) hd (fun _ _ _ h=>h) (fun W' hS'=>by go_simp) ?_
    refine zV 3 (.pointer (some ⟨b,5,none⟩)) rfl (by kernel_rfl) hd (fun _ _ _ h=>h) (fun W' hS'=>by go_simp) ?_
    refine zV 4 (.slice s.AA s.nA s.cA) rfl (by kernel_rfl) hd (fun _ _ _ h=>h) (fun W' hS'=>by have q:=hS'.c0 m5;go_simp) ?_
    refine zV 6 (.pointer (some ⟨b,0,none⟩)) rfl (by kernel_rfl) hd (fun _ _ _ h=>h) (fun W' hS'=>by go_simp) ?_
    refine zV 7 (.pointer (some ⟨b,0,none⟩)) rfl (by kernel_rfl) hd (fun _ _ _ h=>h) (fun W' hS'=>by go_simp) ?_
    refine zV 8 (.pointer (some ⟨b,0,none⟩)) rfl (by kernel_rfl) hd (fun _ _ _ h=>h) (fun W' hS'=>by go_simp) ?_
    refine zV 9 (.pointer (some ⟨b,1,none⟩)) rfl (by kernel_rfl) hd (fun _ _ _ h=>h) (fun W' hS'=>by go_simp) ?_
    refine zV 10 (.int .i64 s.next) rfl (by kernel_rfl) hd (fun _ _ _ h=>h) (fun W' hS'=>by have q:=hS'.c0 m1;go_simp) ?_
    (try simp only [Act.put,zA,zB,zC,zD,zE,zF])
    refine zO 5 (by kernel_rfl) ?_
    refine Ai (f:=45) (args:=#[.slice s.AA s.nA s.cA]) rfl (by rfl) (by go_simp) ((FN s.AA s.nA s.cA s.allocs Wd (hsa.Al hd) hnA).mono ?_)
    rintro e w2 ⟨v',rfl,hown,hx2⟩
    obtain ⟨WA,wc0,rfl⟩:=Bn hown
    have hd2:=hd.tr hx2
    refine ⟨_,rfl,hd2,?_⟩
    (try simp only [Act.put,zA,zB,zC,zD,zE,zF])
    refine zV 11 (.slice WA s.allocs.length wc0) rfl (by kernel_rfl) hd2 (fun _ _ _ h=>h) (fun W' hS'=>by go_simp) ?_
    refine zV 12 (.int .i64 s.next) rfl (by kernel_rfl) hd2 (fun _ _ _ h=>h) (fun W' hS'=>by go_simp) ?_
    (try simp only [Act.put,zA,zB,zC,zD,zE,zF])
    refine wpAnyH_done (by kernel_rfl) ?_ _
    (try simp only [Act.put,zA,zB,zC,zD,zE,zF])
    have hM2:=hM1.e0 hd2
    have hC2:=hC1.e0 hd2
    have hx02:=hx01.tr hd2
    have hzd:=hd.size
    have hz1:=hx01.size
    have hownb:=Bj hown (show base≤Wd.heap.size by omega)
    have hwn:∀ q,(Value.slice WA s.allocs.length wc0).ownBlock=some q→¬ MW s b q:=fun q hq e=>by have:=BM hown hq;have:=hM.FL e;omega
    have hnC2:C < w2.heap.size:=hC2.lt
    have hown0:=Lib.hid (Bj hown (show w.heap.size≤Wd.heap.size by omega))
    clear hown hd hd2 hx2 m5 m1 hsa hsn hM1 hC1 hx01 hgb hx1 hMW hCW hxW
    have HGS:=Lib.hid (show ∀ (w9:World) (s9:Aa),Step w w9 b s s9→Sl w9 3 GA gn (jg.map Ao.cells) from fun _ _ h=>hG.step h hGn)
    have HLS:=Lib.hid (show ∀ (w9:World) (s9:Aa),Step w w9 b s s9→Sl w9 11 LA ln (ls.map Ac.cells) from fun _ _ h=>hL.step h hLn)
    have hln:=Lib.hid (show ln=ls.length from hL.len)
    go_wp2
    go_loopw [63] (fun iv wr=>∃ t:Nat,t≤ln∧iv=.int .i64 t∧∃ A c l nx,Az base wr b ({ s with AA:=A,nA:=l.length,cA:=c,allocs:=l,next:=nx }:Aa) cm∧Hid ((ls.take t).foldl (Fsm.Bc ⟨j0,j1,j2,j3,jg,j5,false⟩ ⟨nd,⟨n1,n2⟩,true,false,n5,n6,n7⟩) (some s.data)=some ({ s with AA:=A,nA:=l.length,cA:=c,allocs:=l,next:=nx }:Aa).data)∧Hid (l.length≤s.allocs.length+t)∧wr.ownsRow base 55 11 (.slice WA s.allocs.length wc0) s.allocs.length (s.allocs.flatMap Ac.cells)∧Step w wr b s ({ s with AA:=A,nA:=l.length,cA:=c,allocs:=l,next:=nx }:Aa)∧Step w2 wr b s ({ s with AA:=A,nA:=l.length,cA:=c,allocs:=l,next:=nx }:Aa)) (fun iv _=>ln - (intOf iv).toNat)
    case atStart=>exact ⟨0,Nat.zero_le _,rfl,s.AA,s.cA,s.allocs,s.next,by rw [← hal.out];exact hM2,Lib.hid (by rw [← hal.out];rfl),Lib.hid (Nat.le_refl _),hownb,by rw [← hal.out];exact Step.of0 hx02,by rw [← hal.out];exact Step.refl _ _ _⟩
    case round =>
     obtain ⟨t,ht,rfl,A,c,l,nx,hMr,hD,hLn2,hwr,hst,hst2⟩:=hrel
     have hCr:=hC2.step hst2 hnC
     have hwm:∀ q,(Value.slice WA s.allocs.length wc0).ownBlock=some q→¬ MW ({ s with AA:=A,nA:=l.length,cA:=c,allocs:=l,next:=nx }:Aa) b q:=fun q hq=>hst2.not (hwn q hq) (CB hownb hq)
     by_cases hlt:t < ln
     ·obtain ⟨hjn,a,off,hLe,hlce⟩:=(HLS.out _ _ hst).get (Ext.refl Nothing wr) (k:=t) hlt
      have hfs:=Ex (Fsm.Bc ⟨j0,j1,j2,j3,jg,j5,false⟩ ⟨nd,⟨n1,n2⟩,true,false,n5,n6,n7⟩) (some s.data) ls t hjn
      rw [hD.out] at hfs
      have hxls:ls[t]'hjn∈ls:=List.getElem_mem hjn
      have hlce:∀ j u,(Ac.cells (ls[t]'hjn))[j]? = some u→wr.cell? ⟨a,off+t*11+j,none⟩=some u:=hlce
      generalize (ls[t]'hjn)=x at hlce hfs hxls
      obtain ⟨x0,x1,x2,x3,x4,x5,x6,⟨x7,x8⟩,x9,x10⟩:=x
      have hlce:∀ j u,(#[.int .i64 x0,.int .i64 x1,.int .i64 x2,.int .i64 x3,.int .i64 x4,.int .i64 x5,.int .i64 x6,.int .i64 x7,.int .i64 x8,.bool x9,.int .i64 x10]:Array Value).toList[j]? = some u→wr.cell? ⟨a,off+t*11+j,none⟩=some u:=hlce
      have hxn:=hls _ hxls
      rw [hLe]
      have HLE:=Lib.hid hLe
      have HT:=Lib.hid hlt
      have HFS:=Lib.hid hfs
      have hk0t:(0:Int)≤(t:Int):=by omega
      have hk1t:(t:Int) < ln:=by omega
      clear hLe hfs hlt hxls
      have hxq:Ext Nothing wr (wr.alloc (.cells #[.int .i64 x0,.int .i64 x1,.int .i64 x2,.int .i64 x3,.int .i64 x4,.int .i64 x5,.int .i64 x6,.int .i64 x7,.int .i64 x8,.bool x9,.int .i64 x10] 55)):=Ext.Ay
      have hQ:Blk (wr.alloc (.cells #[.int .i64 x0,.int .i64 x1,.int .i64 x2,.int .i64 x3,.int .i64 x4,.int .i64 x5,.int .i64 x6,.int .i64 x7,.int .i64 x8,.bool x9,.int .i64 x10] 55)) wr.heap.size 55 #[.int .i64 x0,.int .i64 x1,.int .i64 x2,.int .i64 x3,.int .i64 x4,.int .i64 x5,.int .i64 x6,.int .i64 x7,.int .i64 x8,.bool x9,.int .i64 x10]:=Blk.new _ _ _
      have hMq:=hMr.e0 hxq
      have hCq:=hCr.e0 hxq
      have hstq:=hst.m0 hxq
      have hst2q:=hst2.m0 hxq
      have hwq:=Am hwr hxq (fun _ _ e=>e)
      have hzq:=hxq.size
      have hz2r:=hst2.size
      have hnQ:¬ MW ({ s with AA:=A,nA:=l.length,cA:=c,allocs:=l,next:=nx }:Aa) b wr.heap.size:=fun e=>by have:=hMr.FL e;omega
      go_upto_region 8 with (first|go_skip|go_guarded|((with_reducible refine isW ?_);refine Ad rfl 55 _ rfl Ba a (off+t*11) rfl #[.int .i64 x0,.int .i64 x1,.int .i64 x2,.int .i64 x3,.int .i64 x4,.int .i64 x5,.int .i64 x6,.int .i64 x7,.int .i64 x8,.bool x9,.int .i64 x10] hlce rfl ?_))
      generalize hqq:wr.heap.size=Q at hQ hnQ hzq hz2r ⊢
      clear hqq
      generalize (wr.alloc (.cells #[.int .i64 x0,.int .i64 x1,.int .i64 x2,.int .i64 x3,.int .i64 x4,.int .i64 x5,.int .i64 x6,.int .i64 x7,.int .i64 x8,.bool x9,.int .i64 x10] 55))=wq at hQ hMq hCq hstq hst2q hwq hzq ⊢
      clear hxq hlce hMr hCr hst hst2 hwr hwm
      obtain ⟨g2,cur2,hAe2,_,hgb2,_,hce2,_⟩:=hMq.own.IY HX.out
      change s.AN=_ at hAe2
      have m4:wq.cell? ⟨b,4,none⟩=some (.slice (some ⟨g2,0,none⟩) s.nN s.cN):=by rw [← hAe2];exact hMq.blk.cell 4
      have hce2:∀ j u,(#[.int .i64 nd,.int .i64 n1,.int .i64 n2,.bool true,.bool false,.int .i64 n5,.int .i64 n6,.int .i64 n7]:Array Value).toList[j]? = some u→wq.cell? ⟨g2,i*8+j,none⟩=some u:=hce2
      clear hAe2
      have hGq:=HGS.out _ _ hstq
      cases hm:Fsm.EI ({ s with AA:=A,nA:=l.length,cA:=c,allocs:=l,next:=nx }:Aa).data ⟨j0,j1,j2,j3,jg,j5,false⟩ ⟨nd,⟨n1,n2⟩,true,false,n5,n6,n7⟩ ⟨x0,x1,x2,x3,x4,x5,x6,⟨x7,x8⟩,x9,x10⟩ with
      | false =>
       have HNONE:=Lib.hid (show ls.foldl (Fsm.Bc ⟨j0,j1,j2,j3,jg,j5,false⟩ ⟨nd,⟨n1,n2⟩,true,false,n5,n6,n7⟩) (some s.data)=none from by rw [← List.take_append_drop (t+1) ls,List.foldl_append,HFS.out,show Fsm.Bc ⟨j0,j1,j2,j3,jg,j5,false⟩ ⟨nd,⟨n1,n2⟩,true,false,n5,n6,n7⟩ (some ({ s with AA:=A,nA:=l.length,cA:=c,allocs:=l,next:=nx }:Aa).data) ⟨x0,x1,x2,x3,x4,x5,x6,⟨x7,x8⟩,x9,x10⟩=none from by unfold Fsm.Bc;simp only [];rw [hm];rfl];exact ET _ _ _)
       refine AY (by kernel_rfl) (by kernel_rfl) ?_
       repeat (first|go_big_quiet_skip|(go_big_quiet_want;(first|((refine Bw rfl ?_);(first|(refine Ah (p:=⟨C,0,none⟩) (v:=.agg #[.int .i64 j0,.int .i64 j1,.int .i64 j2,.int .i64 j3,.slice GA gn gc,.int .i64 j5,.bool false]) ?_ ?_ ?_;(focus rfl);(focus (intro W' hW;exact AB rfl STJob (by go_simp) (hCq.e0 hW) rfl;done)))|(refine Ah (p:=⟨b,4,none⟩) (v:=.slice (some ⟨g2,0,none⟩) s.nN s.cN) ?_ ?_ ?_;(focus rfl);(focus (intro W' hW;have q:=hW.c0 m4;go_simp;done)))|(refine Ah (p:=⟨g2,i*8,none⟩) (v:=.agg #[.int .i64 nd,.int .i64 n1,.int .i64 n2,.bool true,.bool false,.int .i64 n5,.int .i64 n6,.int .i64 n7]) ?_ ?_ ?_;(focus rfl);(focus (intro W' hW;exact run_load_struct (sz:=8) (b:=g2) (off:=i*8) rfl Bz (by go_simp) (fun j u hu=>hW.c0 (hce2 j u hu)) rfl;done)))|(refine Ah (p:=⟨Q,0,none⟩) (v:=.agg #[.int .i64 x0,.int .i64 x1,.int .i64 x2,.int .i64 x3,.int .i64 x4,.int .i64 x5,.int .i64 x6,.int .i64 x7,.int .i64 x8,.bool x9,.int .i64 x10]) ?_ ?_ ?_;(focus rfl);(focus (intro W' hW;exact AB rfl Ba (by go_simp) (hQ.e0 hW) rfl;done))));(try simp only [Act.put,zA,zB,zC,zD,zE,zF]);(try simp only [hm]))|((refine BH rfl ?_);(first|(refine Ar (f:=107) (args:=#[.pointer (some ⟨b,0,none⟩),.agg #[.int .i64 j0,.int .i64 j1,.int .i64 j2,.int .i64 j3,.slice GA gn gc,.int .i64 j5,.bool false],.agg #[.int .i64 nd,.int .i64 n1,.int .i64 n2,.bool true,.bool false,.int .i64 n5,.int .i64 n6,.int .i64 n7],.agg #[.int .i64 x0,.int .i64 x1,.int .i64 x2,.int .i64 x3,.int .i64 x4,.int .i64 x5,.int .i64 x6,.int .i64 x7,.int .i64 x8,.bool x9,.int .i64 x10]]) (v:=.bool (Fsm.EI ({ s with AA:=A,nA:=l.length,cA:=c,allocs:=l,next:=nx }:Aa).data ⟨j0,j1,j2,j3,jg,j5,false⟩ ⟨nd,⟨n1,n2⟩,true,false,n5,n6,n7⟩ ⟨x0,x1,x2,x3,x4,x5,x6,⟨x7,x8⟩,x9,x10⟩)) ?_ ?_ ?_;(focus (intro W' hW;go_simp;done));(focus (intro W' hW;refine (Q5 base b ({ s with AA:=A,nA:=l.length,cA:=c,allocs:=l,next:=nx }:Aa) cm j0 j1 j2 j3 jg j5 false GA gn gc nd n1 n2 true false n5 n6 n7 x0 x1 x2 x3 x4 x5 x6 x7 x8 x9 x10 W' (hMq.e0 hW) (by have:=hLn2.out;have:=HT.out;have:=hln.out;show l.length≤_;omega) (hGq.Al hW) hgn hcg).mono ?_;intro e w' hcc;obtain ⟨he,hxu⟩:=hcc;refine ⟨?_,hxu⟩;exact he;done))));(try simp only [Act.put,zA,zB,zC,zD,zE,zF]);(try simp only [hm]))|go_big_quiet_op);go_big_quiet_on))
       refine wpQuiet_nil ?_
       intro wm hxm
       have hMm:=hMq.e0 hxm
       have hstm:=hstq.m0 hxm
       have hwm:=Am hwq hxm (fun _ _ e=>e)
       clear m4 hce2
       go_upto_region 9 with (first|go_skip|go_guarded)
       have m5:=hMm.blk.cell 5
       have m5:wm.cell? ⟨b,5,none⟩=some (.slice A l.length c):=hMm.blk.cell 5
       have m5f:wm.frozen? ⟨b,5,none⟩=false:=hMm.blk.frozen 5
       have hB5:=hMm.blk.Bi 5 (.slice WA s.allocs.length wc0)
       have m1:(wm.setCell ⟨b,5,none⟩ (.slice WA s.allocs.length wc0)).cell? ⟨b,1,none⟩=some (.int .i64 nx):=hB5.cell 1
       have m1f:(wm.setCell ⟨b,5,none⟩ (.slice WA s.allocs.length wc0)).frozen? ⟨b,1,none⟩=false:=hB5.frozen 1
       go_wp2_with (first|go_skip|go_guarded)
       go_ret
       have hsb:Ext (fun q=>q=b) wm ((wm.setCell ⟨b,5,none⟩ (.slice WA s.allocs.length wc0)).setCell ⟨b,1,none⟩ (.int .i64 s.next)):=(Ext.set1 wm b 5 _).trans (Ext.set1 _ b 1 _) (fun _ _ e=>e)
       have hO:Aw base wm (({ s with AA:=A,nA:=l.length,cA:=c,allocs:=l,next:=nx }:Aa).I9 WA wc0 s.allocs):=hMm.own.wA (Ext.refl Nothing _) Apart.none hwm
       have hO2:Aw base ((wm.setCell ⟨b,5,none⟩ (.slice WA s.allocs.length wc0)).setCell ⟨b,1,none⟩ (.int .i64 s.next)) ({ s with AA:=WA,nA:=s.allocs.length,cA:=wc0 }:Aa):=(hO.next s.next).keep hsb (Apart.one hMm.blk (by decide))
       have hMb:Az base ((wm.setCell ⟨b,5,none⟩ (.slice WA s.allocs.length wc0)).setCell ⟨b,1,none⟩ (.int .i64 s.next)) b ({ s with AA:=WA,nA:=s.allocs.length,cA:=wc0 }:Aa) cm:=⟨hB5.Bi 1 _,hO2,hMm.lo⟩
       have hsb2:Step w ((wm.setCell ⟨b,5,none⟩ (.slice WA s.allocs.length wc0)).setCell ⟨b,1,none⟩ (.int .i64 s.next)) b s ({ s with AA:=WA,nA:=s.allocs.length,cA:=wc0 }:Aa):=⟨hstm.ext.trans hsb (fun q _ e=>.inl e),MW.I9 (s:=s) (A:=WA) (d:=wc0) (l:=s.allocs) (n':=s.nA) (c':=s.cA) (fun q hq=>.inr (BM hown0.out hq))⟩
       exact ⟨⟨({ s with AA:=WA,nA:=s.allocs.length,cA:=wc0 }:Aa),false,rfl,hMb,by show Fsm.places s.data ⟨j0,j1,j2,j3,jg,j5,false⟩ nd ls=(s.data,false);exact Fsm.L6 HNA.out rfl rfl rfl hls HNONE.out,hsb2⟩⟩
      | true =>
       have hA6:=Fsm.LU hm
       dsimp only at hA6
       have HS:=Lib.hid (show (ls.take (t+1)).foldl (Fsm.Bc ⟨j0,j1,j2,j3,jg,j5,false⟩ ⟨nd,⟨n1,n2⟩,true,false,n5,n6,n7⟩) (some s.data)=some (Fsm.placed ({ s with AA:=A,nA:=l.length,cA:=c,allocs:=l,next:=nx }:Aa).data ⟨j0,j1,j2,j3,jg,j5,false⟩ ⟨nd,⟨n1,n2⟩,true,false,n5,n6,n7⟩ ⟨x0,x1,x2,x3,x4,x5,x6,⟨x7,x8⟩,x9,x10⟩) from by rw [HFS.out];unfold Fsm.Bc;simp only [];rw [hm];rfl)
       refine AY (by kernel_rfl) (by kernel_rfl) ?_
       repeat (first|go_big_quiet_skip|(go_big_quiet_want;(first|((refine Bw rfl ?_);(first|(refine Ah (p:=⟨C,0,none⟩) (v:=.agg #[.int .i64 j0,.int .i64 j1,.int .i64 j2,.int .i64 j3,.slice GA gn gc,.int .i64 j5,.bool false]) ?_ ?_ ?_;(focus rfl);(focus (intro W' hW;exact AB rfl STJob (by go_simp) (hCq.e0 hW) rfl;done)))|(refine Ah (p:=⟨b,4,none⟩) (v:=.slice (some ⟨g2,0,none⟩) s.nN s.cN) ?_ ?_ ?_;(focus rfl);(focus (intro W' hW;have q:=hW.c0 m4;go_simp;done)))|(refine Ah (p:=⟨g2,i*8,none⟩) (v:=.agg #[.int .i64 nd,.int .i64 n1,.int .i64 n2,.bool true,.bool false,.int .i64 n5,.int .i64 n6,.int .i64 n7]) ?_ ?_ ?_;(focus rfl);(focus (intro W' hW;exact run_load_struct (sz:=8) (b:=g2) (off:=i*8) rfl Bz (by go_simp) (fun j u hu=>hW.c0 (hce2 j u hu)) rfl;done)))|(refine Ah (p:=⟨Q,0,none⟩) (v:=.agg #[.int .i64 x0,.int .i64 x1,.int .i64 x2,.int .i64 x3,.int .i64 x4,.int .i64 x5,.int .i64 x6,.int .i64 x7,.int .i64 x8,.bool x9,.int .i64 x10]) ?_ ?_ ?_;(focus rfl);(focus (intro W' hW;exact AB rfl Ba (by go_simp) (hQ.e0 hW) rfl;done))));(try simp only [Act.put,zA,zB,zC,zD,zE,zF]);(try simp only [hm]))|((refine BH rfl ?_);(first|(refine Ar (f:=107) (args:=#[.pointer (some ⟨b,0,none⟩),.agg #[.int .i64 j0,.int .i64 j1,.int .i64 j2,.int .i64 j3,.slice GA gn gc,.int .i64 j5,.bool false],.agg #[.int .i64 nd,.int .i64 n1,.int .i64 n2,.bool true,.bool false,.int .i64 n5,.int .i64 n6,.int .i64 n7],.agg #[.int .i64 x0,.int .i64 x1,.int .i64 x2,.int .i64 x3,.int .i64 x4,.int .i64 x5,.int .i64 x6,.int .i64 x7,.int .i64 x8,.bool x9,.int .i64 x10]]) (v:=.bool (Fsm.EI ({ s with AA:=A,nA:=l.length,cA:=c,allocs:=l,next:=nx }:Aa).data ⟨j0,j1,j2,j3,jg,j5,false⟩ ⟨nd,⟨n1,n2⟩,true,false,n5,n6,n7⟩ ⟨x0,x1,x2,x3,x4,x5,x6,⟨x7,x8⟩,x9,x10⟩)) ?_ ?_ ?_;(focus (intro W' hW;go_simp;done));(focus (intro W' hW;refine (Q5 base b ({ s with AA:=A,nA:=l.length,cA:=c,allocs:=l,next:=nx }:Aa) cm j0 j1 j2 j3 jg j5 false GA gn gc nd n1 n2 true false n5 n6 n7 x0 x1 x2 x3 x4 x5 x6 x7 x8 x9 x10 W' (hMq.e0 hW) (by have:=hLn2.out;have:=HT.out;have:=hln.out;show l.length≤_;omega) (hGq.Al hW) hgn hcg).mono ?_;intro e w' hcc;obtain ⟨he,hxu⟩:=hcc;refine ⟨?_,hxu⟩;exact he;done))));(try simp only [Act.put,zA,zB,zC,zD,zE,zF]);(try simp only [hm]))|go_big_quiet_op);go_big_quiet_on))
       refine wpQuiet_nil ?_
       intro wm hxm
       have hMm:=hMq.e0 hxm
       have hstm:=hstq.m0 hxm
       have hst2m:=hst2q.m0 hxm
       have hwm:=Am hwq hxm (fun _ _ e=>e)
       have hCm:=hCq.e0 hxm
       have hQm:=hQ.e0 hxm
       have hzm:=hxm.size
       clear m4 hce2 hMq hCq hstq hst2q hwq hQ hm hxm
       go_upto_region 11 with (first|go_skip|go_guarded)
       have hrow:wm.ownsRow base 55 11 (.slice A l.length c) l.length (l.flatMap Ac.cells):=hMm.own.a
       have hnCm:¬ MW ({ s with AA:=A,nA:=l.length,cA:=c,allocs:=l,next:=nx }:Aa) b C:=hst2m.not hnC hnC2
       have hCb:¬ (C=b):=fun e=>hnCm (.inl e)
       have hCr:¬ ((Value.slice A l.length c).ownBlock=some C):=fun e=>hnCm (MW.oA (s:=({ s with AA:=A,nA:=l.length,cA:=c,allocs:=l,next:=nx }:Aa)) e)
       have hQb:¬ (Q=b):=fun e=>hnQ (.inl e)
       have hQr:¬ ((Value.slice A l.length c).ownBlock=some Q):=fun e=>hnQ (MW.oA (s:=({ s with AA:=A,nA:=l.length,cA:=c,allocs:=l,next:=nx }:Aa)) e)
       have m5:wm.cell? ⟨b,5,none⟩=some (.slice A l.length c):=hMm.blk.cell 5
       have m1:wm.cell? ⟨b,1,none⟩=some (.int .i64 nx):=hMm.blk.cell 1
       have g0:wm.cell? ⟨C,0,none⟩=some (.int .i64 j0):=hCm.cell 0
       have g5:wm.cell? ⟨C,5,none⟩=some (.int .i64 j5):=hCm.cell 5
       have z3:wm.cell? ⟨Q,3,none⟩=some (.int .i64 x3):=hQm.cell 3
       have z4:wm.cell? ⟨Q,4,none⟩=some (.int .i64 x4):=hQm.cell 4
       have z6:wm.cell? ⟨Q,6,none⟩=some (.int .i64 x6):=hQm.cell 6
       have hz7:∀ j u,(#[Value.int .i64 x7,.int .i64 x8]:Array Value).toList[j]? = some u→wm.cell? ⟨Q,7+j,none⟩=some u:=fun j u hu=>by rw [hQm.cell];match j,hu with|0,hu=>exact hu|1,hu=>exact hu|(k+2),hu=>simp at hu
       have hbn:l.length < 67108864:=by have:=hLn2.out;have:=HT.out;have:=hln.out;omega
       have hbm:base≤wm.heap.size:=by have:=hstm.size;omega
       have hd:Ext Nothing wm wm.drew:=(Ext.refl _ _).drew
       refine zS (S:=fun W'=>Ext (fun q=>q=b ∨ (Value.slice A l.length c).ownBlock=some q) wm W'∧W'.cell? ⟨b,1,none⟩=some (.int .i64 nx)) (by kernel_rfl) ?_
       have hS:=And.intro (hd.any (S:=fun q=>q=b ∨ (Value.slice A l.length c).ownBlock=some q)) (hd.c0 m1)
       have hzd:=hd.size
       generalize wm.drew=Wd at hd hS hzd ⊢
       refine zV 0 (.pointer (some ⟨b,0,none⟩)) rfl (by kernel_rfl) hS (fun _ _ _ h=>h) (fun W' hS'=>by go_simp) ?_
       refine zV 1 (.pointer (some ⟨b,0,none⟩)) rfl (by kernel_rfl) hS (fun _ _ _ h=>h) (fun W' hS'=>by go_simp) ?_
       refine zV 2 (.pointer (some ⟨b,0,none⟩)) rfl (by kernel_rfl) hS (fun _ _ _ h=>h) (fun W' hS'=>by go_simp) ?_
       refine zV 3 (.pointer (some ⟨b,0,none⟩)) rfl (by kernel_rfl) hS (fun _ _ _ h=>h) (fun W' hS'=>by go_simp) ?_
       refine zV 4 (.pointer (some ⟨b,5,none⟩)) rfl (by kernel_rfl) hS (fun _ _ _ h=>h) (fun W' hS'=>by go_simp) ?_
       refine zV 6 (.pointer (some ⟨b,0,none⟩)) rfl (by kernel_rfl) hS (fun _ _ _ h=>h) (fun W' hS'=>by go_simp) ?_
       refine zV 7 (.pointer (some ⟨b,0,none⟩)) rfl (by kernel_rfl) hS (fun _ _ _ h=>h) (fun W' hS'=>by go_simp) ?_
       refine zV 8 (.pointer (some ⟨b,0,none⟩)) rfl (by kernel_rfl) hS (fun _ _ _ h=>h) (fun W' hS'=>by go_simp) ?_
       refine zV 9 (.pointer (some ⟨b,1,none⟩)) rfl (by kernel_rfl) hS (fun _ _ _ h=>h) (fun W' hS'=>by go_simp) ?_
       refine zV 10 (.int .i64 nx) rfl (by kernel_rfl) hS (fun _ _ _ h=>h) (fun W' hS'=>by have q:=hS'.2;go_simp) ?_
       refine zV 11 (.pointer (some ⟨C,0,none⟩)) rfl (by kernel_rfl) hS (fun _ _ _ h=>h) (fun W' hS'=>by go_simp) ?_
       refine zV 12 (.int .i64 j0) rfl (by kernel_rfl) hS (fun _ _ _ h=>h) (fun W' hS'=>by have q:=hS'.1.cell g0 (fun e=>e.elim hCb hCr);go_simp) ?_
       refine zV 13 (.pointer (some ⟨C,5,none⟩)) rfl (by kernel_rfl) hS (fun _ _ _ h=>h) (fun W' hS'=>by go_simp) ?_
       refine zV 14 (.int .i64 j5) rfl (by kernel_rfl) hS (fun _ _ _ h=>h) (fun W' hS'=>by have q:=hS'.1.cell g5 (fun e=>e.elim hCb hCr);go_simp) ?_
       refine zV 15 (.pointer (some ⟨Q,3,none⟩)) rfl (by kernel_rfl) hS (fun _ _ _ h=>h) (fun W' hS'=>by go_simp) ?_
       refine zV 16 (.int .i64 x3) rfl (by kernel_rfl) hS (fun _ _ _ h=>h) (fun W' hS'=>by have q:=hS'.1.cell z3 (fun e=>e.elim hQb hQr);go_simp) ?_
       refine zV 17 (.pointer (some ⟨Q,4,none⟩)) rfl (by kernel_rfl) hS (fun _ _ _ h=>h) (fun W' hS'=>by go_simp) ?_
       refine zV 18 (.int .i64 x4) rfl (by kernel_rfl) hS (fun _ _ _ h=>h) (fun W' hS'=>by have q:=hS'.1.cell z4 (fun e=>e.elim hQb hQr);go_simp) ?_
       refine zV 19 (.int .i64 nd) rfl (by kernel_rfl) hS (fun _ _ _ h=>h) (fun W' hS'=>by go_simp) ?_
       refine zV 20 (.pointer (some ⟨Q,6,none⟩)) rfl (by kernel_rfl) hS (fun _ _ _ h=>h) (fun W' hS'=>by go_simp) ?_
       refine zV 21 (.int .i64 x6) rfl (by kernel_rfl) hS (fun _ _ _ h=>h) (fun W' hS'=>by have q:=hS'.1.cell z6 (fun e=>e.elim hQb hQr);go_simp) ?_
       refine zV 22 (.pointer (some ⟨Q,7,none⟩)) rfl (by kernel_rfl) hS (fun _ _ _ h=>h) (fun W' hS'=>by go_simp) ?_
       refine zV 23 (.agg #[.int .i64 x7,.int .i64 x8]) rfl (by kernel_rfl) hS (fun _ _ _ h=>h) (fun W' hS'=>by exact run_load_struct (sz:=2) (b:=Q) (off:=7) rfl DY (by go_simp) (fun j u hu=>hS'.1.cell (hz7 j u hu) (fun e=>e.elim hQb hQr)) rfl) ?_
       refine zV 24 (.agg #[.int .i64 nx,.int .i64 j0,.int .i64 j5,.int .i64 x3,.int .i64 x4,.int .i64 nd,.int .i64 x6,.int .i64 x7,.int .i64 x8,.bool false,.int .i64 1]) rfl (by kernel_rfl) hS (fun _ _ _ h=>h) (fun W' hS'=>by go_simp) ?_
       (try simp only [Act.put,zA,zB,zC,zD,zE,zF])
       have hMd:=hMm.e0 hd
       have q5:Wd.cell? ⟨b,5,none⟩=some (.slice A l.length c):=hMd.blk.cell 5
       refine wpAnyH_all (rs:=[5,25]) (by kernel_rfl) (by simp) (List.forall_mem_cons.2 ⟨?_,List.forall_mem_cons.2 ⟨?_,fun _ h=>absurd h (by simp)⟩⟩)
       refine wpOp_val (v:=.slice A l.length c) (w':=Wd) rfl (by rfl) (by go_simp) ⟨hS,?_⟩
       (try simp only [Act.put,zA,zB,zC,zD,zE,zF])
       refine zO 25 (by kernel_rfl) ?_
       refine wpOp_slice1 rfl (by rfl) 25 _ rfl SRAlloc #[.int .i64 nx,.int .i64 j0,.int .i64 j5,.int .i64 x3,.int .i64 x4,.int .i64 nd,.int .i64 x6,.int .i64 x7,.int .i64 x8,.bool false,.int .i64 1] rfl rfl ⟨And.intro (hS.1.alloc _) (((Ext.refl Nothing Wd).alloc _).c0 hS.2),?_⟩
       (try simp only [Act.put,zA,zB,zC,zD,zE,zF])
       rotate_left
       refine wpOp_slice1 rfl (by rfl) 25 _ rfl SRAlloc #[.int .i64 nx,.int .i64 j0,.int .i64 j5,.int .i64 x3,.int .i64 x4,.int .i64 nd,.int .i64 x6,.int .i64 x7,.int .i64 x8,.bool false,.int .i64 1] rfl rfl ⟨And.intro (hS.1.alloc _) (((Ext.refl Nothing Wd).alloc _).c0 hS.2),?_⟩
       (try simp only [Act.put,zA,zB,zC,zD,zE,zF])
       refine zO 5 (by kernel_rfl) ?_
       refine wpOp_val (v:=.slice A l.length c) (w':=(Wd.alloc (.cells #[.int .i64 nx,.int .i64 j0,.int .i64 j5,.int .i64 x3,.int .i64 x4,.int .i64 nd,.int .i64 x6,.int .i64 x7,.int .i64 x8,.bool false,.int .i64 1] 55))) rfl (by rfl) (by have q6:=((Ext.refl Nothing Wd).alloc (.cells #[.int .i64 nx,.int .i64 j0,.int .i64 j5,.int .i64 x3,.int .i64 x4,.int .i64 nd,.int .i64 x6,.int .i64 x7,.int .i64 x8,.bool false,.int .i64 1] 55)).c0 q5;go_simp) ⟨And.intro (hS.1.alloc _) (((Ext.refl Nothing Wd).alloc _).c0 hS.2),?_⟩
       (try simp only [Act.put,zA,zB,zC,zD,zE,zF])
       all_goals (
        have hx6:Ext Nothing wm (Wd.alloc (.cells #[.int .i64 nx,.int .i64 j0,.int .i64 j5,.int .i64 x3,.int .i64 x4,.int .i64 nd,.int .i64 x6,.int .i64 x7,.int .i64 x8,.bool false,.int .i64 1] 55)):=hd.alloc _
        have hS6:=And.intro (hS.1.alloc (.cells #[.int .i64 nx,.int .i64 j0,.int .i64 j5,.int .i64 x3,.int .i64 x4,.int .i64 nd,.int .i64 x6,.int .i64 x7,.int .i64 x8,.bool false,.int .i64 1] 55)) (((Ext.refl Nothing Wd).alloc (.cells #[.int .i64 nx,.int .i64 j0,.int .i64 j5,.int .i64 x3,.int .i64 x4,.int .i64 nd,.int .i64 x6,.int .i64 x7,.int .i64 x8,.bool false,.int .i64 1] 55)).c0 hS.2)
        have hb6:Blk (Wd.alloc (.cells #[.int .i64 nx,.int .i64 j0,.int .i64 j5,.int .i64 x3,.int .i64 x4,.int .i64 nd,.int .i64 x6,.int .i64 x7,.int .i64 x8,.bool false,.int .i64 1] 55)) Wd.heap.size 55 #[.int .i64 nx,.int .i64 j0,.int .i64 j5,.int .i64 x3,.int .i64 x4,.int .i64 nd,.int .i64 x6,.int .i64 x7,.int .i64 x8,.bool false,.int .i64 1]:=Blk.new _ _ _
        clear q5
        generalize hpb:Wd.heap.size=pb at hb6 hzd ⊢
        clear hpb
        generalize (Wd.alloc (.cells #[.int .i64 nx,.int .i64 j0,.int .i64 j5,.int .i64 x3,.int .i64 x4,.int .i64 nd,.int .i64 x6,.int .i64 x7,.int .i64 x8,.bool false,.int .i64 1] 55))=w6 at hx6 hS6 hb6 ⊢
        have hM6:=hMm.e0 hx6
        have hrow6:=Am hrow hx6 (fun _ _ e=>e)
        have hz6:=hx6.size
        refine zO 26 (by kernel_rfl) ?_
        refine NA rfl (by rfl) _ _ 25 rfl base SRAlloc (.slice A l.length c) l.length (l.flatMap Ac.cells) rfl hrow6 pb 1 #[.int .i64 nx,.int .i64 j0,.int .i64 j5,.int .i64 x3,.int .i64 x4,.int .i64 nd,.int .i64 x6,.int .i64 x7,.int .i64 x8,.bool false,.int .i64 1] rfl hb6 rfl rfl hbn (by omega) ?_
        intro A1 c1 wa owna ga hq1
        have hxa:Ext (fun q=>(Value.slice A l.length c).ownBlock=some q) w6 wa:=Ext.BI ga (fun _ e=>e)
        have hnb:¬ ((Value.slice A l.length c).ownBlock=some b):=fun e=>own_ne hrow6 hM6.blk (by decide) e
        have hSa:=And.intro (hS6.1.trans hxa (fun q hq e=>.inr e)) (hxa.cell hS6.2 hnb)
        refine ⟨hSa,?_⟩
        (try simp only [Act.put,zA,zB,zC,zD,zE,zF])
        refine zV 27 (.pointer (some ⟨b,0,none⟩)) rfl (by kernel_rfl) hSa (fun _ _ _ h=>h) (fun W' hS'=>by go_simp) ?_
        refine zV 28 (.pointer (some ⟨b,0,none⟩)) rfl (by kernel_rfl) hSa (fun _ _ _ h=>h) (fun W' hS'=>by go_simp) ?_
        refine zV 29 (.pointer (some ⟨b,5,none⟩)) rfl (by kernel_rfl) hSa (fun _ _ _ h=>h) (fun W' hS'=>by go_simp) ?_
        (try simp only [Act.put,zA,zB,zC,zD,zE,zF])
        refine zO 30 (by kernel_rfl) ?_
        have hBa:=hM6.blk.ext hxa hnb
        have a5:wa.cell? ⟨b,5,none⟩=some (.slice A l.length c):=hBa.cell 5
        have a5f:wa.frozen? ⟨b,5,none⟩=false:=hBa.frozen 5
        have hs7:Ext (fun q=>q=b) wa (wa.setCell ⟨b,5,none⟩ (.slice A1 (l.length+1) c1)):=Ext.set1 _ _ _ _
        refine AC (w':=(wa.setCell ⟨b,5,none⟩ (.slice A1 (l.length+1) c1))) rfl (by rfl) (by go_simp) ⟨And.intro (hSa.1.trans hs7 (fun q hq e=>.inl e)) (cell_set_ne hSa.2 (by decide) hBa),?_⟩
        (try simp only [Act.put,zA,zB,zC,zD,zE,zF])
        refine wpAnyH_done (by kernel_rfl) ?_ _
        (try simp only [Act.put,zA,zB,zC,zD,zE,zF])
        have ho1:=CG (x:=(⟨nx,j0,j5,x3,x4,nd,x6,⟨x7,x8⟩,false,1⟩ : Ac)) owna rfl rfl
        have hlen:(l ++ [(⟨nx,j0,j5,x3,x4,nd,x6,⟨x7,x8⟩,false,1⟩ : Ac)]).length=l.length+1:=by simp
        have ho2:wa.ownsRow base 55 11 (.slice A1 (l ++ [(⟨nx,j0,j5,x3,x4,nd,x6,⟨x7,x8⟩,false,1⟩ : Ac)]).length c1) (l ++ [(⟨nx,j0,j5,x3,x4,nd,x6,⟨x7,x8⟩,false,1⟩ : Ac)]).length ((l ++ [(⟨nx,j0,j5,x3,x4,nd,x6,⟨x7,x8⟩,false,1⟩ : Ac)]).flatMap Ac.cells):=ho1
        have hOa:Aw base wa ({ s with AA:=A1,nA:=(l ++ [(⟨nx,j0,j5,x3,x4,nd,x6,⟨x7,x8⟩,false,1⟩ : Ac)]).length,cA:=c1,allocs:=l ++ [(⟨nx,j0,j5,x3,x4,nd,x6,⟨x7,x8⟩,false,1⟩ : Ac)],next:=nx }:Aa):=hM6.own.wA hxa (Apart.row hrow6 (by decide)) ho2
        have hM7:Az base (wa.setCell ⟨b,5,none⟩ (.slice A1 (l.length+1) c1)) b ({ s with AA:=A1,nA:=(l ++ [(⟨nx,j0,j5,x3,x4,nd,x6,⟨x7,x8⟩,false,1⟩ : Ac)]).length,cA:=c1,allocs:=l ++ [(⟨nx,j0,j5,x3,x4,nd,x6,⟨x7,x8⟩,false,1⟩ : Ac)],next:=nx }:Aa) cm:=⟨by rw [show ({ s with AA:=A1,nA:=(l ++ [(⟨nx,j0,j5,x3,x4,nd,x6,⟨x7,x8⟩,false,1⟩ : Ac)]).length,cA:=c1,allocs:=l ++ [(⟨nx,j0,j5,x3,x4,nd,x6,⟨x7,x8⟩,false,1⟩ : Ac)],next:=nx }:Aa).Kj cm=(({ s with AA:=A,nA:=l.length,cA:=c,allocs:=l,next:=nx }:Aa).Kj cm).setIfInBounds 5 (.slice A1 (l.length+1) c1) from by unfold Aa.Kj;rw [hlen];rfl];exact hBa.Bi 5 _,hOa.keep hs7 (Apart.one hBa (by decide)),hM6.lo⟩
        have hstx:Step wm (wa.setCell ⟨b,5,none⟩ (.slice A1 (l.length+1) c1)) b ({ s with AA:=A,nA:=l.length,cA:=c,allocs:=l,next:=nx }:Aa) ({ s with AA:=A1,nA:=(l ++ [(⟨nx,j0,j5,x3,x4,nd,x6,⟨x7,x8⟩,false,1⟩ : Ac)]).length,cA:=c1,allocs:=l ++ [(⟨nx,j0,j5,x3,x4,nd,x6,⟨x7,x8⟩,false,1⟩ : Ac)],next:=nx }:Aa):=((Step.of0 hx6).put hxa (fun q hq=>MW.oA (s:=({ s with AA:=A,nA:=l.length,cA:=c,allocs:=l,next:=nx }:Aa)) hq) (MW.I9 (s:=({ s with AA:=A,nA:=l.length,cA:=c,allocs:=l,next:=nx }:Aa)) (A:=A1) (d:=c1) (l:=l ++ [(⟨nx,j0,j5,x3,x4,nd,x6,⟨x7,x8⟩,false,1⟩ : Ac)]) hq1)).cell (s2:=({ s with AA:=A1,nA:=(l ++ [(⟨nx,j0,j5,x3,x4,nd,x6,⟨x7,x8⟩,false,1⟩ : Ac)]).length,cA:=c1,allocs:=l ++ [(⟨nx,j0,j5,x3,x4,nd,x6,⟨x7,x8⟩,false,1⟩ : Ac)],next:=nx }:Aa)) (.inl rfl) (fun q hq=>hq) _
        have hw7:=Am (Am (Am hwm hx6 (fun _ _ e=>e)) hxa (fun q hq e=>(hst2m.not (hwn q hq) (CB hownb hq)) (MW.oA (s:=({ s with AA:=A,nA:=l.length,cA:=c,allocs:=l,next:=nx }:Aa)) e))) hs7 (fun q hq e=>(hst2m.not (hwn q hq) (CB hownb hq)) (.inl e))
        have HLL:=Lib.hid hlen
        clear hlen a5 a5f hs7 hBa hSa hS6 hS hb6 owna ga hq1 ho1 ho2 hOa hxa hrow6 hM6 hx6 hnb
        generalize (wa.setCell ⟨b,5,none⟩ (.slice A1 (l.length+1) c1))=w7 at hM7 hstx hw7 ⊢
        have b1:w7.cell? ⟨b,1,none⟩=some (.int .i64 nx):=hM7.blk.cell 1
        have b1f:w7.frozen? ⟨b,1,none⟩=false:=hM7.blk.frozen 1
        go_wp2_with (first|go_skip|go_guarded)
        have hM8:Az base (w7.setCell ⟨b,1,none⟩ (.int .i64 (wrap64 (nx+1)))) b ({ s with AA:=A1,nA:=(l ++ [(⟨nx,j0,j5,x3,x4,nd,x6,⟨x7,x8⟩,false,1⟩ : Ac)]).length,cA:=c1,allocs:=l ++ [(⟨nx,j0,j5,x3,x4,nd,x6,⟨x7,x8⟩,false,1⟩ : Ac)],next:=(wrap64 (nx+1)) }:Aa) cm:=hM7.put 1 (.int .i64 (wrap64 (nx+1))) (hM7.own.next (wrap64 (nx+1))) rfl
        have hst8:Step wm (w7.setCell ⟨b,1,none⟩ (.int .i64 (wrap64 (nx+1)))) b ({ s with AA:=A,nA:=l.length,cA:=c,allocs:=l,next:=nx }:Aa) ({ s with AA:=A1,nA:=(l ++ [(⟨nx,j0,j5,x3,x4,nd,x6,⟨x7,x8⟩,false,1⟩ : Ac)]).length,cA:=c1,allocs:=l ++ [(⟨nx,j0,j5,x3,x4,nd,x6,⟨x7,x8⟩,false,1⟩ : Ac)],next:=(wrap64 (nx+1)) }:Aa):=hstx.cell (s2:=({ s with AA:=A1,nA:=(l ++ [(⟨nx,j0,j5,x3,x4,nd,x6,⟨x7,x8⟩,false,1⟩ : Ac)]).length,cA:=c1,allocs:=l ++ [(⟨nx,j0,j5,x3,x4,nd,x6,⟨x7,x8⟩,false,1⟩ : Ac)],next:=(wrap64 (nx+1)) }:Aa)) (.inl rfl) (fun q hq=>hq) _
        have hw8:=Am hw7 (Ext.set1 w7 b 1 (.int .i64 (wrap64 (nx+1)))) (fun q hq e=>(hst2m.not (hwn q hq) (CB hownb hq)) (.inl e))
        go_roundw
        case rel=>(try rw [← HLE.out]);exact ⟨t+1,HT.out,by go_num,A1,c1,l ++ [(⟨nx,j0,j5,x3,x4,nd,x6,⟨x7,x8⟩,false,1⟩ : Ac)],wrap64 (nx+1),hM8,Lib.hid (HS.out.trans (by unfold Fsm.placed;rw [← hA6];rfl)),Lib.hid (by have:=hLn2.out;have:=HLL.out;omega),hw8,hstm.trans hst8,hst2m.trans hst8⟩
        case measure=>have:=HT.out;simp [intOf];omega
        )
     have HALL:=Lib.hid (show ls.foldl (Fsm.Bc ⟨j0,j1,j2,j3,jg,j5,false⟩ ⟨nd,⟨n1,n2⟩,true,false,n5,n6,n7⟩) (some s.data)=some ({ s with AA:=A,nA:=l.length,cA:=c,allocs:=l,next:=nx }:Aa).data by rw [← hD.out,List.take_of_length_le (by have:=hln.out;omega)])
     have hnlt:¬ ((t:Int) < ln):=by omega
     have HL0:=Lib.hid (show l.length≤s.allocs.length+ls.length by have:=hLn2.out;have:=hln.out;omega)
     clear hD hLn2
     obtain ⟨l0,hl0⟩ : ∃ l0,l0=l:=⟨_,rfl⟩
     have HTR0:=Lib.hid (show Fsm.Di s.data.jobs l.length l=Fsm.Di s.data.jobs l0.length l0 by rw [hl0])
     have HL1:=Lib.hid (show l.length≤l0.length by rw [hl0];exact Nat.le_refl _)
     rw [← hl0] at HALL
     rw [← hl0] at HL0
     clear hl0
     have m5:wr.cell? ⟨b,5,none⟩=some (.slice A l.length c):=hMr.blk.cell 5
     skip
     obtain ⟨w0,rfl⟩ : ∃ w0:World,w0=wr:=⟨_,rfl⟩
     clear m5
     go_wp2
     go_loopw [] (fun wr=>∃ A c l,Az base wr b ({ s with AA:=A,nA:=l.length,cA:=c,allocs:=l,next:=nx }:Aa) cm∧Hid (Fsm.Di s.data.jobs l.length l=Fsm.Di s.data.jobs l0.length l0)∧Hid (l.length≤l0.length)∧wr.ownsRow base 55 11 (.slice WA s.allocs.length wc0) s.allocs.length (s.allocs.flatMap Ac.cells)∧Step w wr b s ({ s with AA:=A,nA:=l.length,cA:=c,allocs:=l,next:=nx }:Aa)∧Step w2 wr b s ({ s with AA:=A,nA:=l.length,cA:=c,allocs:=l,next:=nx }:Aa)) (fun wr=>match wr.cell? ⟨b,5,none⟩ with|some (.slice _ n _)=>n|_=>0)
     case atStart=>exact ⟨A,c,l,hMr,HTR0,HL1,hwr,hst,hst2⟩
     case round =>
      clear hMr HTR0 HL1 hwr hst hst2 hwm hCr
      obtain ⟨A,c,l,hMr,hTR,hL1,hwr,hst,hst2⟩:=hrel
      have m5:wr.cell? ⟨b,5,none⟩=some (.slice A l.length c):=hMr.blk.cell 5
      have hwm:∀ q,(Value.slice WA s.allocs.length wc0).ownBlock=some q→¬ MW ({ s with AA:=A,nA:=l.length,cA:=c,allocs:=l,next:=nx }:Aa) b q:=fun q hq=>hst2.not (hwn q hq) (CB hownb hq)
      by_cases h64:64 < l.length
      ·have h64i:(64:Int) < (l.length:Int):=by omega
       have e64:decide ((64:Int) < (l.length:Int))=true:=by simp;omega
       have hla:({ s with AA:=A,nA:=l.length,cA:=c,allocs:=l,next:=nx }:Aa).allocs.length≤67108864:=by show l.length≤_;have:=hL1.out;have:=HL0.out;have:=hln.out;omega
       have hjj:({ s with AA:=A,nA:=l.length,cA:=c,allocs:=l,next:=nx }:Aa).jobs.length≤1048576:=hJ
       have H64:=Lib.hid h64
       clear h64
       cases hfi:l.findIdx? (fun a=>!Fsm.Cf s.data.jobs a) with
       | none =>
        have HI2:=Lib.hid (show CO (fun a=>!Fsm.Cf ({ s with AA:=A,nA:=l.length,cA:=c,allocs:=l,next:=nx }:Aa).data.jobs a) ({ s with AA:=A,nA:=l.length,cA:=c,allocs:=l,next:=nx }:Aa).allocs=-1 by show CO (fun a=>!Fsm.Cf s.data.jobs a) l=-1;unfold CO;rw [hfi])
        have HNT:=Lib.hid (show Fsm.Di s.data.jobs l0.length l0=none from hTR.out.symm.trans (Fsm.Mv _ H64.out hfi _))
        clear hfi
        go_upto_region 17 with (first|go_skip|go_guarded|(go_at_call 108;(with_reducible refine (MK base b ({ s with AA:=A,nA:=l.length,cA:=c,allocs:=l,next:=nx }:Aa) cm wr hMr hjj hla).mono ?_);rintro e wi ⟨rfl,hxi⟩;(rw [HI2.out])))
        clear m5 e64 h64i
        have hMi:=hMr.e0 hxi
        have hsti:=hst.m0 hxi
        have hwi:=Am hwr hxi (fun _ _ e=>e)
        have m5:=hMi.blk.cell 5
        have m5:wi.cell? ⟨b,5,none⟩=some (.slice A l.length c):=hMi.blk.cell 5
        have m5f:wi.frozen? ⟨b,5,none⟩=false:=hMi.blk.frozen 5
        have hB5:=hMi.blk.Bi 5 (.slice WA s.allocs.length wc0)
        have m1:(wi.setCell ⟨b,5,none⟩ (.slice WA s.allocs.length wc0)).cell? ⟨b,1,none⟩=some (.int .i64 nx):=hB5.cell 1
        have m1f:(wi.setCell ⟨b,5,none⟩ (.slice WA s.allocs.length wc0)).frozen? ⟨b,1,none⟩=false:=hB5.frozen 1
        go_wp2_with (first|go_skip|go_guarded)
        go_ret
        have hsb:Ext (fun q=>q=b) wi ((wi.setCell ⟨b,5,none⟩ (.slice WA s.allocs.length wc0)).setCell ⟨b,1,none⟩ (.int .i64 s.next)):=(Ext.set1 wi b 5 _).trans (Ext.set1 _ b 1 _) (fun _ _ e=>e)
        have hO:Aw base wi (({ s with AA:=A,nA:=l.length,cA:=c,allocs:=l,next:=nx }:Aa).I9 WA wc0 s.allocs):=hMi.own.wA (Ext.refl Nothing _) Apart.none hwi
        have hO2:Aw base ((wi.setCell ⟨b,5,none⟩ (.slice WA s.allocs.length wc0)).setCell ⟨b,1,none⟩ (.int .i64 s.next)) ({ s with AA:=WA,nA:=s.allocs.length,cA:=wc0 }:Aa):=(hO.next s.next).keep hsb (Apart.one hMi.blk (by decide))
        have hMb:Az base ((wi.setCell ⟨b,5,none⟩ (.slice WA s.allocs.length wc0)).setCell ⟨b,1,none⟩ (.int .i64 s.next)) b ({ s with AA:=WA,nA:=s.allocs.length,cA:=wc0 }:Aa) cm:=⟨hB5.Bi 1 _,hO2,hMi.lo⟩
        have hsb2:Step w ((wi.setCell ⟨b,5,none⟩ (.slice WA s.allocs.length wc0)).setCell ⟨b,1,none⟩ (.int .i64 s.next)) b s ({ s with AA:=WA,nA:=s.allocs.length,cA:=wc0 }:Aa):=⟨hsti.ext.trans hsb (fun q _ e=>.inl e),MW.I9 (s:=s) (A:=WA) (d:=wc0) (l:=s.allocs) (n':=s.nA) (c':=s.cA) (fun q hq=>.inr (BM hown0.out hq))⟩
        exact ⟨⟨({ s with AA:=WA,nA:=s.allocs.length,cA:=wc0 }:Aa),false,rfl,hMb,by show Fsm.places s.data ⟨j0,j1,j2,j3,jg,j5,false⟩ nd ls=(s.data,false);exact Fsm.Mo HNA.out rfl rfl rfl hls HALL.out HNT.out,hsb2⟩⟩
       | some k =>
        have hkl:k < l.length:=(List.findIdx?_eq_some_iff_getElem.1 hfi).1
        have HI2:=Lib.hid (show CO (fun a=>!Fsm.Cf ({ s with AA:=A,nA:=l.length,cA:=c,allocs:=l,next:=nx }:Aa).data.jobs a) ({ s with AA:=A,nA:=l.length,cA:=c,allocs:=l,next:=nx }:Aa).allocs=(k:Int) by show CO (fun a=>!Fsm.Cf s.data.jobs a) l=_;unfold CO;rw [hfi])
        have HTS:=Lib.hid (Fsm.Ny s.data.jobs H64.out hfi hkl)
        have hk0n:¬ ((k:Int) < 0):=by omega
        have hk0d:decide ((k:Int) < 0)=false:=by simp
        have hwk:wrap64 ((k:Int)+1)=(k:Int)+1:=by have:=hL1.out;have:=HL0.out;have:=hln.out;unfold wrap64;omega
        have HWK:=Lib.hid hwk
        clear hfi hwk
        go_upto_region 19 with (first|go_skip|go_guarded|(go_at_call 108;(with_reducible refine (MK base b ({ s with AA:=A,nA:=l.length,cA:=c,allocs:=l,next:=nx }:Aa) cm wr hMr hjj hla).mono ?_);rintro e wi ⟨rfl,hxi⟩;(rw [HI2.out])))
        clear m5 e64 h64i
        have hMi:=hMr.e0 hxi
        have hsti:=hst.m0 hxi
        have hst2i:=hst2.m0 hxi
        have hwi:=Am hwr hxi (fun _ _ e=>e)
        have m5:wi.cell? ⟨b,5,none⟩=some (.slice A l.length c):=hMi.blk.cell 5
        have hrow:wi.ownsRow base 55 11 (.slice A l.length c) l.length (l.flatMap Ac.cells):=hMi.own.a
        have hl62:l.length≤67108862:=by have:=hL1.out;have:=HL0.out;have:=hln.out;omega
        have hnb:¬ ((Value.slice A l.length c).ownBlock=some b):=fun e=>own_ne hrow hMi.blk (by decide) e
        go_wp2_with (first|go_skip|go_guarded|(go_at_call 110;(try rw [HWK.out]);(with_reducible refine (O1 base A c l k wi hkl hl62 hrow).mono ?_);rintro e wj ⟨rfl,hownj,hxj⟩;have hBj:=hMi.blk.ext hxj hnb;have m5:wj.cell? ⟨b,5,none⟩=some (.slice A l.length c):=hBj.cell 5;have m5f:wj.frozen? ⟨b,5,none⟩=false:=hBj.frozen 5))
        have hle:(l.eraseIdx k).length=l.length - 1:=List.length_eraseIdx_of_lt hkl
        have ho2:wj.ownsRow base 55 11 (.slice A (l.eraseIdx k).length c) (l.eraseIdx k).length ((l.eraseIdx k).flatMap Ac.cells):=by rw [hle];exact hownj
        have hOj:=hMi.own.wA hxj (Apart.row hrow (by decide)) ho2
        have hs7:Ext (fun q=>q=b) wj (wj.setCell ⟨b,5,none⟩ (.slice A (l.length - 1) c)):=Ext.set1 _ _ _ _
        have hM7:Az base (wj.setCell ⟨b,5,none⟩ (.slice A (l.length - 1) c)) b ({ s with AA:=A,nA:=(l.eraseIdx k).length,cA:=c,allocs:=l.eraseIdx k,next:=nx }:Aa) cm:=⟨by rw [show ({ s with AA:=A,nA:=(l.eraseIdx k).length,cA:=c,allocs:=l.eraseIdx k,next:=nx }:Aa).Kj cm=(({ s with AA:=A,nA:=l.length,cA:=c,allocs:=l,next:=nx }:Aa).Kj cm).setIfInBounds 5 (.slice A (l.length - 1) c) from by unfold Aa.Kj;rw [hle];rfl];exact hBj.Bi 5 _,hOj.keep hs7 (Apart.one hBj (by decide)),hMi.lo⟩
        have hstx:Step wi (wj.setCell ⟨b,5,none⟩ (.slice A (l.length - 1) c)) b ({ s with AA:=A,nA:=l.length,cA:=c,allocs:=l,next:=nx }:Aa) ({ s with AA:=A,nA:=(l.eraseIdx k).length,cA:=c,allocs:=l.eraseIdx k,next:=nx }:Aa):=((Step.refl wi b _).put hxj (fun q hq=>MW.oA (s:=({ s with AA:=A,nA:=l.length,cA:=c,allocs:=l,next:=nx }:Aa)) hq) (MW.I9 (s:=({ s with AA:=A,nA:=l.length,cA:=c,allocs:=l,next:=nx }:Aa)) (A:=A) (d:=c) (l:=l.eraseIdx k) (n:=l.length) (n':=l.length) (c:=c) (c':=c) (fun q hq=>.inl hq))).cell (s2:=({ s with AA:=A,nA:=(l.eraseIdx k).length,cA:=c,allocs:=l.eraseIdx k,next:=nx }:Aa)) (.inl rfl) (fun q hq=>hq) _
        have hw7:=Am (Am hwi hxj (fun q hq e=>hwm q hq (MW.oA (s:=({ s with AA:=A,nA:=l.length,cA:=c,allocs:=l,next:=nx }:Aa)) e))) hs7 (fun q hq e=>hwm q hq (.inl e))
        have HEQ:=Lib.hid (show l.take k ++ l.drop (k+1)=l.eraseIdx k from (List.eraseIdx_eq_take_drop_succ ..).symm)
        have HLE2:=Lib.hid hle
        have hkl2:=Lib.hid hkl
        go_roundw
        case rel=>exact ⟨A,c,l.eraseIdx k,hM7,Lib.hid (by rw [← HEQ.out,← HTS.out];exact hTR.out),Lib.hid (by have:=hL1.out;have:=HLE2.out;omega),hw7,hsti.trans hstx,hst2i.trans hstx⟩
        case measure=>rw [show (wj.setCell ⟨b,5,none⟩ (Value.slice A (l.length - 1) c)).cell? ⟨b,5,none⟩=some (Value.slice A (l.length - 1) c) by rw [hM7.blk.cell 5];show some (Value.slice A (l.eraseIdx k).length c)=_;rw [HLE2.out],show wr.cell? ⟨b,5,none⟩=some (Value.slice A l.length c) from hMr.blk.cell 5];show l.length - 1 < l.length;have:=hkl2.out;omega
      have e64:decide ((64:Int) < (l.length:Int))=false:=by simp;omega
      have hn64:¬ ((64:Int) < (l.length:Int)):=by omega
      go_wp2_with (first|go_skip|go_guarded)
      go_ret
      exact ⟨⟨({ s with AA:=A,nA:=l.length,cA:=c,allocs:=l,next:=nx }:Aa),true,rfl,hMr,by show Fsm.places s.data ⟨j0,j1,j2,j3,jg,j5,false⟩ nd ls=(({ s with AA:=A,nA:=l.length,cA:=c,allocs:=l,next:=nx }:Aa).data,true);exact Fsm.Ma HNA.out rfl rfl rfl hls HALL.out (hTR.out.symm.trans (Fsm.NG _ (by omega) _)),hst⟩⟩
end Go.Proofs.YtccekmeifanipaaGreat
