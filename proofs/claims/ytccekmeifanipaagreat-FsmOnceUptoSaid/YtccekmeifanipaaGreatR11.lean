/- Parts of the proof: MPutL MPutEval MEval RefE RefC RefP RefSl RefK -/
import Derived.Test.YtccekmeifanipaaGreatR10
import Derived.Test.YtccekmeifanipaaGreatR03
import Derived.Test.YtccekmeifanipaaGreatR06
import Derived.Deep.CutRange
import Derived.Test.YtccekmeifanipaaGreatR09
import Derived.Test.YtccekmeifanipaaGreatR07
import Derived.StillTailTactics
import Derived.Deep.RegionWith
namespace Go.Proofs.YtccekmeifanipaaGreat
set_option linter.unusedVariables false
set_option linter.unusedSimpArgs false
set_option linter.unusedSectionVars false
section
open Go.RowKit
theorem Gg {α:Type} {f:α→List Value} {sz:Nat} (hf:∀ x,(f x).length=sz) {x:α}:∀ {xs:List α} {i:Nat},i < xs.length→(xs.set i x).flatMap f=(xs.flatMap f).take (i*sz) ++ f x ++ (xs.flatMap f).drop (i*sz+sz)
 | [],i,h=>by simp at h
 | y :: r,0,_=>by
  rw [List.set_cons_zero,List.flatMap_cons,List.flatMap_cons,Nat.zero_mul,Nat.zero_add,List.take_zero,List.nil_append,List.drop_left' (hf y)]
 | y :: r,i+1,h=>by
  have ih:=Gg hf (x:=x) (xs:=r) (i:=i) (by simpa using h)
  have e1:(i+1)*sz=sz+i*sz:=by rw [Nat.add_mul];omega
  rw [List.set_cons_succ,List.flatMap_cons,List.flatMap_cons,ih,e1,List.take_append,hf,List.drop_append,hf,List.take_of_length_le (l:=f y) (by rw [hf];omega),List.drop_of_length_le (l:=f y) (by rw [hf];omega),show sz+i*sz - sz=i*sz by omega,show sz+i*sz+sz - sz=i*sz+sz by omega]
  simp [List.append_assoc]
theorem PN {L v:List Value} {a sz N:Nat} (hv:v.length=sz) (h1:a+sz≤N) (h2:N≤L.length):(L.take a ++ v ++ L.drop (a+sz)).take N=(L.take N).take a ++ v ++ (L.take N).drop (a+sz):=by
 have hl:(L.take a ++ v).length=a+sz:=by rw [List.length_append,List.length_take,hv];omega
 rw [List.take_append,hl,List.take_of_length_le (by omega),List.take_take,Nat.min_eq_left (by omega),List.drop_take]
theorem Ei {α:Type} {f:α→List Value} {w:World} {base e sz c:Nat} {A:Option Addr} {xs:List α} (hf:∀ x,(f x).length=sz) (h:w.ownsRow base e sz (.slice A xs.length c) xs.length (xs.flatMap f)) {i:Nat} (hi:i < xs.length) :
  ∃ g cur,A=some ⟨g,0,none⟩∧base≤g∧Blk w g e cur∧cur.size=c*sz∧xs.length≤c∧c≤maxLen∧cur.toList.take (xs.length*sz)=xs.flatMap f ∧
   ∀ (x:α) (w' : World),Blk w' g e (cur.toList.take (i*sz) ++ f x ++ cur.toList.drop (i*sz+sz)).toArray→w'.ownsRow base e sz (.slice A xs.length c) xs.length ((xs.set i x).flatMap f):=by
 rcases h.2 with ⟨h1,h2⟩|⟨g,cap,cur,hv,hb,hg,h1,h2,h3,h4⟩
 ·omega
 injection hv with hA _ hc
 subst hA hc
 refine ⟨g,cur,rfl,hb,hg,h3,h1,h2,h4,fun x w' hw=>?_⟩
 have hm:i*sz+sz≤xs.length*sz:=by have:=Nat.mul_le_mul_right sz (show i+1≤xs.length from hi);rw [Nat.add_mul] at this;omega
 have hm3:xs.length*sz≤cur.size:=by rw [h3];exact Nat.mul_le_mul_right sz h1
 have hm2:xs.length*sz≤cur.toList.length:=by simpa using hm3
 have hset:=Gg hf (x:=x) hi
 refine ⟨?_,.inr ⟨g,c,_,rfl,hb,hw,h1,h2,?_,?_⟩⟩
 ·have hfl:(xs.flatMap f).length=xs.length*sz:=h.1
  rw [hset,List.length_append,List.length_append,List.length_take,List.length_drop,hf,hfl];omega
 ·simp only [List.size_toArray,List.length_append,List.length_take,List.length_drop,hf,Array.length_toList]
  omega
 rw [List.toList_toArray,PN (hf x) hm hm2,h4,hset]
theorem Gr {P:Program} {w:World} {g off:Nat} {t ty:TypeId} {sz:Nat} {cs0 cs:Array Value} (hB:Blk w g t cs0) (h0:off+sz≤cs0.size) (E:Bb P ty sz) (hcs:cs.size=sz) (h1:cs.toList.all Value.oneCell' = true) :
  ∃ w',(Instr.storeAt ty (.pointer (some ⟨g,off,none⟩)) (.agg cs)).run P w=.ok () w'∧Blk w' g t (cs0.toList.take off ++ cs.toList ++ cs0.toList.drop (off+sz)).toArray∧Ext (fun q=>q=g) w w':=by
 obtain ⟨⟨fs,hu⟩,hs⟩:=E
 obtain ⟨i,hi1,hi2⟩:=Option.map_eq_some_iff.1 hs
 have hst:=run_storeCells_at P g off t cs.toList 0 cs0 w hB (by simp;omega) (fun v hv=>List.all_eq_true.1 h1 v hv)
 have h2:(cs0.toList.take (off+0) ++ cs.toList ++ cs0.toList.drop (off+0+cs.toList.length)).toArray=(cs0.toList.take off ++ cs.toList ++ cs0.toList.drop (off+sz)).toArray:=by
  simp only [Nat.add_zero,Array.length_toList,hcs]
 rw [h2] at hst
 refine ⟨w.setRow g (cs0.toList.take off ++ cs.toList ++ cs0.toList.drop (off+sz)).toArray,?_,?_,⟨rfl,rfl,rfl,by simp [World.setRow],fun k hk hn=>?_⟩⟩
 ·simp only [Instr.storeAt,Instr.sureAddr,Sem.run_bind,Sem.run_pure,Result.andThen_ok,storeVar,sizeOf,typeInfo,run_program,hi1,Value.cells,hi2,hcs]
  simp [hst]
 ·show (w.setRow g _).heap[g]? = _
  simp only [World.setRow,Array.getElem?_modify,if_true,show w.heap[g]? = _ from hB]
  rfl
 simp only [World.setRow,Array.getElem?_modify]
 rw [if_neg (fun e=>hn e.symm)]
section
variable {P:Program} {w:World} {ops:Array Oper} {rest:List Oper} {o:Oper} {a:Act} {Q:Exit→Act→World→Prop}
theorem wpList_store_row (hgd:o.guard=none) (ty:TypeId) (p x:Operand) (ho:o.op=.store ty p x) {sz:Nat} (E:Bb P ty sz) (g off:Nat) (hp:a.eval p=.pointer (some ⟨g,off,none⟩)) (cs:Array Value) (hx:a.eval x=.agg cs)
  {t:TypeId} {cs0:Array Value} (hB:Blk w g t cs0) (h0:off+sz≤cs0.size) (hcs:cs.size=sz) (h1:cs.toList.all Value.oneCell' = true)
  (h:∀ w',Blk w' g t (cs0.toList.take off ++ cs.toList ++ cs0.toList.drop (off+sz)).toArray→Ext (fun q=>q=g) w w'→wpList P ops Q rest (a.put o.dst undef) w'):wpList P ops Q (o :: rest) a w:=by
 refine wpList_plain hgd fun K hK=>?_
 obtain ⟨w',hr,h2,h3⟩:=Gr hB h0 E hcs h1
 unfold Oper.wp
 rw [D5 ho hp hx hr]
 exact hK _ _ (h w' h2 h3)
end
theorem CQ {A:Option Addr} {n n' c c' : Nat}:(Value.slice A n c).ownBlock=(Value.slice A n' c').ownBlock:=by cases A <;> rfl
theorem Az.pJ {base:Nat} {W W' : World} {s:Aa} (h:Az base W s) (hx:Ext (fun q=>(Value.slice s.AJ s.jobs.length s.cJ).ownBlock=some q) W W') {A:Option Addr} {c:Nat} {l:List JobV} (o:W'.ownsRow base 39 7 (.slice A l.length c) l.length (l.flatMap JobV.cells))
  (hq:∀ q,(Value.slice A l.length c).ownBlock=some q→(Value.slice s.AJ s.jobs.length s.cJ).ownBlock=some q ∨ W.heap.size≤q) (g:∀ y∈l,CO base W' y):Az base W' (s.CP A c l):=by
 have hjo:W.ownsRow base 39 7 (.slice s.AJ s.jobs.length s.cJ) s.jobs.length (s.jobs.flatMap JobV.cells):=by have:=h.j.own;rwa [h.jl] at this
 have ap:∀ {T:List TypeId},39 ∉ T→Apart W (fun q=>(Value.slice s.AJ s.jobs.length s.cJ).ownBlock=some q) T:=fun ht=>Apart.row hjo ht
 exact ⟨⟨o,g⟩,rfl,⟨Ao h.t.own hx (fun q hq e=>h.sep q (by rw [CQ (n':=s.jobs.length) (c':=s.cJ)];exact e) hq),fun y hy=>(h.t.grp y hy).keep hx (ap (by decide))⟩,h.tl,Ah h.n hx (ap (by decide)),h.nl,Ah h.a hx (ap (by decide)),h.al,
  Ah h.e hx (ap (by decide)),h.el,Ah h.d hx (ap (by decide)),h.dl,Ah h.x hx (ap (by decide)),h.xl,h.xa,fun q hq1 hq2=>by
   rcases hq q hq1 with e|e
   ·exact h.sep q (by rw [CQ (n':=s.jobs.length) (c':=s.cJ)];exact e) hq2
   have:=Ew h.t.own hq2;omega⟩
theorem Az.pT {base:Nat} {W W' : World} {s:Aa} (h:Az base W s) (hx:Ext (fun q=>(Value.slice s.AS s.stable.length s.cS).ownBlock=some q) W W') {A:Option Addr} {c:Nat} {l:List JobV} (o:W'.ownsRow base 39 7 (.slice A l.length c) l.length (l.flatMap JobV.cells))
  (hq:∀ q,(Value.slice A l.length c).ownBlock=some q→(Value.slice s.AS s.stable.length s.cS).ownBlock=some q ∨ W.heap.size≤q) (g:∀ y∈l,CO base W' y):Az base W' (s.Nq A c l):=by
 have hjo:W.ownsRow base 39 7 (.slice s.AS s.stable.length s.cS) s.stable.length (s.stable.flatMap JobV.cells):=by have:=h.t.own;rwa [h.tl] at this
 have ap:∀ {T:List TypeId},39 ∉ T→Apart W (fun q=>(Value.slice s.AS s.stable.length s.cS).ownBlock=some q) T:=fun ht=>Apart.row hjo ht
 exact ⟨⟨Ao h.j.own hx (fun q hq e=>h.sep q hq (by rw [CQ (n':=s.stable.length) (c':=s.cS)];exact e)),fun y hy=>(h.j.grp y hy).keep hx (ap (by decide))⟩,h.jl,⟨o,g⟩,rfl,Ah h.n hx (ap (by decide)),h.nl,Ah h.a hx (ap (by decide)),h.al,
  Ah h.e hx (ap (by decide)),h.el,Ah h.d hx (ap (by decide)),h.dl,Ah h.x hx (ap (by decide)),h.xl,h.xa,fun q hq1 hq2=>by
   rcases hq q hq2 with e|e
   ·exact h.sep q hq1 (by rw [CQ (n':=s.stable.length) (c':=s.cS)];exact e)
   have:=Ew h.j.own hq1;omega⟩
theorem FJ {P:Program} {w:World} (base:Nat) (t ty e:TypeId) (i:TypeInfo) (z:Value) (size bytes:Nat) (ht:P.underlying t=some (.slice e)) (hi:P.info? e=some i) (hz:i.zero=some z)
  (hsize:i.size=size) (hby:i.bytes=bytes) (hzs:z.cells.size=size) (hsz:0 < size)
  (v:Value) (n:Nat) (xs:List Value) (hown:w.ownsRow base e size v n xs)
  (a:Addr) (m c:Nat) (news:List Value) (hl:news.length=m*size) (hnews:∀ j u,news[j]? = some u→w.cell? (a.add j)=some u) (h1:∀ u∈news,u.oneCell' = true)
  (h63:n+m≤maxLen) (hbytes:(n+m)*bytes≤140737488355328) {v' : Value} {w' : World} (hr:(Builtin.append_ #[t,t] ty #[v,.slice (some a) m c]).run P w=.ok v' w'):∀ q,v'.ownBlock=some q→v.ownBlock=some q ∨ w.heap.size≤q:=by
 subst hsize
 subst hby
 intro q hq
 have hsmall:n+m≤9223372036854775807:=by simp only [maxLen] at h63;omega
 rcases hown.2 with ⟨rfl,rfl⟩|⟨g,cap,cur,rfl,hbg,hg,hnc,hcm,hcs,htake⟩
 ·have hx:xs=[]:=List.eq_nil_of_length_eq_zero (by simpa using hown.1)
  subst hx
  obtain ⟨v2,w2,hr2,ho2,_,_⟩:=run_append_own (P:=P) w w.heap.size t ty e i z i.size i.bytes ht hi hz rfl rfl hzs hsz (.slice none 0 0) 0 [] (World.ownsRow_nil w w.heap.size e i.size) a m c news hl hnews h1 h63 hbytes (Nat.le_refl _)
  rw [hr] at hr2
  injection hr2 with e1 e2
  subst e1
  exact .inr (Cj ho2 hq)
 by_cases hroom:n+m≤cap
 ·have hfit:n*i.size+news.length≤cur.size:=by rw [hl,hcs,← Nat.add_mul];exact Nat.mul_le_mul_right _ hroom
  have hr2:=run_append_room (P:=P) w t ty e i ht hi g n cap cur hg a m c news hl hnews h1 hroom hfit
  rw [hr] at hr2
  injection hr2 with e1 e2
  subst e1
  exact .inl hq
 have holds:∀ j u,xs[j]? = some u→w.cell? ((⟨g,0,none⟩ : Addr).add j)=some u:=hown.cells (g:=g) rfl
 have hr2:=run_append_grow (P:=P) w t ty e i z ht hi hz ⟨g,0,none⟩ n cap xs hown.1 holds a m c news hl hnews (by omega) (by omega) (growslice_fits (by omega) hbytes)
 rw [hr] at hr2
 injection hr2 with e1 e2
 subst e1
 simp [Value.ownBlock] at hq
 exact .inr (by omega)
section
variable {P:Program} {w:World} {ops:Array Oper} {rest:List Oper} {o o1 o2:Oper} {a:Act} {Q:Exit→Act→World→Prop}
theorem LW (hgd:o.guard=none) (s x:Operand) (t:TypeId) (ho:o.op=.call { callee:=.builtin .append,args:=#[s,x],argTypes:=#[t,t] })
  (base:Nat) {e sz:Nat} (E:Bz P t e sz) (v:Value) (n:Nat) (xs:List Value) (hs:a.eval s=v) (hown:w.ownsRow base e sz v n xs)
  (g c:Nat) (cs:Array Value) (hx:a.eval x=.slice (some ⟨g,0,none⟩) 1 c) (hg:Blk w g e cs) (hcs:cs.size=sz) (h1:cs.toList.all Value.oneCell' = true)
  (hn:n < 67108864) (hbase:base≤w.heap.size)
  (h:∀ A' c' w',w'.ownsRow base e sz (.slice A' (n+1) c') (n+1) (xs ++ cs.toList)→w.grownBy w' v.ownBlock→(∀ q,(Value.slice A' (n+1) c').ownBlock=some q→v.ownBlock=some q ∨ w.heap.size≤q)→wpList P ops Q rest (a.put o.dst (.slice A' (n+1) c')) w'):wpList P ops Q (o :: rest) a w:=by
 obtain ⟨ht,i,z,hi,hz,hzs,hsz,h0,hle,hby⟩:=E
 have hnews:∀ j u,cs.toList[j]? = some u→w.cell? ((⟨g,0,none⟩ : Addr).add j)=some u:=fun j u hu=>by
  have hadd:(⟨g,0,none⟩ : Addr).add j=⟨g,j,none⟩:=by unfold Addr.add;split <;> simp_all
  rw [hadd,hg.cell];simpa using hu
 have hone:∀ u∈cs.toList,u.oneCell' = true:=fun u hu=>List.all_eq_true.1 h1 u hu
 have hb:(n+1)*i.bytes≤140737488355328:=by have:=Nat.mul_le_mul (show n+1≤67108864 by omega) hby;omega
 have h63:n+1≤maxLen:=by unfold maxLen;omega
 obtain ⟨v',w',hr,h2,h3,h4⟩:=run_append_own (P:=P) w base t o.type e i z sz i.bytes ht hi hz hsz rfl hzs h0 v n xs hown ⟨g,0,none⟩ 1 c cs.toList (by simpa using hcs) hnews hone h63 hb hbase
 have hq:=FJ base t o.type e i z sz i.bytes ht hi hz hsz rfl hzs h0 v n xs hown ⟨g,0,none⟩ 1 c cs.toList (by simpa using hcs) hnews hone h63 hb hr
 obtain ⟨A',c',rfl⟩:=Bt h2
 refine wpList_plain hgd fun K hK=>?_
 unfold Oper.wp execOp
 simp only [ho,resolve,invoke,builtin,Sem.run_bind,Sem.run_pure,Result.andThen_ok,List.map_toArray,List.map_cons,List.map_nil,hs,hx,hr]
 exact hK _ _ (h A' c' w' h2 h3 hq)
theorem CK (hg1:o1.guard=none) (hg2:o2.guard=none) (t:TypeId) (x:Operand) (ho1:o1.op=.buildSlice t 1 #[(0,x)]) (s y:Operand) (ho2:o2.op=.call { callee:=.builtin .append,args:=#[s,y],argTypes:=#[t,t] })
  {e sz:Nat} (E:Bz P t e sz) (cs:Array Value) (hx:(a.eval x).cells=cs) (hv:cs.size=sz) (base:Nat) (v:Value) (n:Nat) (xs:List Value)
  (hs:(a.put o1.dst (.slice (some ⟨w.heap.size,0,none⟩) 1 1)).eval s=v) (hy:(a.put o1.dst (.slice (some ⟨w.heap.size,0,none⟩) 1 1)).eval y=.slice (some ⟨w.heap.size,0,none⟩) 1 1)
  (hown:w.ownsRow base e sz v n xs) (h1:cs.toList.all Value.oneCell' = true) (hn:n < 67108864) (hbase:base≤w.heap.size)
  (h:∀ A' c' w',w'.ownsRow base e sz (.slice A' (n+1) c') (n+1) (xs ++ cs.toList)→Ext (fun q=>v.ownBlock=some q) w w'→(∀ q,(Value.slice A' (n+1) c').ownBlock=some q→v.ownBlock=some q ∨ w.heap.size≤q)→wpList P ops Q rest ((a.put o1.dst (.slice (some ⟨w.heap.size,0,none⟩) 1 1)).put o2.dst (.slice A' (n+1) c')) w') :
  wpList P ops Q (o1 :: o2 :: rest) a w:=by
 have hx0:Ext Nothing w (w.alloc (.cells cs e)):=(Ext.refl _ _).alloc _
 refine Bc hg1 t x ho1 E cs hx hv ?_
 refine LW hg2 s y t ho2 base E v n xs hs (Ao hown hx0 (fun _ _ e=>e)) w.heap.size 1 cs hy (Blk.new _ _ _) hv h1 hn (by have:=hx0.size;omega) ?_
 intro A' c' w' o g hq
 exact h A' c' w' o (((Ext.refl (fun q=>v.ownBlock=some q) w).alloc _).grown g (fun q e=>.inr e)) (fun q e=>(hq q e).imp id (fun h=>by have:=hx0.size;omega))
end
end
section
open Go.RowKit
theorem Dm (y:EvalD) (w:World):Calls Tryz.prog 95 #[.agg #[.int .i64 y.job,.int .i64 y.prio,.int .i64 y.state,.int .i64 y.index]] w fun e w'=>e=.returned (.int .i64 y.job)∧Ext Nothing w w':=by
 have hx:Ext Nothing w (w.alloc (.cells #[.int .i64 y.job,.int .i64 y.prio,.int .i64 y.state,.int .i64 y.index] 68)):=Ext.Al
 have hb:Blk (w.alloc (.cells #[.int .i64 y.job,.int .i64 y.prio,.int .i64 y.state,.int .i64 y.index] 68)) w.heap.size 68 #[.int .i64 y.job,.int .i64 y.prio,.int .i64 y.state,.int .i64 y.index]:=Blk.new _ _ _
 go_enter Tryz.func95,Tryz.ntmps95
 go_wp2
 go_ret
 exact ⟨rfl,hx⟩
set_option maxRecDepth 20000 in
set_option maxHeartbeats 4000000 in
theorem QW (base:Nat) (A:Option Addr) (c:Nat) (l:List EvalD) (x:EvalD) (w:World) (h:w.ownsRow base 68 4 (.slice A l.length c) l.length (l.flatMap EvalD.cells)) (hb:base≤w.heap.size) (hl:l.length≤67108862) (hu:Fsm.Up EvalD.job l) :
  Calls Tryz.prog 94 #[.slice A l.length c,.agg #[.int .i64 x.job,.int .i64 x.prio,.int .i64 x.state,.int .i64 x.index],.func (.func 95) #[] #[]] w fun e w'=>∃ A' c',e=.returned (.slice A' (Fsm.Aj EvalD.job x l).length c')∧w'.ownsRow base 68 4 (.slice A' (Fsm.Aj EvalD.job x l).length c') (Fsm.Aj EvalD.job x l).length ((Fsm.Aj EvalD.job x l).flatMap EvalD.cells)∧(∀ q,(Value.slice A' (Fsm.Aj EvalD.job x l).length c').ownBlock=some q→(Value.slice A l.length c).ownBlock=some q ∨ w.heap.size≤q)∧Ext (fun q=>(Value.slice A l.length c).ownBlock=some q) w w':=by
 have hx0:Ext Nothing w (w.alloc (.cells #[.int .i64 x.job,.int .i64 x.prio,.int .i64 x.state,.int .i64 x.index] 68)):=Ext.Al
 have hB0:Blk (w.alloc (.cells #[.int .i64 x.job,.int .i64 x.prio,.int .i64 x.state,.int .i64 x.index] 68)) w.heap.size 68 #[.int .i64 x.job,.int .i64 x.prio,.int .i64 x.state,.int .i64 x.index]:=Blk.new _ _ _
 go_enter Tryz.func94,Tryz.ntmps94
 go_wp2
 go_loopw [11] (fun i wr=>∃ k:Nat,k≤l.length∧i=.int .i64 k∧(∀ j < k,∀ z,l[j]? = some z→EvalD.job z < x.job)∧Ext Nothing w wr∧Blk wr w.heap.size 68 #[.int .i64 x.job,.int .i64 x.prio,.int .i64 x.state,.int .i64 x.index]) (fun i _=>l.length - (intOf i).toNat)
 case atStart=>exact ⟨0,Nat.zero_le _,rfl,fun j hj=>absurd hj (by omega),hx0,hB0⟩
 case round =>
  obtain ⟨k,hk,rfl,hno,hxr,hB⟩:=hrel
  clear hB0 hx0
  by_cases hlt:k < l.length
  ·obtain ⟨g,cur,hAe,hbg,hg,hcs,hcap,hmax,htk,hset⟩:=Ei (i:=k) (f:=EvalD.cells) (fun _=>rfl) h hlt
   obtain ⟨hjn,b,off,hAe2,hce⟩:=(Sl.Be (f:=EvalD.cells) (fun _=>rfl) h rfl).get hxr hlt
   rw [hAe] at hAe2
   injection hAe2 with hAe2
   injection hAe2 with hAe3 hAe4
   subst hAe3 hAe4 hAe
   simp only [Nat.zero_add] at hce
   have hgw:g < w.heap.size:=hg.lt
   have hgr:=hg.e0 hxr
   have hne:w.heap.size ≠ g:=by omega
   have hy:l[k]? = some l[k]:=List.getElem?_eq_getElem hjn
   generalize l[k]=y at hce hy
   have hk0:(0:Int)≤(k:Int):=by omega
   have hk1:(k:Int) < l.length:=by omega
   have HY:=Lib.hid hy
   have HN:=Lib.hid hno
   have HS:=Lib.hid hset
   have HT:=Lib.hid htk
   have HC:=Lib.hid hcs
   have HU:=Lib.hid hu
   have H:=Lib.hid h
   clear hy hno hset htk hcs hu h
   rcases Int.lt_trichotomy y.job x.job with hc|hc|hc
   ·have q1:(y.job == x.job)=false:=by simp;omega
    have q2:¬ (y.job > x.job):=by omega
    have q3:¬ (y.job=x.job):=by omega
    go_wp2_with (first|go_skip|go_guarded|((with_reducible refine isW ?_);refine Af rfl 68 _ rfl DW g (k*4) rfl #[.int .i64 y.job,.int .i64 y.prio,.int .i64 y.state,.int .i64 y.index] hce rfl ?_)|((with_reducible refine isW ?_);refine Ad rfl 68 _ rfl DW w.heap.size rfl #[.int .i64 x.job,.int .i64 x.prio,.int .i64 x.state,.int .i64 x.index] (show Blk _ _ _ _ from by first|exact hB2|exact hB1|exact hB) rfl ?_)|(go_at_call 95;(with_reducible refine (Dm y wr).mono ?_);rintro e w1 ⟨rfl,hx1⟩;have hB1:=hB.e0 hx1)|(go_at_call 95;(with_reducible refine (Dm x w1).mono ?_);rintro e w2 ⟨rfl,hx2⟩;have hB2:=hB1.e0 hx2)|(go_at_call 95;(with_reducible refine (Dm x w2).mono ?_);rintro e w3 ⟨rfl,hx3⟩;have hB3:=hB2.e0 hx3))
    go_roundw
    case rel =>
     refine ⟨k+1,hlt,by go_num,fun j hj z hz=>?_,((hxr.tr hx1).tr hx2).tr hx3,hB3⟩
     rcases Nat.lt_or_ge j k with h1|h1
     ·exact HN.out j h1 z hz
     obtain rfl:j=k:=by omega
     rw [HY.out] at hz;cases hz;exact hc
    case measure=>simp [intOf];omega
   ·have q1:(y.job == x.job)=true:=by simpa using hc
    have HCC:=Lib.hid hc
    clear hc
    have h0s:k*4+4≤cur.size:=by rw [HC.out];have:=Nat.mul_le_mul_right 4 (show k+1≤c by omega);omega
    go_wp2_with (first|go_skip|go_guarded|((with_reducible refine isW ?_);refine Af rfl 68 _ rfl DW g (k*4) rfl #[.int .i64 y.job,.int .i64 y.prio,.int .i64 y.state,.int .i64 y.index] hce rfl ?_)|((with_reducible refine isW ?_);refine Ad rfl 68 _ rfl DW w.heap.size rfl #[.int .i64 x.job,.int .i64 x.prio,.int .i64 x.state,.int .i64 x.index] (show Blk _ _ _ _ from by first|exact hB2|exact hB1|exact hB) rfl ?_)|(go_at_call 95;(with_reducible refine (Dm y wr).mono ?_);rintro e w1 ⟨rfl,hx1⟩;have hB1:=hB.e0 hx1)|(go_at_call 95;(with_reducible refine (Dm x w1).mono ?_);rintro e w2 ⟨rfl,hx2⟩;have hB2:=hB1.e0 hx2)|((with_reducible refine isW ?_);refine wpList_store_row rfl 68 _ _ rfl DW g (k*4) rfl #[.int .i64 x.job,.int .i64 x.prio,.int .i64 x.state,.int .i64 x.index] rfl (show Blk _ _ _ _ from (hgr.e0 hx1).e0 hx2) h0s rfl rfl ?_;intro w9 hB9 hx9))
    go_ret
    have e9:=Fsm.Ff HU.out HY.out HN.out HCC.out
    exact ⟨some ⟨g,0,none⟩,c,by rw [e9,List.length_set];rfl,by rw [e9,List.length_set];exact HS.out x w9 hB9,fun q hq=>.inl hq,((hxr.tr hx1).tr hx2).any.trans hx9 (fun b hb e=>by rw [show b=g from e];rfl)⟩
   have q1:(y.job == x.job)=false:=by simp;omega
   have q2:y.job > x.job:=by omega
   have q3:¬ (y.job=x.job):=by omega
   have e9:=Lib.hid (Fsm.DF HU.out HY.out HN.out hc)
   have e8:(l.take k ++ x :: l.drop k).length=l.length+1:=by simp;omega
   have E8:=Lib.hid e8
   clear e8
   by_cases hroom:l.length+1≤c
   ·go_wp2_with (first|go_skip|go_guarded|((with_reducible refine isW ?_);refine Af rfl 68 _ rfl DW g (k*4) rfl #[.int .i64 y.job,.int .i64 y.prio,.int .i64 y.state,.int .i64 y.index] hce rfl ?_)|((with_reducible refine isW ?_);refine Ad rfl 68 _ rfl DW w.heap.size rfl #[.int .i64 x.job,.int .i64 x.prio,.int .i64 x.state,.int .i64 x.index] (show Blk _ _ _ _ from by first|exact hB3|exact hB2|exact hB1|exact hB) rfl ?_)|(go_at_call 95;(with_reducible refine (Dm y wr).mono ?_);rintro e w1 ⟨rfl,hx1⟩;have hB1:=hB.e0 hx1)|(go_at_call 95;(with_reducible refine (Dm x w1).mono ?_);rintro e w2 ⟨rfl,hx2⟩;have hB2:=hB1.e0 hx2)|(go_at_call 95;(with_reducible refine (Dm x w2).mono ?_);rintro e w3 ⟨rfl,hx3⟩;have hB3:=hB2.e0 hx3)|((with_reducible refine isW ?_);refine Bc rfl 26 _ rfl Fb #[.int .i64 x.job,.int .i64 x.prio,.int .i64 x.state,.int .i64 x.index] rfl rfl ?_)|(go_at_call 118;(refine (L6 base g c k w3.heap.size l x cur (w3.alloc (.cells #[.int .i64 x.job,.int .i64 x.prio,.int .i64 x.state,.int .i64 x.index] 68)) (((hgr.e0 hx1).e0 hx2).e0 (hx3.tr Ext.Al)) HC.out HT.out hlt (Blk.new _ _ _) (by have:=hx1.size;have:=hx2.size;have:=hx3.size;have:=hxr.size;omega) hroom hmax hl).mono ?_);rintro e w9 ⟨rfl,hcc,hx9⟩))
    go_ret
    obtain ⟨cs9,hb9,hs9,ht9⟩:=hcc
    have hxA:Ext Nothing w (w3.alloc (.cells #[.int .i64 x.job,.int .i64 x.prio,.int .i64 x.state,.int .i64 x.index] 68)):=(((hxr.tr hx1).tr hx2).tr hx3).alloc _
    refine ⟨some ⟨g,0,none⟩,c,by rw [e9.out,E8.out];rfl,?_,fun q hq=>.inl hq,hxA.any.trans hx9 (fun b hb e=>by rw [show b=g from e];rfl)⟩
    rw [e9.out,E8.out]
    refine ⟨?_,.inr ⟨g,c,cs9,rfl,hbg,hb9,hroom,hmax,hs9,ht9⟩⟩
    rw [← ht9,List.length_take,Array.length_toList (xs:=cs9),hs9]
    exact Nat.min_eq_left (Nat.mul_le_mul_right _ hroom)
   go_wp2_with (first|go_skip|go_guarded|((with_reducible refine isW ?_);refine Af rfl 68 _ rfl DW g (k*4) rfl #[.int .i64 y.job,.int .i64 y.prio,.int .i64 y.state,.int .i64 y.index] hce rfl ?_)|((with_reducible refine isW ?_);refine Ad rfl 68 _ rfl DW w.heap.size rfl #[.int .i64 x.job,.int .i64 x.prio,.int .i64 x.state,.int .i64 x.index] (show Blk _ _ _ _ from by first|exact hB3|exact hB2|exact hB1|exact hB) rfl ?_)|(go_at_call 95;(with_reducible refine (Dm y wr).mono ?_);rintro e w1 ⟨rfl,hx1⟩;have hB1:=hB.e0 hx1)|(go_at_call 95;(with_reducible refine (Dm x w1).mono ?_);rintro e w2 ⟨rfl,hx2⟩;have hB2:=hB1.e0 hx2)|(go_at_call 95;(with_reducible refine (Dm x w2).mono ?_);rintro e w3 ⟨rfl,hx3⟩;have hB3:=hB2.e0 hx3)|((with_reducible refine isW ?_);refine Bc rfl 26 _ rfl Fb #[.int .i64 x.job,.int .i64 x.prio,.int .i64 x.state,.int .i64 x.index] rfl rfl ?_)|(go_at_call 118;(refine (MJ g c k w3.heap.size l x cur (w3.alloc (.cells #[.int .i64 x.job,.int .i64 x.prio,.int .i64 x.state,.int .i64 x.index] 68)) (((hgr.e0 hx1).e0 hx2).e0 (hx3.tr Ext.Al)) HC.out HT.out hlt (Blk.new _ _ _) hcap (by omega) (by omega)).mono ?_);rintro e w9 ⟨G,hG1,hG2,rfl,hcc,hx9⟩))
   go_ret
   obtain ⟨cs9,hb9,hs9,ht9⟩:=hcc
   have hxA:Ext Nothing w (w3.alloc (.cells #[.int .i64 x.job,.int .i64 x.prio,.int .i64 x.state,.int .i64 x.index] 68)):=(((hxr.tr hx1).tr hx2).tr hx3).alloc _
   have hz9:(w3.alloc (.cells #[.int .i64 x.job,.int .i64 x.prio,.int .i64 x.state,.int .i64 x.index] 68)).heap.size=w3.heap.size+1:=by simp
   have hzA:=hxA.size
   rw [hz9] at hb9 hzA
   refine ⟨some ⟨_,0,none⟩,G,by rw [e9.out,E8.out];rfl,?_,fun q hq=>.inr (by simp [Value.ownBlock] at hq;omega),(hxA.tr hx9).any⟩
   rw [e9.out,E8.out]
   refine ⟨?_,.inr ⟨_,G,cs9,rfl,by omega,hb9,hG1,hG2,hs9,ht9⟩⟩
   rw [← ht9,List.length_take,Array.length_toList (xs:=cs9),hs9]
   exact Nat.min_eq_left (Nat.mul_le_mul_right _ hG1)
  have hkl:k=l.length:=by omega
  have e9:=Lib.hid (Fsm.Fq (key:=EvalD.job) (x:=x) (l:=l) (fun z hz=>by obtain ⟨j,hj⟩:=List.mem_iff_getElem?.1 hz;exact hno j (by have:=(List.getElem?_eq_some_iff.1 hj).1;omega) z hj))
  have hnl:¬ ((k:Int) < l.length):=by omega
  have ho:=Ao h hxr (fun _ _ e=>e)
  clear hno hkl
  go_wp2_with (first|go_skip|go_guarded|((with_reducible refine isW ?_);refine Ad rfl 68 _ rfl DW w.heap.size rfl #[.int .i64 x.job,.int .i64 x.prio,.int .i64 x.state,.int .i64 x.index] (show Blk _ _ _ _ from hB) rfl ?_)|((with_reducible refine J7 ?_);refine CK rfl rfl 26 _ rfl _ _ rfl Fb #[.int .i64 x.job,.int .i64 x.prio,.int .i64 x.state,.int .i64 x.index] rfl rfl base (.slice A l.length c) l.length (l.flatMap EvalD.cells) rfl rfl ho rfl (by omega) (by have:=hxr.size;omega) ?_;intro A2 c2 w9 o9 hx9 hq9))
  go_ret
  have o8:=CS (x:=x) o9 rfl rfl
  exact ⟨A2,c2,by rw [e9.out,List.length_append];rfl,by rw [e9.out];exact o8,fun q hq=>(hq9 q (by cases A2 <;> exact hq)).imp id (fun h=>by have:=hxr.size;omega),hxr.any.tr hx9⟩
end
section
open Go.RowKit
theorem Gt {α β:Type} {p:β→Bool} {f:α→β} {l:List α} (h:l.find? (fun x=>p (f x))=none):(l.map f).find? p=none:=by
 rw [List.find?_map];simp only [Function.comp_def];rw [h];rfl
theorem J5 {α β:Type} {p:β→Bool} {f:α→β} {l:List α} {x:α} (h:l.find? (fun x=>p (f x))=some x):(l.map f).find? p=some (f x):=by
 rw [List.find?_map];simp only [Function.comp_def];rw [h];rfl
theorem Cn {s:Aa} (h:s.nE=s.evals.length):s.Bh s.AE s.cE s.evals=s:=by unfold Aa.Bh;rw [← h]
theorem AF.at {base b:Nat} {W:World} {s:Aa} {cm:Bool} (h:AF base W b s cm):∀ (j:Nat) (u:Value),s.arr.toList[j]? = some u→W.cell? ⟨b,0+j,none⟩=some u:=fun j u hu=>by
 rw [Nat.zero_add,h.blk.cell]
 match j,hu with
 | 0,hu=>exact hu
 | 1,hu=>exact hu
 | 2,hu=>exact hu
 | 3,hu=>exact hu
 | 4,hu=>exact hu
 | 5,hu=>exact hu
 | 6,hu=>exact hu
 | 7,hu=>exact hu
 | 8,hu=>exact hu
 | (n+9),hu=>simp at hu
set_option maxRecDepth 20000 in
set_option maxHeartbeats 4000000 in
theorem EE (base b:Nat) (s:Aa) (cm:Bool) (k:Int) (w:World) (hM:AF base w b s cm) (hb:base≤w.heap.size) (hJ:s.jobs.length≤67108864) (hE:s.evals.length≤67108862) (hu:Fsm.Up EvalD.job s.evals) :
  Calls Tryz.prog 64 #[.pointer (some ⟨b,0,none⟩),.int .i64 k] w fun e w'=>∃ A c l,e=.returned (.tuple #[])∧AF base w' b (s.Bh A c l) cm∧(s.Bh A c l).data=Fsm.eval s.data k∧Step w w' b s (s.Bh A c l):=by
 have hsJ:=hM.own.slJ
 have hnl:=Lib.hid hM.own.jl
 have hel:=Lib.hid hM.own.el
 have hnJ:s.nJ≤67108864:=by have:=hM.own.jl;omega
 rcases AC (fun y:JobV=>y.1.id == k) s.jobs with ⟨hi,hf,hno⟩|⟨i,x,hi,hxi,hp,hf,_⟩
 ·have HI:=Lib.hid hi
  have HF:=Lib.hid (show Fsm.eval s.data k=s.data by unfold Fsm.eval Fsm.AB;rw [show s.data.jobs.find? (fun j=>j.id == k)=none from Gt hf])
  clear hi hf hno
  go_enter Tryz.func64,Tryz.ntmps64
  go_wp2_with (first|go_skip|go_guarded|((with_reducible refine isW ?_);refine Af rfl 30 _ rfl STStore b 0 rfl s.arr (hM.at) rfl ?_)|(go_at_call 61;(with_reducible refine (Bv s.AJ s.nJ s.cJ s.jobs k w hsJ hnJ _ _ _ _ _ _ _ _ _ rfl).mono ?_);rintro e w1 ⟨rfl,hx1⟩;(rw [HI.out])))
  go_end0
  exact ⟨s.AE,s.cE,s.evals,rfl,by rw [Cn hel.out];exact hM.e0 hx1,by rw [Cn hel.out];exact HF.out.symm,by rw [Cn hel.out];exact Step.of0 hx1⟩
 have HI:=Lib.hid hi
 have HF:=Lib.hid (show Fsm.eval s.data k={ s.data with evals:=Fsm.Aj EvalD.job ⟨k,x.1.prio,1,s.index⟩ s.evals } by unfold Fsm.eval Fsm.AB;rw [show s.data.jobs.find? (fun j=>j.id == k)=some x.1 from J5 hf];rfl)
 obtain ⟨hi1,hi2⟩:=List.getElem?_eq_some_iff.1 hxi
 obtain ⟨_,g,off,hAe,hce⟩:=hsJ.get (Ext.refl Nothing w) (k:=i) (by have:=hnl.out;omega)
 rw [hi2] at hce
 have hk0:(0:Int)≤(i:Int):=by omega
 have hk1:(i:Int) < s.nJ:=by have:=hnl.out;omega
 have hng:¬ ((i:Int) < 0):=by omega
 have j2:w.cell? ⟨g,off+i*7+2,none⟩=some (.int .i64 x.1.prio):=hce 2 _ rfl
 have HA:=Lib.hid hAe
 clear hi hf hxi hi2 hAe hp hce
 go_enter Tryz.func64,Tryz.ntmps64
 go_upto_region 2 with (first|go_skip|go_guarded|((with_reducible refine isW ?_);refine Af rfl 30 _ rfl STStore b 0 rfl s.arr (hM.at) rfl ?_)|(go_at_call 61;(with_reducible refine (Bv s.AJ s.nJ s.cJ s.jobs k w hsJ hnJ _ _ _ _ _ _ _ _ _ rfl).mono ?_);rintro e w1 ⟨rfl,hx1⟩;(rw [HI.out])))
 have hM1:=hM.e0 hx1
 have m6:w1.cell? ⟨b,6,none⟩=some (.slice s.AE s.nE s.cE):=hM1.blk.cell 6
 have m9:w1.cell? ⟨b,9,none⟩=some (.int .i64 s.index):=hM1.blk.cell 9
 have m2:w1.cell? ⟨b,2,none⟩=some (.slice (some ⟨g,off,none⟩) s.nJ s.cJ):=by rw [← HA.out];exact hM1.blk.cell 2
 have j2:=hx1.c0 j2
 have hoe:=hM1.own.e
 rw [hel.out] at hoe
 have hbw:=hx1.size
 have hd:Ext Nothing w1 w1.drew:=(Ext.refl _ _).drew
 refine zS (S:=fun W'=>Ext (fun q=>q=b ∨ (Value.slice s.AE s.evals.length s.cE).ownBlock=some q) w1 W'∧W'.cell? ⟨b,2,none⟩=some (.slice (some ⟨g,off,none⟩) s.nJ s.cJ)∧W'.cell? ⟨b,9,none⟩=some (.int .i64 s.index)∧W'.cell? ⟨g,off+i*7+2,none⟩=some (.int .i64 x.1.prio)) (by kernel_rfl) ?_
 have hS:=And.intro (hd.any (S:=fun q=>q=b ∨ (Value.slice s.AE s.evals.length s.cE).ownBlock=some q)) (And.intro (hd.c0 m2) (And.intro (hd.c0 m9) (hd.c0 j2)))
 generalize w1.drew=W at hd hS ⊢
 refine zV 0 (.pointer (some ⟨b,0,none⟩)) rfl (by kernel_rfl) hS (fun _ _ _ h=>h) (fun W' hS'=>by go_simp) ?_
 refine zV 1 (.pointer (some ⟨b,0,none⟩)) rfl (by kernel_rfl) hS (fun _ _ _ h=>h) (fun W' hS'=>by go_simp) ?_
 refine zV 2 (.pointer (some ⟨b,0,none⟩)) rfl (by kernel_rfl) hS (fun _ _ _ h=>h) (fun W' hS'=>by go_simp) ?_
 refine zV 3 (.pointer (some ⟨b,0,none⟩)) rfl (by kernel_rfl) hS (fun _ _ _ h=>h) (fun W' hS'=>by go_simp) ?_
 refine zV 4 (.pointer (some ⟨b,6,none⟩)) rfl (by kernel_rfl) hS (fun _ _ _ h=>h) (fun W' hS'=>by go_simp) ?_
 refine zV 6 (.int .i64 k) rfl (by kernel_rfl) hS (fun _ _ _ h=>h) (fun W' hS'=>by go_simp) ?_
 refine zV 7 (.pointer (some ⟨b,0,none⟩)) rfl (by kernel_rfl) hS (fun _ _ _ h=>h) (fun W' hS'=>by go_simp) ?_
 refine zV 8 (.pointer (some ⟨b,0,none⟩)) rfl (by kernel_rfl) hS (fun _ _ _ h=>h) (fun W' hS'=>by go_simp) ?_
 refine zV 9 (.pointer (some ⟨b,0,none⟩)) rfl (by kernel_rfl) hS (fun _ _ _ h=>h) (fun W' hS'=>by go_simp) ?_
 refine zV 10 (.pointer (some ⟨b,2,none⟩)) rfl (by kernel_rfl) hS (fun _ _ _ h=>h) (fun W' hS'=>by go_simp) ?_
 refine zV 11 (.slice (some ⟨g,off,none⟩) s.nJ s.cJ) rfl (by kernel_rfl) hS (fun _ _ _ h=>h) (fun W' hS'=>by have q2:=hS'.2.1;go_simp) ?_
 refine zV 12 (.int .i64 (i:Int)) rfl (by kernel_rfl) hS (fun _ _ _ h=>h) (fun W' hS'=>by go_simp) ?_
 refine zV 13 (.pointer (some ⟨g,off+i*7,none⟩)) rfl (by kernel_rfl) hS (fun _ _ _ h=>h) (fun W' hS'=>by go_simp) ?_
 refine zV 14 (.pointer (some ⟨g,off+i*7+2,none⟩)) rfl (by kernel_rfl) hS (fun _ _ _ h=>h) (fun W' hS'=>by go_simp) ?_
 refine zV 15 (.int .i64 x.1.prio) rfl (by kernel_rfl) hS (fun _ _ _ h=>h) (fun W' hS'=>by have q2:=hS'.2.2.2;go_simp) ?_
 refine zV 16 (.pointer (some ⟨b,0,none⟩)) rfl (by kernel_rfl) hS (fun _ _ _ h=>h) (fun W' hS'=>by go_simp) ?_
 refine zV 17 (.pointer (some ⟨b,0,none⟩)) rfl (by kernel_rfl) hS (fun _ _ _ h=>h) (fun W' hS'=>by go_simp) ?_
 refine zV 18 (.pointer (some ⟨b,9,none⟩)) rfl (by kernel_rfl) hS (fun _ _ _ h=>h) (fun W' hS'=>by go_simp) ?_
 refine zV 19 (.int .i64 s.index) rfl (by kernel_rfl) hS (fun _ _ _ h=>h) (fun W' hS'=>by have q2:=hS'.2.2.1;go_simp) ?_
 refine zV 20 (.agg #[.int .i64 k,.int .i64 x.1.prio,.int .i64 1,.int .i64 s.index]) rfl (by kernel_rfl) hS (fun _ _ _ h=>h) (fun W' hS'=>by go_simp) ?_
 (try simp only [Act.put,zA,zB,zC,zD,zE,zF])
 refine zO 5 (by kernel_rfl) ?_
 have hMW:=hM1.e0 hd
 obtain ⟨csj,hBj⟩:=Dq hMW.own.j.own (show (Value.slice s.AJ s.nJ s.cJ).ownBlock=some g by rw [HA.out];rfl)
 have hgb:¬ (g=b):=Blk.ne hBj hMW.blk (by decide)
 have hoW:=Ao hoe hd (fun _ _ e=>e)
 have q6:W.cell? ⟨b,6,none⟩=some (.slice s.AE s.nE s.cE):=hMW.blk.cell 6
 have hdw:=hd.size
 refine wpOp_val (v:=.slice s.AE s.evals.length s.cE) (w':=W) rfl (by rfl) (by rw [← hel.out];go_simp) ⟨hS,?_⟩
 (try simp only [Act.put,zA,zB,zC,zD,zE,zF])
 refine zO 21 (by kernel_rfl) ?_
 refine Ai (f:=94) (args:=#[.slice s.AE s.evals.length s.cE,.agg #[.int .i64 k,.int .i64 x.1.prio,.int .i64 1,.int .i64 s.index],.func (.func 95) #[] #[]]) rfl (by rfl) (by go_simp) ((QW base s.AE s.cE s.evals ⟨k,x.1.prio,1,s.index⟩ W hoW (by omega) hE hu).mono ?_)
 rintro e w3 ⟨A',c',rfl,ho3,hq3,hx3⟩
 have hng2:¬ ((Value.slice s.AE s.evals.length s.cE).ownBlock=some g):=fun e=>own_ne hoW hBj (by decide) e
 have hnb:¬ ((Value.slice s.AE s.evals.length s.cE).ownBlock=some b):=fun e=>own_ne hoW hMW.blk (by decide) e
 have hS3:=And.intro (hS.1.trans hx3 (fun q hq e=>.inr e)) (And.intro (hx3.cell hS.2.1 hnb) (And.intro (hx3.cell hS.2.2.1 hnb) (hx3.cell hS.2.2.2 hng2)))
 refine ⟨_,rfl,hS3,?_⟩
 (try simp only [Act.put,zA,zB,zC,zD,zE,zF])
 refine zV 22 (.pointer (some ⟨b,0,none⟩)) rfl (by kernel_rfl) hS3 (fun _ _ _ h=>h) (fun W' hS'=>by go_simp) ?_
 refine zV 23 (.pointer (some ⟨b,0,none⟩)) rfl (by kernel_rfl) hS3 (fun _ _ _ h=>h) (fun W' hS'=>by go_simp) ?_
 refine zV 24 (.pointer (some ⟨b,6,none⟩)) rfl (by kernel_rfl) hS3 (fun _ _ _ h=>h) (fun W' hS'=>by go_simp) ?_
 (try simp only [Act.put,zA,zB,zC,zD,zE,zF])
 refine zO 25 (by kernel_rfl) ?_
 have hB3:=hMW.blk.ext hx3 hnb
 have m6:w3.cell? ⟨b,6,none⟩=some (.slice s.AE s.nE s.cE):=hB3.cell 6
 have m6f:w3.frozen? ⟨b,6,none⟩=false:=hB3.frozen 6
 have hs6:Ext (fun q=>q=b) w3 (w3.setCell ⟨b,6,none⟩ (.slice A' (Fsm.Aj EvalD.job ⟨k,x.1.prio,1,s.index⟩ s.evals).length c')):=Ext.set1 _ _ _ _
 refine AU (w':=w3.setCell ⟨b,6,none⟩ (.slice A' (Fsm.Aj EvalD.job ⟨k,x.1.prio,1,s.index⟩ s.evals).length c')) rfl (by rfl) (by go_simp) ⟨And.intro (hS3.1.trans hs6 (fun q hq e=>.inl e)) (And.intro (cell_set_ne hS3.2.1 (by decide) hB3) (And.intro (cell_set_ne hS3.2.2.1 (by decide) hB3) (hs6.cell hS3.2.2.2 hgb))),?_⟩
 (try simp only [Act.put,zA,zB,zC,zD,zE,zF])
 refine wpAnyH_done (by kernel_rfl) ?_ _
 (try simp only [Act.put,zA,zB,zC,zD,zE,zF])
 go_wp2
 go_end0
 have hO3:Az base w3 (s.Bh A' c' (Fsm.Aj EvalD.job ⟨k,x.1.prio,1,s.index⟩ s.evals)):=hMW.own.wE hx3 (Apart.row hoW (by decide)) ho3
 exact ⟨A',c',_,rfl,⟨hB3.Bg 6 _,hO3.keep hs6 (Apart.one hB3 (by decide)),hM.lo⟩,HF.out.symm,((Step.of0 (hx1.tr hd)).put hx3 (fun q hq=>MW.oE hq) (MW.Bh hq3)).cell (.inl rfl) (fun q hq=>hq) _⟩
end
section
open Go.RowKit
def IA (s t:Aa):Prop:=∃ A n c l,t=({ s with AE:=A,nE:=n,cE:=c,evals:=l }:Aa)
theorem IA.refl (s:Aa):IA s s:=⟨s.AE,s.nE,s.cE,s.evals,rfl⟩
theorem IA.trans {s t u:Aa} (h:IA s t) (k:IA t u):IA s u:=by
 obtain ⟨A,n,c,l,rfl⟩:=h
 obtain ⟨A',n',c',l',rfl⟩:=k
 exact ⟨A',n',c',l',rfl⟩
theorem IA.set (s:Aa) (A:Option Addr) (c:Nat) (l:List EvalD):IA s (s.Bh A c l):=⟨A,l.length,c,l,rfl⟩
theorem BQ {s:Aa} {job:Int} {x:JobV} (hf:s.jobs.find? (fun x:JobV=>x.1.id == job)=some x):Fsm.AB s.data job=some x.1:=by
 show (s.jobs.map (·.1)).find? (fun j=>j.id == job)=_
 rw [List.find?_map]
 show Option.map (·.1) (s.jobs.find? (fun x:JobV=>x.1.id == job))=_
 rw [hf];rfl
theorem Ce {s:Aa} {job:Int} (hf:s.jobs.find? (fun x:JobV=>x.1.id == job)=none):Fsm.AB s.data job=none:=by
 show (s.jobs.map (·.1)).find? (fun j=>j.id == job)=_
 rw [List.find?_map]
 show Option.map (·.1) (s.jobs.find? (fun x:JobV=>x.1.id == job))=_
 rw [hf];rfl
end
section
open Go.RowKit
theorem EU {α:Type} {f:α→List Value} {w:World} {base e sz n g c:Nat} {xs:List α} (hf:∀ x,(f x).length=sz) (h:w.ownsRow base e sz (.slice (some ⟨g,0,none⟩) n c) n (xs.flatMap f)) (hn:n=xs.length) {i:Nat} {x:α} (hi:xs[i]? = some x) {j:Nat} {u:Value} (hj:(f x)[j]? = some u):w.cell? ⟨g,i*sz+j,none⟩=some u:=by
 obtain ⟨b,off,hA,_,hc⟩:=(Sl.Be hf h hn).2 i (f x) (by simp [hi])
 injection hA with hA
 injection hA with h1 h2
 subst h1;subst h2
 have:=hc j u hj
 rwa [Nat.zero_add] at this
theorem Qh {ix:Int} {e:EvalD} (h:(e.state == 2 || e.state == 1)=false):Fsm.Br ix e=e:=by unfold Fsm.Br;rw [h];rfl
theorem Nu {ix:Int} {e:EvalD} (h:(e.state == 2 || e.state == 1)=true):Fsm.Br ix e={ e with state:=1,index:=ix }:=by unfold Fsm.Br;rw [h];rfl
end
section
open Go.RowKit
theorem Az.inN {base:Nat} {W W' : World} {s:Aa} {l:List NodD} (h:Az base W s) (hx:Ext (fun q=>(vN s).ownBlock=some q) W W') (o:W'.ownsRow base 43 8 (.slice s.AN s.nN s.cN) s.nN (l.flatMap NodD.cells)) (hn:s.nN=l.length):Az base W' { s with nodes:=l }:=by
 have hS:Apart W (fun q=>(vN s).ownBlock=some q) [39,66,55,68,74,89]:=Apart.row h.n (by decide)
 exact ⟨h.j.keep hx (hS.less (by decide)),h.jl,h.t.keep hx (hS.less (by decide)),h.tl,(show W'.ownsRow base _ _ (.slice s.AN s.nN s.cN) l.length _ from hn ▸ o),hn,Ah h.a hx (hS.less (by decide)),h.al,Ah h.e hx (hS.less (by decide)),h.el,Ah h.d hx (hS.less (by decide)),h.dl,Ah h.x hx (hS.less (by decide)),h.xl,h.xa,h.sep⟩
theorem Az.Ha {base:Nat} {W:World} {s:Aa} (h:Az base W s) {i:Nat} {x:NodD} (hi:s.nodes[i]? = some x):∃ g cur,s.AN=some ⟨g,0,none⟩∧(vN s).ownBlock=some g∧Blk W g 43 cur∧(i:Int) < s.nN ∧
  (∀ j u,(NodD.cells x)[j]? = some u→W.cell? ⟨g,i*8+j,none⟩=some u) ∧
  (∀ j u x',j < 8→NodD.cells x' = (NodD.cells x).set j u→Az base (W.setCell ⟨g,i*8+j,none⟩ u) { s with nodes:=s.nodes.set i x' }):=by
 have hlt:=(List.getElem?_eq_some_iff.1 hi).1
 have ho:W.ownsRow base 43 8 (.slice s.AN s.nN s.cN) s.nN (s.nodes.flatMap NodD.cells):=by have:=h.n;rwa [← h.nl] at this
 obtain ⟨g,cur,hA,hob,hg⟩:=H6 ho h.nl hlt
 have ho2:=ho
 rw [hA] at ho2
 refine ⟨g,cur,hA,hob,hg,by have:=h.nl;omega,fun j u hu=>EU (f:=NodD.cells) (sz:=8) (fun _=>rfl) ho2 h.nl hi hu,fun j u x' hj hx'=>?_⟩
 exact h.inN ((Ext.set1 W g (i*8+j) u).mono (fun b _ e=>by rw [show b=g from e];exact hob)) (F4 (f:=NodD.cells) (sz:=8) (x':=x') (fun _=>rfl) ho h.nl hi hj hx' hA) (by rw [List.length_set];exact h.nl)
theorem Az.inA {base:Nat} {W W' : World} {s:Aa} {l:List Ac} (h:Az base W s) (hx:Ext (fun q=>(vA s).ownBlock=some q) W W') (o:W'.ownsRow base 55 11 (.slice s.AA s.nA s.cA) s.nA (l.flatMap Ac.cells)) (hn:s.nA=l.length):Az base W' { s with allocs:=l }:=by
 have hS:Apart W (fun q=>(vA s).ownBlock=some q) [39,66,43,68,74,89]:=Apart.row h.a (by decide)
 exact ⟨h.j.keep hx (hS.less (by decide)),h.jl,h.t.keep hx (hS.less (by decide)),h.tl,Ah h.n hx (hS.less (by decide)),h.nl,(show W'.ownsRow base _ _ (.slice s.AA s.nA s.cA) l.length _ from hn ▸ o),hn,Ah h.e hx (hS.less (by decide)),h.el,Ah h.d hx (hS.less (by decide)),h.dl,Ah h.x hx (hS.less (by decide)),h.xl,h.xa,h.sep⟩
theorem Az.MG {base:Nat} {W:World} {s:Aa} (h:Az base W s) {i:Nat} {x:Ac} (hi:s.allocs[i]? = some x):∃ g cur,s.AA=some ⟨g,0,none⟩∧(vA s).ownBlock=some g∧Blk W g 55 cur∧(i:Int) < s.nA ∧
  (∀ j u,(Ac.cells x)[j]? = some u→W.cell? ⟨g,i*11+j,none⟩=some u) ∧
  (∀ j u x',j < 11→Ac.cells x' = (Ac.cells x).set j u→Az base (W.setCell ⟨g,i*11+j,none⟩ u) { s with allocs:=s.allocs.set i x' }):=by
 have hlt:=(List.getElem?_eq_some_iff.1 hi).1
 have ho:W.ownsRow base 55 11 (.slice s.AA s.nA s.cA) s.nA (s.allocs.flatMap Ac.cells):=by have:=h.a;rwa [← h.al] at this
 obtain ⟨g,cur,hA,hob,hg⟩:=H6 ho h.al hlt
 have ho2:=ho
 rw [hA] at ho2
 refine ⟨g,cur,hA,hob,hg,by have:=h.al;omega,fun j u hu=>EU (f:=Ac.cells) (sz:=11) (fun _=>rfl) ho2 h.al hi hu,fun j u x' hj hx'=>?_⟩
 exact h.inA ((Ext.set1 W g (i*11+j) u).mono (fun b _ e=>by rw [show b=g from e];exact hob)) (F4 (f:=Ac.cells) (sz:=11) (x':=x') (fun _=>rfl) ho h.al hi hj hx' hA) (by rw [List.length_set];exact h.al)
theorem Az.inE {base:Nat} {W W' : World} {s:Aa} {l:List EvalD} (h:Az base W s) (hx:Ext (fun q=>(vE s).ownBlock=some q) W W') (o:W'.ownsRow base 68 4 (.slice s.AE s.nE s.cE) s.nE (l.flatMap EvalD.cells)) (hn:s.nE=l.length):Az base W' { s with evals:=l }:=by
 have hS:Apart W (fun q=>(vE s).ownBlock=some q) [39,66,43,55,74,89]:=Apart.row h.e (by decide)
 exact ⟨h.j.keep hx (hS.less (by decide)),h.jl,h.t.keep hx (hS.less (by decide)),h.tl,Ah h.n hx (hS.less (by decide)),h.nl,Ah h.a hx (hS.less (by decide)),h.al,(show W'.ownsRow base _ _ (.slice s.AE s.nE s.cE) l.length _ from hn ▸ o),hn,Ah h.d hx (hS.less (by decide)),h.dl,Ah h.x hx (hS.less (by decide)),h.xl,h.xa,h.sep⟩
theorem Az.JX {base:Nat} {W:World} {s:Aa} (h:Az base W s) {i:Nat} {x:EvalD} (hi:s.evals[i]? = some x):∃ g cur,s.AE=some ⟨g,0,none⟩∧(vE s).ownBlock=some g∧Blk W g 68 cur∧(i:Int) < s.nE ∧
  (∀ j u,(EvalD.cells x)[j]? = some u→W.cell? ⟨g,i*4+j,none⟩=some u) ∧
  (∀ j u x',j < 4→EvalD.cells x' = (EvalD.cells x).set j u→Az base (W.setCell ⟨g,i*4+j,none⟩ u) { s with evals:=s.evals.set i x' }):=by
 have hlt:=(List.getElem?_eq_some_iff.1 hi).1
 have ho:W.ownsRow base 68 4 (.slice s.AE s.nE s.cE) s.nE (s.evals.flatMap EvalD.cells):=by have:=h.e;rwa [← h.el] at this
 obtain ⟨g,cur,hA,hob,hg⟩:=H6 ho h.el hlt
 have ho2:=ho
 rw [hA] at ho2
 refine ⟨g,cur,hA,hob,hg,by have:=h.el;omega,fun j u hu=>EU (f:=EvalD.cells) (sz:=4) (fun _=>rfl) ho2 h.el hi hu,fun j u x' hj hx'=>?_⟩
 exact h.inE ((Ext.set1 W g (i*4+j) u).mono (fun b _ e=>by rw [show b=g from e];exact hob)) (F4 (f:=EvalD.cells) (sz:=4) (x':=x') (fun _=>rfl) ho h.el hi hj hx' hA) (by rw [List.length_set];exact h.el)
theorem Az.inD {base:Nat} {W W' : World} {s:Aa} {l:List DepD} (h:Az base W s) (hx:Ext (fun q=>(vD s).ownBlock=some q) W W') (o:W'.ownsRow base 74 4 (.slice s.AD s.nD s.cD) s.nD (l.flatMap DepD.cells)) (hn:s.nD=l.length):Az base W' { s with deploys:=l }:=by
 have hS:Apart W (fun q=>(vD s).ownBlock=some q) [39,66,43,55,68,89]:=Apart.row h.d (by decide)
 exact ⟨h.j.keep hx (hS.less (by decide)),h.jl,h.t.keep hx (hS.less (by decide)),h.tl,Ah h.n hx (hS.less (by decide)),h.nl,Ah h.a hx (hS.less (by decide)),h.al,Ah h.e hx (hS.less (by decide)),h.el,(show W'.ownsRow base _ _ (.slice s.AD s.nD s.cD) l.length _ from hn ▸ o),hn,Ah h.x hx (hS.less (by decide)),h.xl,h.xa,h.sep⟩
theorem Az.Ke {base:Nat} {W:World} {s:Aa} (h:Az base W s) {i:Nat} {x:DepD} (hi:s.deploys[i]? = some x):∃ g cur,s.AD=some ⟨g,0,none⟩∧(vD s).ownBlock=some g∧Blk W g 74 cur∧(i:Int) < s.nD ∧
  (∀ j u,(DepD.cells x)[j]? = some u→W.cell? ⟨g,i*4+j,none⟩=some u) ∧
  (∀ j u x',j < 4→DepD.cells x' = (DepD.cells x).set j u→Az base (W.setCell ⟨g,i*4+j,none⟩ u) { s with deploys:=s.deploys.set i x' }):=by
 have hlt:=(List.getElem?_eq_some_iff.1 hi).1
 have ho:W.ownsRow base 74 4 (.slice s.AD s.nD s.cD) s.nD (s.deploys.flatMap DepD.cells):=by have:=h.d;rwa [← h.dl] at this
 obtain ⟨g,cur,hA,hob,hg⟩:=H6 ho h.dl hlt
 have ho2:=ho
 rw [hA] at ho2
 refine ⟨g,cur,hA,hob,hg,by have:=h.dl;omega,fun j u hu=>EU (f:=DepD.cells) (sz:=4) (fun _=>rfl) ho2 h.dl hi hu,fun j u x' hj hx'=>?_⟩
 exact h.inD ((Ext.set1 W g (i*4+j) u).mono (fun b _ e=>by rw [show b=g from e];exact hob)) (F4 (f:=DepD.cells) (sz:=4) (x':=x') (fun _=>rfl) ho h.dl hi hj hx' hA) (by rw [List.length_set];exact h.dl)
theorem Az.inJ {base:Nat} {W W' : World} {s:Aa} {l:List JobV} (h:Az base W s) (hx:Ext (fun q=>(vJ s).ownBlock=some q) W W') (o:W'.ownsRow base 39 7 (.slice s.AJ s.nJ s.cJ) s.nJ (l.flatMap JobV.cells)) (hn:s.nJ=l.length) (hg:∀ y∈l,∃ z∈s.jobs,y.2=z.2∧y.1.groups=z.1.groups):Az base W' { s with jobs:=l }:=by
 have hjo:=h.j.own
 have hS:Apart W (fun q=>(vJ s).ownBlock=some q) [66,43,55,68,74,89]:=Apart.row hjo (by decide)
 refine ⟨⟨(show W'.ownsRow base _ _ (.slice s.AJ s.nJ s.cJ) l.length _ from hn ▸ o),fun y hy=>?_⟩,hn,⟨Ao h.t.own hx (fun g hg e=>h.sep g e hg),fun y hy=>(h.t.grp y hy).keep hx (hS.less (by decide))⟩,h.tl,Ah h.n hx (hS.less (by decide)),h.nl,Ah h.a hx (hS.less (by decide)),h.al,Ah h.e hx (hS.less (by decide)),h.el,Ah h.d hx (hS.less (by decide)),h.dl,Ah h.x hx (hS.less (by decide)),h.xl,h.xa,h.sep⟩
 obtain ⟨z,hz,e1,e2⟩:=hg y hy
 obtain ⟨A,n,c,g1,g2,g3,g4⟩:=(h.j.grp z hz).keep hx (hS.less (by decide))
 exact ⟨A,n,c,e1.trans g1,by rw [e2];exact g2,by rw [e2];exact g3,g4⟩
theorem Az.MZ {base:Nat} {W:World} {s:Aa} (h:Az base W s) {i:Nat} {x:JobV} (hi:s.jobs[i]? = some x):∃ g cur,s.AJ=some ⟨g,0,none⟩∧(vJ s).ownBlock=some g∧Blk W g 39 cur∧(i:Int) < s.nJ ∧
  (∀ j u,(JobV.cells x)[j]? = some u→W.cell? ⟨g,i*7+j,none⟩=some u) ∧
  (∀ j u (x' : JobV),j < 7→JobV.cells x' = (JobV.cells x).set j u→x'.2=x.2→x'.1.groups=x.1.groups→Az base (W.setCell ⟨g,i*7+j,none⟩ u) { s with jobs:=s.jobs.set i x' }):=by
 have hlt:=(List.getElem?_eq_some_iff.1 hi).1
 have ho:W.ownsRow base 39 7 (.slice s.AJ s.nJ s.cJ) s.nJ (s.jobs.flatMap JobV.cells):=by have:=h.j.own;rwa [← h.jl] at this
 obtain ⟨g,cur,hA,hob,hg⟩:=H6 ho h.jl hlt
 have ho2:=ho
 rw [hA] at ho2
 refine ⟨g,cur,hA,hob,hg,by have:=h.jl;omega,fun j u hu=>EU (f:=JobV.cells) (sz:=7) (fun _=>rfl) ho2 h.jl hi hu,fun j u x' hj hx' e1 e2=>?_⟩
 refine h.inJ ((Ext.set1 W g (i*7+j) u).mono (fun b _ e=>by rw [show b=g from e];exact hob)) (F4 (f:=JobV.cells) (sz:=7) (x':=x') (fun _=>rfl) ho h.jl hi hj hx' hA) (by rw [List.length_set];exact h.jl) (fun y hy=>?_)
 rcases List.mem_or_eq_of_mem_set hy with hy|rfl
 ·exact ⟨y,hy,rfl,rfl⟩
 exact ⟨x,List.mem_of_getElem? hi,e1,e2⟩
theorem Jq (x:JobV):∀ l:List JobV,(Fsm.Aj (fun x:JobV=>x.1.id) x l).map (·.1)=Fsm.Aj Ak.id x.1 (l.map (·.1))
 | []=>rfl
 | y :: r=>by
  simp only [Fsm.Aj,List.map_cons]
  by_cases h:x.1.id≤y.1.id
  ·rw [if_pos h,if_pos h,List.map_cons]
   congr 1
   rw [← List.map_cons,List.filter_map]
   rfl
  rw [if_neg h,if_neg h,List.map_cons,Jq x r]
theorem CO.slice {base:Nat} {W:World} {y:JobV} (h:CO base W y):∃ A n c,y.2=Value.slice A n c:=by obtain ⟨A,n,c,e,_⟩:=h;exact ⟨A,n,c,e⟩
theorem CO.sl {base:Nat} {W:World} {y:JobV} (h:CO base W y):∃ A n c,y.2=Value.slice A n c∧Sl W 3 A n (y.1.groups.map Aq.cells)∧n=y.1.groups.length∧n≤1048576:=by
 obtain ⟨A,n,c,e,o,hn,hb⟩:=h
 exact ⟨A,n,c,e,Sl.Be (f:=Aq.cells) (sz:=3) (fun _=>rfl) o hn,hn,hb⟩
theorem CO.new {base b:Nat} {W:World} {j:Ak} {A:Option Addr} {n c:Nat} (o:W.ownsRow b 66 3 (.slice A n c) n (j.groups.flatMap Aq.cells)) (hn:n=j.groups.length) (hb:n≤1048576) (h:base≤b):CO base W (j,.slice A n c):=⟨A,n,c,rfl,BB o h,hn,hb⟩
end
section
open Go.RowKit
def Rm (p:Aq × Nat):List (Int × Int):=(List.range (GL p.1)).map (fun i:Nat=>((p.2:Int),(i:Int)))
def Et (gs:List Aq) (g:Nat):List (Int × Int):=(gs.zipIdx.take g).flatMap Rm
def Ev (g k:Nat):List (Int × Int):=(List.range k).map (fun i:Nat=>((g:Int),(i:Int)))
def GZ (l:List Ac) (j:Ak) (xs:List (Int × Int)):Nat:=(xs.filter (Fsm.Lt l j)).length
theorem Hd (l:List Ac) (j:Ak) (xs ys:List (Int × Int)):GZ l j (xs ++ ys)=GZ l j xs+GZ l j ys:=by simp [GZ]
theorem NQ (l:List Ac) (j:Ak) (xs:List (Int × Int)):GZ l j xs≤xs.length:=List.length_filter_le _ _
theorem Oz (j:Ak) {g:Nat} (h:j.groups.length≤g):Et j.groups g=Fsm.Ef j:=by
 unfold Et
 rw [List.take_of_length_le (by simpa using h)];rfl
theorem Jp (gs:List Aq) {g:Nat} (h:g < gs.length):Et gs (g+1)=Et gs g ++ Ev g (GL gs[g]):=by
 unfold Et
 rw [List.take_add_one,List.getElem?_eq_getElem (by simpa using h),List.flatMap_append]
 simp [Rm,Ev]
theorem MC (g k:Nat):Ev g (k+1)=Ev g k ++ [((g:Int),(k:Int))]:=by simp [Ev,List.range_succ]
theorem GK (g k:Nat):(Ev g k).length=k:=by simp [Ev]
theorem P6 (g:Aq):GL g≤4:=by unfold GL;omega
theorem K3 (gs:List Aq):∀ g,g≤gs.length→(Et gs g).length≤4*g
 | 0,_=>by simp [Et]
 | g+1,h=>by
  rw [Jp gs (by omega),List.length_append,GK]
  have:=K3 gs g (by omega)
  have:=P6 (gs[g]'(by omega))
  omega
def DV (s:Ab) (job:Int):Nat × Nat:=match Fsm.AB s job with
 | none=>(0,0)
 | some j=>if j.ty == 3 then (0,0) else ((Fsm.Ef j).length,GZ s.allocs j (Fsm.Ef j))
theorem filter_all {α:Type} (p:α→Bool):∀ l:List α,(l.length == (l.filter p).length)=l.all p
 | []=>rfl
 | x :: r=>by
  rw [List.filter_cons,List.all_cons]
  cases hp:p x with
  | true=>simp only [if_true,List.length_cons,Bool.true_and,← filter_all p r];simp
  | false =>
   simp only [Bool.false_eq_true,if_false,List.length_cons,Bool.false_and]
   have:=List.length_filter_le p r
   simp only [beq_eq_false_iff_ne,ne_eq]
   omega
theorem Ny {s:Ab} {job:Int} {j:Ak} (h:Fsm.AB s job=some j):((DV s job).1 == (DV s job).2)=Fsm.FV s j:=by
 unfold DV Fsm.FV
 rw [h]
 simp only []
 cases h3:(j.ty == 3) with
 | true=>simp
 | false=>simp only [Bool.false_eq_true,if_false,Bool.false_or];exact filter_all _ _
theorem O0 {l:List Ac} {j:Ak} {x:Int × Int} (h:l.find? (Co j.id x.1 x.2)=none):Fsm.Lt l j x=false:=by unfold Fsm.Lt;rw [h]
theorem OW {l:List Ac} {j:Ak} {x:Int × Int} {a:Ac} (h:l.find? (Co j.id x.1 x.2)=some a):Fsm.Lt l j x=(a.ver == j.ver && a.state == 2 && !a.stop):=by unfold Fsm.Lt;rw [h]
theorem JU (l:List Ac) (j:Ak) (x:Int × Int) {b:Bool} (h:Fsm.Lt l j x=b):GZ l j [x]=if b then 1 else 0:=by
 unfold GZ
 rw [List.filter_cons,h]
 cases b <;> rfl
end
section
open Go.RowKit
theorem NG (d:Ab) (t:Nat):(List.range (t+1)).foldl Fsm.AQ d=Fsm.AQ ((List.range t).foldl Fsm.AQ d) t:=by
 rw [List.range_succ,List.foldl_append];rfl
theorem KR {s:Ab} {i:Nat} {d:DepD} (h:s.deploys[i]? = some d) (hj:Fsm.AB s d.job=none):Fsm.AQ s i=s:=by unfold Fsm.AQ;rw [h];simp only [];rw [hj]
theorem Lm {s:Ab} {i:Nat} {d:DepD} {j:Ak} (h:s.deploys[i]? = some d) (hj:Fsm.AB s d.job=some j) (hc:(d.state == 1 && j.ver == d.ver && Fsm.FV s j)=false):Fsm.AQ s i=s:=by
 unfold Fsm.AQ;rw [h];simp only [];rw [hj];simp only [];rw [if_neg (by rw [hc];exact Bool.false_ne_true)]
theorem PM {s:Ab} {i:Nat} {d:DepD} {j:Ak} (h:s.deploys[i]? = some d) (hj:Fsm.AB s d.job=some j) (hc:(d.state == 1 && j.ver == d.ver && Fsm.FV s j)=true):Fsm.AQ s i={ s with deploys:=s.deploys.set i { d with state:=2 },stable:=Fsm.Aj Ak.id j s.stable }:=by
 unfold Fsm.AQ;rw [h];simp only [];rw [hj];simp only [];rw [if_pos hc]
end
end Go.Proofs.YtccekmeifanipaaGreat
