/- Parts of the proof: FsmEv FsmRv FsmRvL -/
import Derived.Test.YtccekmeifanipaaGreatR10
import Derived.Test.YtccekmeifanipaaGreatR36
import Derived.Test.YtccekmeifanipaaGreatR14
namespace Go.Proofs.YtccekmeifanipaaGreat
set_option linter.unusedVariables false
set_option linter.unusedSimpArgs false
set_option linter.unusedSectionVars false
section
open Go.RowKit
namespace Fsm
def FZ (s t:Ab):Prop:=∀ b∈t.allocs,(∃ a∈s.allocs,a.id=b.id∧overB b=overB a) ∨ overB b=false
theorem FZ.trans {s t u:Ab} (h:FZ s t) (k:FZ t u):FZ s u:=fun b hb=>by
 rcases k b hb with ⟨a,ha,e1,e2⟩|h1
 ·rcases h a ha with ⟨x,hx,e3,e4⟩|h2
  ·exact .inl ⟨x,hx,e3.trans e1,e2.trans e4⟩
  exact .inr (e2.trans h2)
 exact .inr h1
theorem FZ.refl (s:Ab):FZ s s:=fun b hb=>.inl ⟨b,hb,rfl,rfl⟩
end Fsm
end
section
open Go.RowKit
namespace Fsm
def Fz (k:Nat) (s:Ab):Prop:=(∀ j∈s.jobs,j.ver≤(k:Int))
theorem Fz.same {k:Nat} {s t:Ab} (h:Fz k s) (e:t.jobs=s.jobs):Fz (k+1) t:=fun j hj=>by
 rw [e] at hj;have:=h j hj;omega
theorem Fz.put {k:Nat} {s t:Ab} (h:Fz k s) {j:Ak} (e:t.jobs=Aj Ak.id j s.jobs) (hj:j.ver≤(k:Int)+1):Fz (k+1) t:=fun i hi=>by
 rw [e] at hi
 exact DR (P:=fun j:Ak=>j.ver≤((k+1:Nat):Int)) (fun y hy=>by have:=h y hy;omega) (by omega) i hi
theorem KS {a:Int} (h:0≤a) (hb:a≤1099511627776):wrap64 (a+1)=a+1:=by unfold wrap64;omega
theorem Lh {k n:Nat} {s:Ab} (hv:Dc n s) (h:Fz k s) (c:Bi):Fz (k+1) (command s c).1:=by
 have h0:Fz (k+1) s:=h.same rfl
 unfold command
 repeat' split
 ·exact h0
 ·unfold BK
  split
  ·exact h0
  split
  ·rename_i j hj
   split
   ·exact h0
   have h1:=hv.jv j (FD hj)
   have h2:=h j (FD hj)
   exact h.put (Cx _ _) (by show wrap64 (j.ver+1)≤_;rw [KS (by omega) h1.2];omega)
  split
  ·exact h0
  exact h.put (Cx _ _) (by show (1:Int)≤_;omega)
 ·unfold cancel
  split
  ·exact h0
  intro j hj
  have e:(eval { s with jobs:=turn1 (fun j=>j.id == c.job.id) (fun j=>{ j with stopped:=true }) s.jobs,deploys:=turn1 (fun d=>d.job == c.job.id) (fun d=>if d.state == 1 then { d with state:=3 } else d) s.deploys } c.job.id).jobs=turn1 (fun j=>j.id == c.job.id) (fun j=>{ j with stopped:=true }) s.jobs:=Cz _ _
  rw [e] at hj
  exact F8 (P:=fun j:Ak=>j.ver≤((k+1:Nat):Int)) (f:=fun j=>{ j with stopped:=true }) (fun y hy=>hy) (fun y hy=>by have:=h y hy;omega) j hj
 ·unfold register
  split
  ·exact h0
  split
  ·exact h.same (Hr _ _)
  split
  ·exact h0
  split
  ·split <;> exact h0
  exact h.same (Hr _ _)
 ·unfold Dv
  split
  ·exact h0
  split
  ·exact h0
  split
  ·exact h0
  split
  ·exact h0
  simp only
  have h1:(looked (c.reports.foldl (report c.node) ({ s with nodes:=turn1 (fun n=>n.id == c.node.id) (fun n=>{ n with seq:=c.node.seq }) s.nodes },false)).1).jobs=s.jobs:=(Ic _).trans (Gu c.node c.reports ({ s with nodes:=turn1 (fun n=>n.id == c.node.id) (fun n=>{ n with seq:=c.node.seq }) s.nodes },false))
  split
  ·exact h.same h1
  exact h.same h1
 ·unfold down
  split
  ·exact h0
  split
  ·exact h0
  split
  ·exact h0
  exact h.same ((EN _).trans (K7 _ _))
 ·unfold drain
  split
  ·exact h0
  simp only
  have h1:(system (s.allocs.foldl (fun t a=>if a.node == c.node.id && !overB a then eval t a.job else t) { s with nodes:=turn1 (fun n=>n.id == c.node.id) (fun n=>{ n with drain:=c.node.drain }) s.nodes })).jobs=s.jobs :=
   (EN _).trans (Hq (f:=fun t (a:Ac)=>if a.node == c.node.id && !overB a then eval t a.job else t) (fun t a=>by split;exact Cz t a.job;rfl) s.allocs _)
  split
  ·exact h.same h1
  exact h.same h1
 ·exact h.same (Gb s c).1
 ·unfold revert
  split
  ·exact h0
  rename_i j hj
  split
  ·exact h0
  split
  ·exact h0
  simp only
  split
  ·exact h.same (Cz _ _)
  split
  ·exact h.same (Cz _ _)
  split
  ·exact h0
  have h1:=hv.jv j (FD hj)
  have h2:=h j (FD hj)
  exact h.put (Cx _ _) (by show wrap64 (j.ver+1)≤_;rw [KS (by omega) h1.2];omega)
 exact h0
theorem NE {k n:Nat} {s:Ab} (hv:Dc n s) (h:Fz k s) (ix:Int) (c:Bi):Fz (k+1) (apply s ix c).1:=by
 have hv1:Dc n ({ s with index:=ix }:Ab):=⟨hv.jn,hv.jv,hv.nn,hv.ne⟩
 have h1:Fz (k+1) (command { s with index:=ix } c).1:=Lh hv1 (s:={ s with index:=ix }) h c
 have h0:Fz (k+1) ({ s with index:=ix }:Ab):=Fz.same (s:=s) h rfl
 unfold apply
 simp only
 split
 ·exact h1
 split
 ·exact h0
 split
 ·split <;> exact h0
 exact h1
theorem Py:Fz 0 new:=by intro j hj;simp [new] at hj
end Fsm
end
section
open Go.RowKit
namespace Fsm
theorem Kl {α β:Type} {P:β→Prop} {f:β→α→β} (h:∀ s a,P s→P (f s a)):∀ (l:List α) {s:β},P s→P (l.foldl f s)
 | [],_,hs=>hs
 | a :: r,_,hs=>Kl h r (h _ a hs)
def Want (id:Int) (q:Ak) (s:Ab):Prop:=AB s id=some q∧∃ x,BV s id=some x∧({ x with ver:=q.ver,stopped:=false }:Ak)=q
theorem OI {id:Int} {q:Ak} (hq:q.stopped=false) (s:Ab) (i:Nat) (h:Want id q s):Want id q (AQ s i):=by
 obtain ⟨h1,x,h2,h3⟩:=h
 unfold AQ
 split
 ·exact ⟨h1,x,h2,h3⟩
 rename_i d hd
 split
 ·exact ⟨h1,x,h2,h3⟩
 rename_i j hj
 split
 ·refine ⟨h1,?_⟩
  by_cases e:j.id=id
  ·have hjd:j.id=d.job:=by have:=List.find?_some hj;simpa using this
   have hjq:j=q:=by
    rw [← hjd,e] at hj
    rw [hj] at h1
    exact Option.some.inj h1
   subst hjq
   refine ⟨j,?_,by rw [← hq]⟩
   show (Aj Ak.id j s.stable).find? (fun y=>y.id == id)=some j
   rw [← e]
   exact Dx (key:=Ak.id) _
  refine ⟨x,?_,h3⟩
  show (Aj Ak.id j s.stable).find? (fun y=>y.id == id)=some x
  rw [CU (key:=Ak.id) (fun h=>e h.symm)]
  exact h2
 exact ⟨h1,x,h2,h3⟩
theorem OY {id:Int} {q:Ak} {s:Ab} (k:Int) (h:Want id q s):Want id q (eval s k):=by
 unfold eval;split <;> exact h
theorem MQ {id:Int} {q x:Ak} {s:Ab} (hq:q.stopped=false) (hid:q.id=id) (hx:BV s id=some x) (he:({ x with ver:=q.ver,stopped:=false }:Ak)=q):Want id q (begins s q):=by
 unfold begins
 simp only
 refine OY _ ?_
 have h0:AB ({ s with jobs:=Aj Ak.id q s.jobs }:Ab) id=some q:=by
  show (Aj Ak.id q s.jobs).find? (fun y=>y.id == id)=some q
  rw [← hid]
  exact Dx (key:=Ak.id) _
 split
 ·exact Kl (P:=Want id q) (OI hq) _ ⟨h0,x,hx,he⟩
 exact ⟨h0,x,hx,he⟩
structure MR (s:Ab) (ix:Int) (c:Bi) (j:Ak) (t:Ab) (r:AR):Prop where
 code:r.code=0
 at_:∃ q,AB t c.job.id=some q∧r.value=q.ver∧(q.ver ≠ j.ver→∃ x,BV t c.job.id=some x∧({ x with ver:=q.ver,stopped:=false }:Ak)=q)
 again:∀ ix',(apply t ix' c).2.code=33
theorem Fj {s:Ab} {ix:Int} (c:Bi) (h:c.op=10):apply s ix c=revert { s with index:=ix } c:=by simp [apply,command,h]
theorem Nt {s:Ab} (ix:Int) (c:Bi) (hop:c.op=10) {j:Ak} {d:DepD} (hj:AB s c.job.id=some j) (hd:FK s c.job.id=some d) (hv:c.job.ver=d.ver) (hb:1≤j.ver∧j.ver < 1099511627776) :
  ((d.state=1∧j.ver=d.ver)→MR s ix c j (apply s ix c).1 (apply s ix c).2)∧(¬ (d.state=1∧j.ver=d.ver)→(apply s ix c).2.code=33):=by
 have hid:j.id=c.job.id:=by have:=List.find?_some hj;simpa using this
 have hw:wrap64 (j.ver+1)=j.ver+1:=by unfold wrap64;omega
 have hj0:AB { s with index:=ix } c.job.id=some j:=hj
 have hd0:FK { s with index:=ix } j.id=some d:=by rw [hid];exact hd
 rw [Fj c hop]
 refine ⟨fun ⟨h1,h2⟩=>?_,fun hn=>?_⟩
 ·unfold revert
  rw [hj0]
  simp only
  rw [hd0]
  simp only
  rw [if_neg (by simp [h1,h2,hv])]
  have hsame:MR s ix c j (eval { ({ s with index:=ix }:Ab) with deploys:=turn1 (fun d=>d.job == j.id) (fun d=>{ d with state:=3 }) s.deploys } j.id) ⟨0,j.ver,[]⟩:=by
   have hjt:∀ f:Ab,f.jobs=s.jobs→AB (eval f j.id) c.job.id=some j:=fun f hf=>by
    unfold eval
    split
    ·show AB f _=_;unfold AB;rw [hf];exact hj
    show f.jobs.find? _=_;rw [hf];exact hj
   refine ⟨rfl,⟨j,hjt _ rfl,rfl,fun h=>absurd rfl h⟩,fun ix'=>?_⟩
   generalize ht:eval { ({ s with index:=ix }:Ab) with deploys:=turn1 (fun d=>d.job == j.id) (fun d=>{ d with state:=3 }) s.deploys } j.id=t
   have h3:AB t c.job.id=some j:=by rw [← ht];exact hjt _ rfl
   have h4:FK t j.id=some { d with state:=3 }:=by
    rw [← ht]
    have h5:(turn1 (fun d:DepD=>d.job == j.id) (fun d=>{ d with state:=3 }) s.deploys).find? (fun d=>d.job == j.id)=some { d with state:=3 }:=by
     rw [Ee (fun d:DepD=>d.job == j.id) (fun d=>{ d with state:=3 }) (fun _=>rfl)]
     have h6:s.deploys.find? (fun d=>d.job == j.id)=some d:=hd0
     rw [h6];rfl
    unfold eval
    split <;> exact h5
   rw [Fj c hop]
   unfold revert
   rw [show AB { t with index:=ix' } c.job.id=some j from h3]
   simp only
   rw [show FK { t with index:=ix' } j.id=some { d with state:=3 } from h4]
   simp [no]
  split
  ·exact hsame
  rename_i x hx
  split
  ·exact hsame
  rw [if_neg (by unfold BC;omega),hw]
  have hxid:x.id=c.job.id:=by have h9:=List.find?_some hx;rw [← hid];simpa using h9
  have hx' : BV ({ ({ s with index:=ix }:Ab) with deploys:=turn1 (fun d=>d.job == j.id) (fun d=>{ d with state:=3 }) s.deploys }:Ab) c.job.id=some x:=by rw [← hid];exact hx
  obtain ⟨g1,g2⟩:=MQ (q:={ x with ver:=j.ver+1,stopped:=false }) rfl hxid hx' rfl
  refine ⟨rfl,⟨_,g1,rfl,fun _=>g2⟩,fun ix'=>?_⟩
  generalize begins _ _=t at g1
  rw [Fj c hop]
  unfold revert
  rw [show AB { t with index:=ix' } c.job.id=some _ from g1]
  simp only
  split
  ·rfl
  rw [if_pos (by simp;omega)];rfl
 unfold revert
 rw [hj0]
 simp only
 rw [hd0]
 simp only
 rw [if_pos (by
  by_cases e1:d.state=1
  ·by_cases e2:j.ver=d.ver
   ·exact absurd ⟨e1,e2⟩ hn
   simp [hv,e2]
  simp [e1])]
 rfl
theorem OP {l:List Bi} {k:Nat} (hv:∀ t,t≤k→EA t (Dn l t)):∀ t,t≤k→Fz t (Dn l t):=fun t=>by
 induction t with
 | zero=>intro _;exact Py
 | succ t ih =>
  intro ht
  have h1:=ih (by omega)
  have h2:=(hv t (by omega)).v
  unfold Dn
  split
  ·exact NE h2 h1 _ _
  exact fun j hj=>by have:=h1 j hj;omega
end Fsm
end
end Go.Proofs.YtccekmeifanipaaGreat
