/- Parts of the proof: FsmR3 FsmX FsmD FsmWf Mach -/
import Derived.Test.YtccekmeifanipaaGreatR09
namespace Go.Proofs.YtccekmeifanipaaGreat
set_option linter.unusedVariables false
set_option linter.unusedSimpArgs false
set_option linter.unusedSectionVars false
section
open Go.RowKit
namespace Fsm
def SS (s t:Ab):Prop:=t.stable=s.stable∧t.jobs=s.jobs
theorem SS.refl (s:Ab):SS s s:=⟨rfl,rfl⟩
theorem SS.trans {s t u:Ab} (h:SS s t) (k:SS t u):SS s u:=⟨k.1.trans h.1,k.2.trans h.2⟩
theorem Ja {α:Type} {f:Ab→α→Ab} (h:∀ s a,SS s (f s a)):∀ (l:List α) (s:Ab),SS s (l.foldl f s)
 | [],s=>SS.refl s
 | a :: r,s=>(h s a).trans (Ja h r (f s a))
theorem CV (s:Ab) (j:Int):SS s (eval s j):=by unfold eval;split <;> exact ⟨rfl,rfl⟩
theorem NZ (s:Ab):SS s (came s):=⟨rfl,rfl⟩
theorem Ig (s:Ab):SS s (system s):=Ja (fun t j=>by split;exact CV t j.id;exact SS.refl t) s.jobs s
theorem N9 (s:Ab) (node:Int):SS s (lost s node):=Ja (fun t i=>by
 unfold AV
 split
 ·exact SS.refl t
 split
 ·exact ⟨(CV _ _).1,(CV _ _).2⟩
 exact SS.refl t) _ s
theorem Mq (s:Ab) (n:NodD):SS s (joins s n):=by
 unfold joins
 obtain ⟨a,b⟩:=Ig (lost { s with nodes:=Aj NodD.id n s.nodes } n.id)
 obtain ⟨c,d⟩:=N9 { s with nodes:=Aj NodD.id n s.nodes } n.id
 exact ⟨a.trans c,b.trans d⟩
theorem OL (n:NodD) (z:Ab × Bool) (r:Int × Int):SS z.1 (report n z r).1:=by
 unfold report
 split
 ·exact SS.refl _
 split
 ·exact SS.refl _
 simp only
 split
 ·exact ⟨(CV _ _).1,(CV _ _).2⟩
 split
 ·exact ⟨rfl,rfl⟩
 split
 ·exact ⟨rfl,rfl⟩
 rename_i a _ _ _ _ _ _
 exact ⟨(CV { z.1 with allocs:=turn1 (fun a=>a.id == r.1) (fun a=>{ a with state:=r.2 }) z.1.allocs } _).1,(CV { z.1 with allocs:=turn1 (fun a=>a.id == r.1) (fun a=>{ a with state:=r.2 }) z.1.allocs } _).2⟩
theorem Jg (n:NodD):∀ (l:List (Int × Int)) (z:Ab × Bool),SS z.1 (l.foldl (report n) z).1
 | [],z=>SS.refl _
 | r :: l,z=>(OL n z r).trans (Jg n l (report n z r))
theorem placeAll_stable (j:Ak) (n:NodD):∀ (l:List Ac) (s t:Ab),placeAll j n l s=some t→t.stable=s.stable
 | [],s,t,e=>by cases e;rfl
 | x :: r,s,t,e=>by
  unfold placeAll at e
  rw [List.foldl_cons,show AZ j n (some s) x=if ED s j n x then some (placed s j n x) else none from rfl] at e
  split at e
  ·exact placeAll_stable j n r (placed s j n x) t e
  rw [BO] at e;cases e
theorem places_ss (s:Ab) (j:Ak) (node:Int) (l:List Ac):SS s (places s j node l).1:=by
 refine ⟨?_,(GQ s j node l).1⟩
 unfold places
 split
 ·rfl
 split
 ·rfl
 split
 ·rfl
 rename_i t ht
 split
 ·rfl
 exact (placeAll_stable _ _ _ _ t ht:t.stable=s.stable)
theorem QP (s:Ab) (c:Bi):SS s (plan s c).1:=by
 unfold plan
 simp only
 split
 ·rename_i j e _ _
  split
  ·exact SS.refl s
  have h2:∀ (l:List Int) (z:Ab × Bool),SS z.1 (l.foldl (fun z n=>((places z.1 j n c.plan.places).1,z.2 && (places z.1 j n c.plan.places).2)) z).1:=fun l=>by
   induction l with
   | nil=>intro z;exact SS.refl _
   | cons n r ih =>
    intro z
    exact (places_ss z.1 j n _).trans (ih ((places z.1 j n c.plan.places).1,z.2 && (places z.1 j n c.plan.places).2))
  obtain ⟨k1,k2⟩:=h2 (Bw c.plan.places) ({ s with allocs:=stops c.plan.job s.allocs c.plan.stops },true)
  split
  ·exact ⟨k1,k2⟩
  exact ⟨k1,k2⟩
 exact SS.refl s
theorem StT.ss {s t:Ab} (h:StT s) (k:SS s t):StT t:=fun x hx=>by
 rw [k.1] at hx
 rw [AB,k.2]
 exact h x hx
theorem PL {s:Ab} (h:StT s) (i:Nat):StT (AQ s i):=by
 unfold AQ
 split
 ·exact h
 split
 ·exact h
 rename_i j hj
 split
 ·intro x hx
  rcases putL_mem hx with rfl|⟨hx,_⟩
  ·have hid:=(D8 hj).1
   have hq:AB s x.id=some x:=by rw [hid];exact hj
   exact ⟨x,hq,rfl⟩
  exact h x hx
 exact h
theorem Jz {s:Ab} (h:StT s):StT (looked s):=by
 have:∀ (l:List Nat) (s:Ab),StT s→StT (l.foldl AQ s):=fun l=>by
  induction l with
  | nil=>intro s h;exact h
  | cons i r ih=>intro s h;exact ih _ (PL h i)
 exact this _ s h
theorem GG {s:Ab} (h:StT s) (j:Ak) (hj:∀ q,AB s j.id=some q→j.ty=q.ty):StT (begins s j):=by
 have h1:StT { s with jobs:=Aj Ak.id j s.jobs }:=fun x hx=>by
  obtain ⟨q,hq,e⟩:=h x hx
  by_cases hid:x.id=j.id
  ·refine ⟨j,?_,?_⟩
   ·show (Aj Ak.id j s.jobs).find? (fun y=>y.id == x.id)=some j
    rw [hid];exact Dx _
   rw [hid] at hq
   rw [hj q hq];exact e
  refine ⟨q,?_,e⟩
  show (Aj Ak.id j s.jobs).find? (fun y=>y.id == x.id)=some q
  rw [CU hid];exact hq
 unfold begins
 simp only
 refine StT.ss ?_ (CV _ _)
 split
 ·exact Jz (fun x hx=>h1 x hx)
 exact h1
theorem Iu {s:Ab} (h:StT s) (c:Bi):StT (command s c).1:=by
 unfold command
 repeat' split
 ·exact h
 ·unfold BK
  split
  ·exact h
  split
  ·rename_i g hg
   split
   ·exact h
   rename_i hc
   refine GG h _ (fun q hq=>?_)
   have hq' : AB s c.job.id=some q:=hq
   rw [hg] at hq';cases hq'
   cases hqq:(g.ty == c.job.ty) with
   | true=>exact (by simpa using hqq:g.ty=c.job.ty).symm
   | false=>rw [hqq] at hc;simp at hc
  rename_i hg
  split
  ·exact h
  refine GG h _ (fun q hq=>?_)
  have hq' : AB s c.job.id=some q:=hq
  rw [hg] at hq';cases hq'
 ·unfold cancel
  split
  ·exact h
  refine StT.ss (s:={ s with jobs:=turn1 (fun j=>j.id == c.job.id) (fun j=>{ j with stopped:=true }) s.jobs,deploys:=turn1 (fun d=>d.job == c.job.id) (fun d=>if d.state == 1 then { d with state:=3 } else d) s.deploys }) (fun x hx=>?_) (CV _ _)
  obtain ⟨q,hq,e⟩:=h x hx
  show ∃ j,(turn1 (fun j:Ak=>j.id == c.job.id) (fun j=>{ j with stopped:=true }) s.jobs).find? (fun y=>y.id == x.id)=some j∧j.ty=x.ty
  by_cases hid:x.id=c.job.id
  ·refine ⟨{ q with stopped:=true },?_,e⟩
   rw [hid,Ee (fun j:Ak=>j.id == c.job.id) (fun j=>{ j with stopped:=true }) (fun _=>rfl)]
   have hq' : s.jobs.find? (fun j=>j.id == c.job.id)=some q:=by rw [← hid];exact hq
   rw [hq'];rfl
  refine ⟨q,?_,e⟩
  rw [Dy _ _ _ (fun a ha=>?_)]
  ·exact hq
  have ha' : a.id=c.job.id:=by simpa using ha
  exact ⟨by simp [ha',Ne.symm hid],by simp [ha',Ne.symm hid]⟩
 ·unfold register
  split
  ·exact h
  split
  ·exact h.ss (Mq _ _)
  split
  ·exact h
  split
  ·split <;> exact h
  exact h.ss (Mq _ _)
 ·unfold Dv
  split
  ·exact h
  split
  ·exact h
  split
  ·exact h
  split
  ·exact h
  simp only
  have h1:StT (c.reports.foldl (report c.node) ({ s with nodes:=turn1 (fun n=>n.id == c.node.id) (fun n=>{ n with seq:=c.node.seq }) s.nodes },false)).1:=StT.ss (s:={ s with nodes:=turn1 (fun n=>n.id == c.node.id) (fun n=>{ n with seq:=c.node.seq }) s.nodes }) (h.ss ⟨rfl,rfl⟩) (Jg c.node c.reports ({ s with nodes:=turn1 (fun n=>n.id == c.node.id) (fun n=>{ n with seq:=c.node.seq }) s.nodes },false))
  have h2:=Jz h1
  split
  ·exact h2.ss (NZ _)
  exact h2
 ·unfold down
  split
  ·exact h
  split
  ·exact h
  split
  ·exact h
  have h1:StT { s with nodes:=turn1 (fun n=>n.id == c.node.id) (fun n=>{ n with up:=false,epoch:=wrap64 (n.epoch+1) }) s.nodes }:=h.ss ⟨rfl,rfl⟩
  exact (h1.ss (N9 _ _)).ss (Ig _)
 ·unfold drain
  split
  ·exact h
  simp only
  have h1:StT { s with nodes:=turn1 (fun n=>n.id == c.node.id) (fun n=>{ n with drain:=c.node.drain }) s.nodes }:=h.ss ⟨rfl,rfl⟩
  have h2:=(h1.ss (Ja (f:=fun t (a:Ac)=>if a.node == c.node.id && !overB a then eval t a.job else t) (fun t a=>by split;exact CV t a.job;exact SS.refl t) s.allocs _)).ss (Ig _)
  split
  ·exact h2
  exact h2.ss (NZ _)
 ·exact h.ss (QP s c)
 ·unfold revert
  split
  ·exact h
  rename_i g hg
  split
  ·exact h
  split
  ·exact h
  simp only
  split
  ·exact StT.ss (s:={ s with deploys:=turn1 (fun d=>d.job == g.id) (fun d=>{ d with state:=3 }) s.deploys }) (h.ss ⟨rfl,rfl⟩) (CV _ _)
  rename_i x hx
  split
  ·exact StT.ss (s:={ s with deploys:=turn1 (fun d=>d.job == g.id) (fun d=>{ d with state:=3 }) s.deploys }) (h.ss ⟨rfl,rfl⟩) (CV _ _)
  split
  ·exact h
  obtain ⟨q,hq,e⟩:=h x (List.mem_of_find?_eq_some hx)
  refine GG (s:={ s with deploys:=turn1 (fun d=>d.job == g.id) (fun d=>{ d with state:=3 }) s.deploys }) (h.ss ⟨rfl,rfl⟩) _ (fun p hp=>?_)
  have hp' : AB s x.id=some p:=hp
  rw [hq] at hp';cases hp'
  exact e.symm
 exact h
theorem KW {s:Ab} (h:StT s) (ix:Int) (c:Bi):StT (apply s ix c).1:=by
 have s1:StT { s with index:=ix }:=h.ss ⟨rfl,rfl⟩
 have st:=Iu s1 c
 unfold apply
 simp only
 split
 ·exact st
 split
 ·exact s1
 split
 ·split <;> exact s1
 exact st.ss ⟨rfl,rfl⟩
theorem Jr {k:Nat} {s:Ab} (h:Dc k s) (hk:k < 4611686018427387904) (hst:StT s) (ix:Int) (c:Bi):Ch s (apply s ix c).1∧Dc (k+1) (apply s ix c).1∧StT (apply s ix c).1:=by
 have h1:Dc k { s with index:=ix }:=⟨h.jn,h.jv,h.nn,h.ne⟩
 have s1:StT { s with index:=ix }:=hst.ss ⟨rfl,rfl⟩
 obtain ⟨r,v⟩:=LC h1 hk s1 c
 have st:=Iu s1 c
 have r' : Ch s (command { s with index:=ix } c).1:=⟨r.jobs,r.nodes⟩
 have h0:Ch s { s with index:=ix }∧Dc (k+1) { s with index:=ix }∧StT { s with index:=ix }:=⟨⟨(Ch.refl h).jobs,(Ch.refl h).nodes⟩,h1.more (by omega),s1⟩
 unfold apply
 simp only
 split
 ·exact ⟨r',v,st⟩
 split
 ·exact h0
 split
 ·split <;> exact h0
 exact ⟨⟨r'.jobs,r'.nodes⟩,⟨v.jn,v.jv,v.nn,v.ne⟩,st.ss ⟨rfl,rfl⟩⟩
theorem Mg:Dc 0 new∧StT new:=⟨⟨by simp [new],by simp [new],by simp [new],by simp [new]⟩,by intro x hx;simp [new] at hx⟩
end Fsm
end
section
open Go.RowKit
namespace Fsm
structure Len (s t:Ab):Prop where
 j:t.jobs.length=s.jobs.length
 n:t.nodes.length=s.nodes.length
 d:t.deploys.length=s.deploys.length
 x:t.seen.length=s.seen.length
theorem Len.refl (s:Ab):Len s s:=⟨rfl,rfl,rfl,rfl⟩
theorem Len.trans {s t u:Ab} (h:Len s t) (k:Len t u):Len s u:=⟨k.j.trans h.j,k.n.trans h.n,k.d.trans h.d,k.x.trans h.x⟩
theorem EL {α:Type} {f:Ab→α→Ab} (h:∀ s a,Len s (f s a)):∀ (l:List α) (s:Ab),Len s (l.foldl f s)
 | [],s=>Len.refl s
 | a :: r,s=>(h s a).trans (EL h r (f s a))
theorem Db (s:Ab) (j:Int):Len s (eval s j):=by unfold eval;split <;> exact ⟨rfl,rfl,rfl,rfl⟩
theorem Ii (s:Ab):Len s (came s):=⟨rfl,rfl,rfl,rfl⟩
theorem FU (s:Ab):Len s (system s):=EL (fun t j=>by split;exact Db t j.id;exact Len.refl t) s.jobs s
theorem Iz (s:Ab):Len s (looked s):=EL (fun t i=>by
 unfold AQ
 split
 ·exact Len.refl t
 split
 ·exact Len.refl t
 split
 ·exact ⟨rfl,rfl,List.length_set,rfl⟩
 exact Len.refl t) _ s
theorem KM (s:Ab) (node:Int):Len s (lost s node):=EL (fun t i=>by
 unfold AV
 split
 ·exact Len.refl t
 rename_i a _
 split
 ·exact Len.trans (t:={ t with allocs:=t.allocs.set i { a with state:=6 } }) ⟨rfl,rfl,rfl,rfl⟩ (Db _ _)
 exact Len.refl t) _ s
theorem MH (n:NodD) (z:Ab × Bool) (r:Int × Int):Len z.1 (report n z r).1:=by
 unfold report
 split
 ·exact Len.refl _
 rename_i a _
 split
 ·exact Len.refl _
 have h1:Len z.1 ({ z.1 with allocs:=turn1 (fun a=>a.id == r.1) (fun a=>{ a with state:=r.2 }) z.1.allocs }:Ab):=⟨rfl,rfl,rfl,rfl⟩
 have h2:=h1.trans (Db _ a.job)
 simp only
 split
 ·exact h2
 split
 ·exact h1
 split
 ·exact h1
 exact ⟨h2.j,h2.n,by simp only [D7];exact h2.d,h2.x⟩
theorem G6 (n:NodD):∀ (l:List (Int × Int)) (z:Ab × Bool),Len z.1 (l.foldl (report n) z).1
 | [],z=>Len.refl _
 | r :: l,z=>(MH n z r).trans (G6 n l (report n z r))
theorem Gi (j:Ak) (n:NodD):∀ (l:List Ac) (s t:Ab),placeAll j n l s=some t→Len s t
 | [],s,t,e=>by cases e;exact Len.refl _
 | x :: r,s,t,e=>by
  unfold placeAll at e
  rw [List.foldl_cons,show AZ j n (some s) x=if ED s j n x then some (placed s j n x) else none from rfl] at e
  split at e
  ·exact Len.trans (t:=placed s j n x) ⟨rfl,rfl,rfl,rfl⟩ (Gi j n r (placed s j n x) t e)
  rw [BO] at e;cases e
theorem Mv (s:Ab) (j:Ak) (node:Int) (l:List Ac):Len s (places s j node l).1:=by
 unfold places
 split
 ·exact Len.refl _
 split
 ·exact Len.refl _
 split
 ·exact Len.refl _
 rename_i t ht
 have h1:=Gi _ _ _ _ _ ht
 split
 ·exact Len.refl _
 exact h1.trans ⟨rfl,rfl,rfl,rfl⟩
theorem O5 (s:Ab) (c:Bi):Len s (plan s c).1:=by
 unfold plan
 simp only
 split
 ·rename_i j e _ _
  split
  ·exact Len.refl _
  have h2:∀ (l:List Int) (z:Ab × Bool),Len z.1 (l.foldl (fun z n=>((places z.1 j n c.plan.places).1,z.2 && (places z.1 j n c.plan.places).2)) z).1:=fun l=>by
   induction l with
   | nil=>exact fun z=>Len.refl _
   | cons n r ih=>exact fun z=>(Mv z.1 j n c.plan.places).trans (ih ((places z.1 j n c.plan.places).1,z.2 && (places z.1 j n c.plan.places).2))
  have h3:=h2 (Bw c.plan.places) ({ s with allocs:=stops c.plan.job s.allocs c.plan.stops },true)
  split
  ·exact ⟨h3.j,h3.n,h3.d,h3.x⟩
  exact ⟨h3.j,h3.n,h3.d,h3.x⟩
 exact Len.refl _
structure Few (s t:Ab):Prop where
 j:t.jobs.length≤s.jobs.length+1
 n:t.nodes.length≤s.nodes.length+1
 d:t.deploys.length≤s.deploys.length+1
 x:t.seen.length≤s.seen.length
theorem Len.few {s t:Ab} (h:Len s t):Few s t:=⟨by have:=h.j;omega,by have:=h.n;omega,by have:=h.d;omega,by have:=h.x;omega⟩
theorem Few.len {s t u:Ab} (h:Few s t) (k:Len t u):Few s u:=⟨by have:=h.j;have:=k.j;omega,by have:=h.n;have:=k.n;omega,by have:=h.d;have:=k.d;omega,by have:=h.x;have:=k.x;omega⟩
theorem Gz (s:Ab) (j:Ak):Few s (begins s j):=by
 unfold begins
 simp only
 refine Few.len ?_ (Db _ _)
 split
 ·exact Few.len (t:={ s with jobs:=Aj Ak.id j s.jobs,deploys:=Aj DepD.job ⟨j.id,j.ver,1,s.index⟩ s.deploys }) ⟨Cy _,by simp,Cy _,by simp⟩ (Iz _)
 exact ⟨Cy _,by simp,by simp,by simp⟩
theorem KG (s:Ab) (n:NodD):Few s (joins s n):=by
 unfold joins
 exact Few.len (t:={ s with nodes:=Aj NodD.id n s.nodes }) ⟨by simp,Cy _,by simp,by simp⟩ (((KM _ _).trans (FU _)).trans (Ii _))
theorem Few.refl (s:Ab):Few s s:=(Len.refl s).few
theorem Gv (s:Ab) (p:NodD→Bool) (f:NodD→NodD):Len s { s with nodes:=turn1 p f s.nodes }:=⟨rfl,D7 _,rfl,rfl⟩
theorem Ib (s:Ab) (p:DepD→Bool) (f:DepD→DepD):Len s { s with deploys:=turn1 p f s.deploys }:=⟨rfl,rfl,D7 _,rfl⟩
theorem Len.pre {s t u:Ab} (h:Len s t) (k:Few t u):Few s u:=⟨by have:=h.j;have:=k.j;omega,by have:=h.n;have:=k.n;omega,by have:=h.d;have:=k.d;omega,by have:=h.x;have:=k.x;omega⟩
theorem FO (s:Ab) (c:Bi):Few s (command s c).1:=by
 unfold command
 repeat' split
 ·exact Few.refl s
 ·unfold BK
  split
  ·exact Few.refl s
  split
  ·split
   ·exact Few.refl s
   exact Gz _ _
  split
  ·exact Few.refl s
  exact Gz _ _
 ·unfold cancel
  split
  ·exact Few.refl s
  exact (Len.trans (t:={ s with jobs:=turn1 (fun j=>j.id == c.job.id) (fun j=>{ j with stopped:=true }) s.jobs,deploys:=turn1 (fun d=>d.job == c.job.id) (fun d=>if d.state == 1 then { d with state:=3 } else d) s.deploys }) ⟨D7 _,rfl,D7 _,rfl⟩ (Db _ _)).few
 ·unfold register
  split
  ·exact Few.refl s
  split
  ·exact KG _ _
  split
  ·exact Few.refl s
  split
  ·split <;> exact Few.refl s
  exact KG _ _
 ·unfold Dv
  split
  ·exact Few.refl s
  split
  ·exact Few.refl s
  split
  ·exact Few.refl s
  split
  ·exact Few.refl s
  simp only
  have h0:=Gv s (fun n=>n.id == c.node.id) (fun n=>{ n with seq:=c.node.seq })
  have h1:Len s (looked (c.reports.foldl (report c.node) (({ s with nodes:=turn1 (fun n=>n.id == c.node.id) (fun n=>{ n with seq:=c.node.seq }) s.nodes }:Ab),false)).1) :=
   (h0.trans (G6 c.node c.reports (({ s with nodes:=turn1 (fun n=>n.id == c.node.id) (fun n=>{ n with seq:=c.node.seq }) s.nodes }:Ab),false))).trans (Iz _)
  split
  ·exact (h1.trans (Ii _)).few
  exact h1.few
 ·unfold down
  split
  ·exact Few.refl s
  split
  ·exact Few.refl s
  split
  ·exact Few.refl s
  exact (((Gv s (fun n=>n.id == c.node.id) (fun n=>{ n with up:=false,epoch:=wrap64 (n.epoch+1) })).trans (KM _ _)).trans (FU _)).few
 ·unfold drain
  split
  ·exact Few.refl s
  simp only
  have h1:Len s (system (s.allocs.foldl (fun t a=>if a.node == c.node.id && !overB a then eval t a.job else t) { s with nodes:=turn1 (fun n=>n.id == c.node.id) (fun n=>{ n with drain:=c.node.drain }) s.nodes })) :=
   ((Gv s (fun n=>n.id == c.node.id) (fun n=>{ n with drain:=c.node.drain })).trans (EL (f:=fun t (a:Ac)=>if a.node == c.node.id && !overB a then eval t a.job else t) (fun t a=>by split;exact Db _ _;exact Len.refl _) s.allocs _)).trans (FU _)
  split
  ·exact h1.few
  exact (h1.trans (Ii _)).few
 ·exact (O5 s c).few
 ·unfold revert
  split
  ·exact Few.refl s
  split
  ·exact Few.refl s
  split
  ·exact Few.refl s
  simp only
  split
  ·exact ((Ib _ _ _).trans (Db _ _)).few
  split
  ·exact ((Ib _ _ _).trans (Db _ _)).few
  split
  ·exact Few.refl s
  exact (Ib s _ _).pre (Gz _ _)
 exact Few.refl s
theorem KV (s:Ab) (ix:Int) (c:Bi):(apply s ix c).1.jobs.length≤s.jobs.length+1∧(apply s ix c).1.nodes.length≤s.nodes.length+1∧(apply s ix c).1.deploys.length≤s.deploys.length+1∧(apply s ix c).1.seen.length≤s.seen.length+1:=by
 unfold apply
 simp only
 obtain ⟨a,b,c',d⟩:=FO { s with index:=ix } c
 split
 ·exact ⟨a,b,c',Nat.le_succ_of_le d⟩
 split
 ·exact ⟨by simp [no],by simp [no],by simp [no],by simp [no]⟩
 split
 ·split
  ·exact ⟨by simp [no],by simp [no],by simp [no],by simp [no]⟩
  exact ⟨by simp,by simp,by simp,by simp⟩
 exact ⟨a,b,c',Nat.le_trans (Cy _) (Nat.succ_le_succ d)⟩
def StS (s:Ab):Prop:=(s.stable.map Ak.id).Pairwise (· < ·)
theorem StS.ss {s t:Ab} (h:StS s) (k:t.stable=s.stable):StS t:=by unfold StS;rw [k];exact h
theorem NU:∀ {l m:List Int},l.Nodup→(∀ x∈l,x∈m)→l.length≤m.length
 | [],_,_,_=>by simp
 | x :: r,m,h,hm=>by
  rw [List.nodup_cons] at h
  have hx:=hm x (List.mem_cons_self ..)
  have h1:=NU (l:=r) (m:=m.erase x) h.2 (fun y hy=>(List.mem_erase_of_ne (by rintro rfl;exact h.1 hy)).2 (hm y (List.mem_cons_of_mem _ hy)))
  rw [List.length_erase_of_mem hx] at h1
  have:0 < m.length:=List.length_pos_of_mem hx
  simp only [List.length_cons]
  omega
theorem Jt {s:Ab} (h:StS s) (ht:StT s):s.stable.length≤s.jobs.length:=by
 have:=NU (l:=s.stable.map Ak.id) (m:=s.jobs.map Ak.id) (List.Pairwise.imp (fun e=>by omega) h) (fun x hx=>by
  obtain ⟨y,hy,rfl⟩:=List.mem_map.1 hx
  obtain ⟨j,hj,_⟩:=ht y hy
  obtain ⟨a,b⟩:=D8 hj
  exact a ▸ List.mem_map_of_mem b)
 simpa using this
end Fsm
end
section
open Go.RowKit
namespace Fsm
def NOk (s:Ab):Prop:=∀ n∈s.nodes,Cb n=true∧0≤n.seq
theorem NOk.same {s t:Ab} (h:NOk s) (e:t.nodes=s.nodes):NOk t:=fun n hn=>h n (by rw [← e];exact hn)
theorem NOk.put {s t:Ab} (h:NOk s) (n:NodD) (e:t.nodes=Aj NodD.id n s.nodes) (h1:Cb n=true) (h2:0≤n.seq):NOk t:=fun m hm=>by
 rw [e] at hm
 rcases putL_mem hm with rfl|⟨hm,_⟩
 ·exact ⟨h1,h2⟩
 exact h m hm
theorem NOk.turn {s t:Ab} (h:NOk s) (x:Int) (f:NodD→NodD) (e:t.nodes=turn1 (fun n=>n.id == x) f s.nodes) (hf:∀ n,Cb (f n)=Cb n∧(0≤n.seq→0≤(f n).seq)):NOk t:=fun m hm=>by
 rw [e] at hm
 rcases H9 _ _ _ hm with hm|⟨n,hn,rfl⟩
 ·exact h m hm
 exact ⟨by rw [(hf n).1];exact (h n hn).1,(hf n).2 (h n hn).2⟩
theorem Mt {s:Ab} (h:NOk s) (c:Bi):NOk (command s c).1:=by
 unfold command
 repeat' split
 ·exact h
 ·unfold BK
  split
  ·exact h
  split
  ·split
   ·exact h
   exact h.same (Da _ _).1
  split
  ·exact h
  exact h.same (Da _ _).1
 ·unfold cancel
  split
  ·exact h
  exact h.same (eval_kept _ _).1
 ·unfold register
  split
  ·exact h
  rename_i hok
  have hok' : Cb c.node=true:=by simpa using hok
  have key:∀ (u d:Bool) (e q:Int),Cb ⟨c.node.id,c.node.cap,u,d,c.node.boot,e,q⟩=true:=fun u d e q=>by rw [← hok'];rfl
  split
  ·exact h.put _ (DT _ _) (key _ _ _ _) (Int.le_refl _)
  split
  ·exact h
  split
  ·split <;> exact h
  exact h.put _ (DT _ _) (key _ _ _ _) (Int.le_refl _)
 ·unfold Dv
  split
  ·exact h
  rename_i hs
  simp only [Bool.or_eq_true,decide_eq_true_eq,not_or] at hs
  split
  ·exact h
  split
  ·exact h
  split
  ·exact h
  simp only
  have hn:(looked (c.reports.foldl (report c.node) ({ s with nodes:=turn1 (fun n=>n.id == c.node.id) (fun n=>{ n with seq:=c.node.seq }) s.nodes },false)).1).nodes=turn1 (fun n=>n.id == c.node.id) (fun n=>{ n with seq:=c.node.seq }) s.nodes:=(DN _).1.trans (EY c.node c.reports _).1
  split
  ·exact h.turn _ (fun n=>{ n with seq:=c.node.seq }) hn (fun n=>⟨rfl,fun _=>by simp only;omega⟩)
  exact h.turn _ (fun n=>{ n with seq:=c.node.seq }) hn (fun n=>⟨rfl,fun _=>by simp only;omega⟩)
 ·unfold down
  split
  ·exact h
  split
  ·exact h
  split
  ·exact h
  exact h.turn _ (fun n=>{ n with up:=false,epoch:=wrap64 (n.epoch+1) }) ((Cs _).1.trans (D9 _ _).1) (fun n=>⟨rfl,id⟩)
 ·unfold drain
  split
  ·exact h
  simp only
  have hn:(system (s.allocs.foldl (fun t a=>if a.node == c.node.id && !overB a then eval t a.job else t) { s with nodes:=turn1 (fun n=>n.id == c.node.id) (fun n=>{ n with drain:=c.node.drain }) s.nodes })).nodes=turn1 (fun n=>n.id == c.node.id) (fun n=>{ n with drain:=c.node.drain }) s.nodes :=
   (Cs _).1.trans (EK (f:=fun t (a:Ac)=>if a.node == c.node.id && !overB a then eval t a.job else t) (fun t a=>by split;exact eval_kept t a.job;exact Kept.refl t) s.allocs _).1
  split
  ·exact h.turn _ (fun n=>{ n with drain:=c.node.drain }) hn (fun n=>⟨rfl,id⟩)
  exact h.turn _ (fun n=>{ n with drain:=c.node.drain }) hn (fun n=>⟨rfl,id⟩)
 ·exact h.same (Gb s c).2
 ·unfold revert
  split
  ·exact h
  split
  ·exact h
  split
  ·exact h
  simp only
  split
  ·exact h.same (eval_kept _ _).1
  split
  ·exact h.same (eval_kept _ _).1
  split
  ·exact h
  exact h.same (Da _ _).1
 exact h
theorem OC {s:Ab} (h:NOk s) (ix:Int) (c:Bi):NOk (apply s ix c).1:=by
 have h1:NOk { s with index:=ix }:=h
 have h2:=Mt h1 c
 unfold apply
 simp only
 split
 ·exact h2
 split
 ·exact h1
 split
 ·split <;> exact h1
 exact h2
theorem NB {k:Nat} {s:Ab} (hv:Dc k s) (hk:k < 4611686018427387904) (ix:Int) (c:Bi) (hop:c.op=7) {n:NodD} (hn:nodeAt s c.node.id=some n) (hu:n.up=true) (he:n.epoch=c.node.epoch) (hs:n.seq=c.node.seq) :
  (apply s ix c).2.code=0∧nodeAt (apply s ix c).1 c.node.id=some { n with up:=false,epoch:=n.epoch+1 }∧∀ b∈(apply s ix c).1.allocs,b.node=c.node.id→overB b=true:=by
 have ha:apply s ix c=down { s with index:=ix } c:=by simp [apply,command,hop]
 have hna:nodeAt { s with index:=ix } c.node.id=some n:=hn
 have hb:=hv.ne n (Ki hn).2
 have hw:wrap64 (n.epoch+1)=n.epoch+1:=by unfold wrap64;omega
 rw [ha]
 unfold down
 rw [hna]
 simp only [hu,he,hs,beq_self_eq_true,Bool.not_true,Bool.or_self,Bool.false_eq_true,if_false]
 refine ⟨trivial,?_,fun b hb' hbn=>?_⟩
 ·rw [nodeAt,(Cs _).1,(D9 _ _).1]
  show (turn1 (fun n=>n.id == c.node.id) (fun n=>{ n with up:=false,epoch:=wrap64 (n.epoch+1) }) s.nodes).find? (fun m=>m.id == c.node.id)=_
  rw [Ee (fun n:NodD=>n.id == c.node.id) (fun n=>{ n with up:=false,epoch:=wrap64 (n.epoch+1) }) (fun _=>rfl)]
  have hn' : s.nodes.find? (fun m=>m.id == c.node.id)=some n:=hn
  rw [hn',Option.map_some,hw,he,← hs]
 rw [(Cs _).2] at hb'
 exact (D9 _ _).2.2 b hb' hbn
theorem KZ (t:Ab) (ix:Int) (c:Bi) (hop:c.op=6) {m:NodD} (hm:nodeAt t c.node.id=some m) (hu:m.up=false) (h1:c.reports.length≤64) (h2:1≤c.node.seq) (h3:c.node.seq≤1099511627776):(apply t ix c).2.code=32:=by
 have ha:apply t ix c=Dv { t with index:=ix } c:=by simp [apply,command,hop]
 have hna:nodeAt { t with index:=ix } c.node.id=some m:=hm
 rw [ha]
 unfold Dv
 rw [hna,if_neg (by simp [show ¬ 64 < c.reports.length by omega,show ¬ c.node.seq < 1 by omega,show ¬ BC < c.node.seq by unfold BC;omega])]
 simp only [hu,Bool.not_false,Bool.true_or,if_true]
 rfl
theorem K9 (t:Ab) (ix:Int) (c:Bi) (hop:c.op=5) (hok:Cb c.node=true) {m:NodD} (hm:nodeAt t c.node.id=some m) (hu:m.up=false) (hb:m.boot=c.node.boot):(apply t ix c).2.code=33:=by
 have ha:apply t ix c=register { t with index:=ix } c:=by simp [apply,command,hop]
 have hna:nodeAt { t with index:=ix } c.node.id=some m:=hm
 rw [ha]
 unfold register
 rw [hna,hok]
 simp [hu,hb,no]
theorem Lg {t:Ab} (ix:Int) (c:Bi) (hop:c.op=5) (hok:Cb c.node=true) {m:NodD} (hm:nodeAt t c.node.id=some m) (hb:m.boot < c.node.boot) (he:0≤m.epoch∧m.epoch < 4611686018427387904) :
  (apply t ix c).2=⟨0,m.epoch+1,[]⟩∧∃ q,nodeAt (apply t ix c).1 c.node.id=some q∧q.up=true∧q.epoch=m.epoch+1:=by
 have ha:apply t ix c=register { t with index:=ix } c:=by simp [apply,command,hop]
 have hna:nodeAt { t with index:=ix } c.node.id=some m:=hm
 have hw:wrap64 (m.epoch+1)=m.epoch+1:=by unfold wrap64;omega
 rw [ha]
 unfold register
 rw [hna,hok]
 simp only [Bool.not_true,Bool.false_eq_true,if_false]
 rw [if_neg (by omega),if_neg (by simp;omega),hw]
 refine ⟨rfl,⟨c.node.id,c.node.cap,true,m.drain,c.node.boot,m.epoch+1,0⟩,?_,rfl,rfl⟩
 rw [nodeAt,DT]
 exact Dx (key:=NodD.id) (x:=⟨c.node.id,c.node.cap,true,m.drain,c.node.boot,m.epoch+1,0⟩) _
end Fsm
end
section
open Go.RowKit
namespace Fsm
def cnt (j:Ak):Prop:=j.groups.length≤2∧∀ g∈j.groups,0≤g.count∧g.count≤4
def Up {α:Type} (key:α→Int) (l:List α):Prop:=(l.map key).Pairwise (· < ·)
structure Wf (s:Ab):Prop where
 j:Up Ak.id s.jobs
 t:Up Ak.id s.stable
 n:Up NodD.id s.nodes
 e:Up EvalD.job s.evals
 d:Up DepD.job s.deploys
 x:Up Cr.client s.seen
 es:∀ e∈s.evals,e.state=1 ∨ e.state=2 ∨ e.state=3
 jc:∀ j∈s.jobs,cnt j
 tc:∀ j∈s.stable,cnt j
theorem Up.put {α:Type} {key:α→Int} {l:List α} (h:Up key l) (x:α):Up key (Aj key x l):=by
 unfold Up;rw [ET];exact FN h
theorem Up.eq {α:Type} {key:α→Int} {l m:List α} (h:Up key l) (e:m.map key=l.map key):Up key m:=by
 unfold Up;rw [e];exact h
theorem Wf.same {s u:Ab} (h:Wf s) (h1:u.jobs=s.jobs) (h2:u.stable=s.stable) (h3:u.nodes=s.nodes) (h4:u.evals=s.evals) (h5:u.deploys=s.deploys) (h6:u.seen=s.seen):Wf u :=
 ⟨by rw [h1];exact h.j,by rw [h2];exact h.t,by rw [h3];exact h.n,by rw [h4];exact h.e,by rw [h5];exact h.d,by rw [h6];exact h.x,by rw [h4];exact h.es,by rw [h1];exact h.jc,by rw [h2];exact h.tc⟩
theorem Wf.ix {s:Ab} (h:Wf s) (i:Int):Wf { s with index:=i }:=h.same rfl rfl rfl rfl rfl rfl
theorem CG {s:Ab} (h:Wf s) (k:Int):Wf (eval s k):=by
 unfold eval
 split
 ·exact h
 exact ⟨h.j,h.t,h.n,h.e.put _,h.d,h.x,DR h.es (.inl rfl),h.jc,h.tc⟩
theorem Lb {s:Ab} (h:Wf s):Wf (came s):=by
 refine ⟨h.j,h.t,h.n,h.e.eq ?_,h.d,h.x,?_,h.jc,h.tc⟩
 ·show (s.evals.map _).map _=_
  rw [List.map_map]
  refine List.map_congr_left (fun e _=>?_)
  show (Br s.index e).job=e.job
  unfold Br;split <;> rfl
 intro e he
 obtain ⟨y,hy,rfl⟩:=List.mem_map.1 (show e∈s.evals.map _ from he)
 unfold Br
 split
 ·exact .inl rfl
 exact h.es y hy
theorem Hu {α:Type} {f:Ab→α→Ab} (h:∀ s a,Wf s→Wf (f s a)):∀ (l:List α) {s:Ab},Wf s→Wf (l.foldl f s)
 | [],_,hs=>hs
 | a :: r,s,hs=>Hu h r (h s a hs)
theorem Il {s:Ab} (h:Wf s):Wf (system s):=Hu (fun t j ht=>by split;exact CG ht _;exact ht) _ h
theorem Lc {α:Type} {key:α→Int}:∀ {l:List α} {i:Nat} {x y:α},l[i]? = some x→key y=key x→(l.set i y).map key=l.map key
 | [],i,x,y,h,_=>by simp at h
 | a :: r,0,x,y,h,e=>by simp at h;subst h;simp [e]
 | a :: r,i+1,x,y,h,e=>by
  rw [List.set_cons_succ,List.map_cons,List.map_cons,Lc (l:=r) (by simpa using h) e]
theorem FD {s:Ab} {k:Int} {j:Ak} (e:AB s k=some j):j∈s.jobs:=List.mem_of_find?_eq_some e
theorem Oa {s:Ab} (h:Wf s) (i:Nat):Wf (AQ s i):=by
 unfold AQ
 split
 ·exact h
 rename_i d hd
 split
 ·exact h
 rename_i j hj
 split
 ·exact ⟨h.j,h.t.put _,h.n,h.e,h.d.eq (Lc hd rfl),h.x,h.es,h.jc,DR h.tc (h.jc _ (FD hj))⟩
 exact h
theorem KY {s:Ab} (h:Wf s):Wf (looked s):=Hu (fun t i ht=>Oa ht i) _ h
theorem Ld {s:Ab} (h:Wf s) {j:Ak} (hc:cnt j):Wf { s with jobs:=Aj Ak.id j s.jobs } :=
 ⟨h.j.put _,h.t,h.n,h.e,h.d,h.x,h.es,DR h.jc hc,h.tc⟩
theorem Od {s:Ab} (h:Wf s) (d:DepD):Wf { s with deploys:=Aj DepD.job d s.deploys } :=
 ⟨h.j,h.t,h.n,h.e,h.d.put _,h.x,h.es,h.jc,h.tc⟩
theorem JB {s:Ab} (h:Wf s) (n:NodD):Wf { s with nodes:=Aj NodD.id n s.nodes } :=
 ⟨h.j,h.t,h.n.put _,h.e,h.d,h.x,h.es,h.jc,h.tc⟩
theorem N8 {s:Ab} (h:Wf s) (x:Cr):Wf { s with seen:=Aj Cr.client x s.seen } :=
 ⟨h.j,h.t,h.n,h.e,h.d,h.x.put _,h.es,h.jc,h.tc⟩
theorem Gc {s:Ab} (h:Wf s) {j:Ak} (hc:cnt j):Wf (begins s j):=by
 unfold begins
 simp only
 split
 ·exact CG (KY (Od (Ld h hc) _)) _
 exact CG (Ld h hc) _
theorem D6 {s:Ab} (h:Wf s) (l:List Ac):Wf { s with allocs:=l }:=h.same rfl rfl rfl rfl rfl rfl
theorem LQ (node:Int) {s:Ab} (h:Wf s) (i:Nat):Wf (AV node s i):=by
 unfold AV
 split
 ·exact h
 split
 ·exact CG (D6 h _) _
 exact h
theorem Hf {s:Ab} (h:Wf s) (node:Int):Wf (lost s node):=Hu (fun t i ht=>LQ node ht i) _ h
theorem MN {s:Ab} (h:Wf s) (n:NodD):Wf (joins s n):=Lb (Il (Hf (JB h n) _))
theorem G5 {s:Ab} (h:Wf s) (p:DepD→Bool) (f:DepD→DepD) (hf:∀ d,(f d).job=d.job):Wf { s with deploys:=turn1 p f s.deploys } :=
 ⟨h.j,h.t,h.n,h.e,h.d.eq (CE p f DepD.job hf _),h.x,h.es,h.jc,h.tc⟩
theorem EC {s:Ab} (h:Wf s) (p:NodD→Bool) (f:NodD→NodD) (hf:∀ d,(f d).id=d.id):Wf { s with nodes:=turn1 p f s.nodes } :=
 ⟨h.j,h.t,h.n.eq (CE p f NodD.id hf _),h.e,h.d,h.x,h.es,h.jc,h.tc⟩
theorem Po {s:Ab} (h:Wf s) (p:Ak→Bool) (f:Ak→Ak) (hf:∀ d,(f d).id=d.id∧(f d).groups=d.groups):Wf { s with jobs:=turn1 p f s.jobs } :=
 ⟨h.j.eq (CE p f Ak.id (fun d=>(hf d).1) _),h.t,h.n,h.e,h.d,h.x,h.es,F8 (fun y hy=>by unfold cnt;rw [(hf y).2];exact hy) h.jc,h.tc⟩
theorem LM {s:Ab} (h:Wf s) (p:EvalD→Bool) (f:EvalD→EvalD) (hf:∀ d,(f d).job=d.job) (hs:∀ d,(d.state=1 ∨ d.state=2 ∨ d.state=3)→((f d).state=1 ∨ (f d).state=2 ∨ (f d).state=3)):Wf { s with evals:=turn1 p f s.evals } :=
 ⟨h.j,h.t,h.n,h.e.eq (CE p f EvalD.job hf _),h.d,h.x,F8 hs h.es,h.jc,h.tc⟩
theorem Km (n:NodD) {z:Ab × Bool} (h:Wf z.1) (r:Int × Int):Wf (report n z r).1:=by
 unfold report
 split
 ·exact h
 split
 ·exact h
 simp only
 split
 ·exact CG (D6 h _) _
 split
 ·exact D6 h _
 split
 ·exact D6 h _
 refine G5 (CG (D6 h _) _) _ _ (fun d=>?_)
 split <;> rfl
theorem JR (n:NodD):∀ (l:List (Int × Int)) {z:Ab × Bool},Wf z.1→Wf (l.foldl (report n) z).1
 | [],_,h=>h
 | r :: l,z,h=>JR n l (Km n h r)
theorem FQ (j:Ak) (n:NodD):∀ (l:List Ac) (s u:Ab),placeAll j n l s=some u→∃ m k,u={ s with allocs:=m,next:=k }
 | [],s,u,h=>by
  have:s=u:=by simpa [placeAll] using h
  exact ⟨s.allocs,s.next,this.symm⟩
 | x :: r,s,u,h=>by
  unfold placeAll at h
  rw [List.foldl_cons] at h
  simp only [AZ] at h
  split at h
  ·obtain ⟨m,k,e⟩:=FQ j n r _ u h
   exact ⟨m,k,by rw [e];rfl⟩
  exact absurd h (by rw [BO];simp)
theorem Ls (s:Ab) (j:Ak) (node:Int) (l:List Ac):∃ m k,(places s j node l).1={ s with allocs:=m,next:=k }:=by
 unfold places
 split
 ·exact ⟨s.allocs,s.next,rfl⟩
 split
 ·exact ⟨s.allocs,s.next,rfl⟩
 split
 ·exact ⟨s.allocs,s.next,rfl⟩
 rename_i u hu
 split
 ·exact ⟨s.allocs,s.next,rfl⟩
 obtain ⟨m,k,e⟩:=FQ j _ _ _ _ hu
 subst e
 exact ⟨_,k,rfl⟩
theorem OZ {s:Ab} (h:Wf s) (j:Ak) (node:Int) (l:List Ac):Wf (places s j node l).1:=by
 obtain ⟨m,k,e⟩:=Ls s j node l
 rw [e]
 exact h.same rfl rfl rfl rfl rfl rfl
theorem Jv (j:Ak) (q:List Ac):∀ (l:List Int) {z:Ab × Bool},Wf z.1→Wf (l.foldl (fun z n=>let y:=places z.1 j n q;(y.1,z.2 && y.2)) z).1
 | [],_,h=>h
 | n :: l,z,h=>Jv j q l (OZ h j n q)
theorem Rk {s:Ab} (h:Wf s) (c:Bi):Wf (plan s c).1:=by
 unfold plan
 simp only
 split
 ·split
  ·exact h
  have h1:Wf ({ s with allocs:=stops c.plan.job s.allocs c.plan.stops }:Ab):=h.same rfl rfl rfl rfl rfl rfl
  have h2:=Jv (z:=(({ s with allocs:=stops c.plan.job s.allocs c.plan.stops }:Ab),true)) ‹Ak› c.plan.places (Bw c.plan.places) h1
  split
  ·exact LM h2 _ _ (fun _=>rfl) (fun _ hd=>hd)
  exact LM h2 _ _ (fun _=>rfl) (fun _ _=>by simp only;split <;> simp)
 exact h
theorem Ia {j:Ak} (h:DX j=true):cnt j:=by
 simp only [DX,Bool.and_eq_true,decide_eq_true_eq,List.all_eq_true,BH] at h
 exact ⟨h.1.2,fun g hg=>⟨(h.2 g hg).1.1.1.1.1.1,(h.2 g hg).1.1.1.1.1.2⟩⟩
theorem Gw {s:Ab} (h:Wf s) (c:Bi):Wf (command s c).1:=by
 unfold command
 repeat' split
 ·exact h
 ·unfold BK
  split
  ·exact h
  rename_i hok
  have hok' : DX c.job=true:=by simpa using hok
  have hc:=Ia hok'
  split
  ·split
   ·exact h
   exact Gc h hc
  split
  ·exact h
  exact Gc h hc
 ·unfold cancel
  split
  ·exact h
  exact CG (G5 (Po h (fun j=>j.id == c.job.id) (fun j=>{ j with stopped:=true }) (fun _=>⟨rfl,rfl⟩)) _ _ (fun d=>by split <;> rfl)) _
 ·unfold register
  split
  ·exact h
  split
  ·exact MN h _
  split
  ·exact h
  split
  ·split <;> exact h
  exact MN h _
 ·unfold Dv
  split
  ·exact h
  split
  ·exact h
  split
  ·exact h
  split
  ·exact h
  simp only
  have h1:=KY (JR c.node c.reports (z:=({ s with nodes:=turn1 (fun n=>n.id == c.node.id) (fun n=>{ n with seq:=c.node.seq }) s.nodes },false)) (EC h _ _ (fun _=>rfl)))
  split
  ·exact Lb h1
  exact h1
 ·unfold down
  split
  ·exact h
  split
  ·exact h
  split
  ·exact h
  exact Il (Hf (EC h (fun n=>n.id == c.node.id) (fun n=>{ n with up:=false,epoch:=wrap64 (n.epoch+1) }) (fun _=>rfl)) _)
 ·unfold drain
  split
  ·exact h
  simp only
  have h1:Wf (system (s.allocs.foldl (fun t a=>if a.node == c.node.id && !overB a then eval t a.job else t) { s with nodes:=turn1 (fun n=>n.id == c.node.id) (fun n=>{ n with drain:=c.node.drain }) s.nodes })) :=
   Il (Hu (f:=fun t (a:Ac)=>if a.node == c.node.id && !overB a then eval t a.job else t) (fun t a ht=>by split;exact CG ht _;exact ht) s.allocs (EC h (fun n=>n.id == c.node.id) (fun n=>{ n with drain:=c.node.drain }) (fun _=>rfl)))
  split
  ·exact h1
  exact Lb h1
 ·exact Rk h c
 ·unfold revert
  split
  ·exact h
  split
  ·exact h
  split
  ·exact h
  simp only
  have hf:Wf ({ s with deploys:=turn1 (fun d=>d.job == (‹Ak› : Ak).id) (fun d=>{ d with state:=3 }) s.deploys }:Ab):=G5 h _ _ (fun _=>rfl)
  split
  ·exact CG hf _
  rename_i x hx
  split
  ·exact CG hf _
  split
  ·exact h
  exact Gc hf (h.tc x (List.mem_of_find?_eq_some hx))
 exact h
theorem MO {s:Ab} (h:Wf s) (ix:Int) (c:Bi):Wf (apply s ix c).1:=by
 have h1:=h.ix ix
 unfold apply
 simp only
 split
 ·exact Gw h1 c
 split
 ·exact h1
 split
 ·split <;> exact h1
 exact N8 (Gw h1 c) _
theorem RX:Wf new:=⟨by simp [Up,new],by simp [Up,new],by simp [Up,new],by simp [Up,new],by simp [Up,new],by simp [Up,new],by simp [new],by simp [new],by simp [new]⟩
theorem Ff {α:Type} {key:α→Int} {x y:α}:∀ {l:List α} {i:Nat},Up key l→l[i]? = some y→(∀ k < i,∀ z,l[k]? = some z→key z < key x)→key y=key x→Aj key x l=l.set i x
 | [],i,_,h,_,_=>by simp at h
 | a :: r,0,hu,h,_,e=>by
  simp at h;subst h
  unfold Aj
  rw [if_pos (by omega)]
  unfold Up at hu
  rw [List.map_cons,List.pairwise_cons] at hu
  rw [List.filter_cons_of_neg (by simp [e]),List.set_cons_zero]
  congr 1
  refine List.filter_eq_self.2 (fun z hz=>?_)
  have:=hu.1 (key z) (List.mem_map_of_mem hz)
  simp;omega
 | a :: r,i+1,hu,h,hb,e=>by
  have h0:=hb 0 (by omega) a rfl
  unfold Aj
  rw [if_neg (by omega),List.set_cons_succ]
  unfold Up at hu
  rw [List.map_cons,List.pairwise_cons] at hu
  rw [Ff (l:=r) hu.2 (by simpa using h) (fun k hk z hz=>hb (k+1) (by omega) z (by simpa using hz)) e]
theorem DF {α:Type} {key:α→Int} {x y:α}:∀ {l:List α} {i:Nat},Up key l→l[i]? = some y→(∀ k < i,∀ z,l[k]? = some z→key z < key x)→key x < key y→Aj key x l=l.take i ++ x :: l.drop i
 | [],i,_,h,_,_=>by simp at h
 | a :: r,0,hu,h,_,e=>by
  simp at h;subst h
  unfold Aj
  rw [if_pos (by omega)]
  unfold Up at hu
  rw [List.map_cons,List.pairwise_cons] at hu
  rw [List.take_zero,List.drop_zero,List.nil_append]
  congr 1
  refine List.filter_eq_self.2 (fun z hz=>?_)
  rcases List.mem_cons.1 hz with rfl|hz
  ·simp;omega
  have:=hu.1 (key z) (List.mem_map_of_mem hz)
  simp;omega
 | a :: r,i+1,hu,h,hb,e=>by
  have h0:=hb 0 (by omega) a rfl
  unfold Aj
  rw [if_neg (by omega)]
  unfold Up at hu
  rw [List.map_cons,List.pairwise_cons] at hu
  rw [DF (l:=r) hu.2 (by simpa using h) (fun k hk z hz=>hb (k+1) (by omega) z (by simpa using hz)) e]
  simp
theorem Fq {α:Type} {key:α→Int} {x:α}:∀ {l:List α},(∀ z∈l,key z < key x)→Aj key x l=l ++ [x]
 | [],_=>rfl
 | a :: r,h=>by
  have h0:=h a (List.mem_cons_self ..)
  unfold Aj
  rw [if_neg (by omega),Fq (l:=r) (fun z hz=>h z (List.mem_cons_of_mem _ hz))]
  rfl
end Fsm
end
section
open Go.RowKit
abbrev Aa.La (s:Aa) (cm:Bool):Array Value:=#[.int .i64 s.index,.int .i64 s.next,.slice s.AJ s.nJ s.cJ,.slice s.AS s.nS s.cS,.slice s.AN s.nN s.cN,.slice s.AA s.nA s.cA,.slice s.AE s.nE s.cE,.slice s.AD s.nD s.cD,.slice s.AX s.nX s.cX,.int .i64 s.index,.bool cm]
abbrev Jo:List TypeId:=[39,66,43,55,68,74,89,79]
theorem Ext.any {S:Nat→Prop} {w w' : World} (h:Ext Nothing w w'):Ext S w w':=h.mono (fun _ _ e=>e.elim)
def MB (base:Nat) (w:World) (b:Nat):Prop:=base≤b∧∃ t cs,Blk w b t cs∧t∈Jo
structure AF (base:Nat) (W:World) (b:Nat) (s:Aa) (cm:Bool):Prop where
 blk:Blk W b 79 (s.La cm)
 own:Az base W s
 lo:base≤b
theorem MB.Be {w:World} {base e sz n g:Nat} {v:Value} {xs:List Value} (h:w.ownsRow base e sz v n xs) (he:e∈Jo) (hv:v.ownBlock=some g):MB base w g:=by
 obtain ⟨cs,hcs⟩:=Dq h hv
 exact ⟨Cj h hv,e,cs,hcs,he⟩
theorem MB.GN {w:World} {base g t:Nat} {cs:Array Value} (h:Blk w g t cs) (ht:t∈Jo) (hb:base≤g):MB base w g:=⟨hb,t,cs,h,ht⟩
theorem MB.back {w w' : World} {base b:Nat} (hx:Ext (MB base w) w w') (h:MB base w' b) (hb:b < w.heap.size):MB base w b:=by
 by_cases hn:MB base w b
 ·exact hn
 obtain ⟨h1,t,cs,h2,h3⟩:=h
 exact ⟨h1,t,cs,(hx.block b hb hn).symm.trans h2,h3⟩
theorem Ext.mb {S:Nat→Prop} {w w1 w2:World} {base:Nat} (h:Ext (MB base w) w w1) (k:Ext S w1 w2) (hr:∀ b,S b→MB base w1 b):Ext (MB base w) w w2:=h.trans k (fun b hb e=>(hr b e).back h hb)
theorem Ext.m2 {w w1 w2:World} {base:Nat} (h:Ext (MB base w) w w1) (k:Ext (MB base w1) w1 w2):Ext (MB base w) w w2:=h.mb k (fun _ e=>e)
theorem Ext.m0 {w w1 w2:World} {base:Nat} (h:Ext (MB base w) w w1) (k:Ext Nothing w1 w2):Ext (MB base w) w w2:=h.mb k (fun _ e=>e.elim)
theorem Ext.m1 {w w1:World} {base:Nat} (k:Ext Nothing w w1):Ext (MB base w) w w1:=k.mono (fun _ _ e=>e.elim)
section
variable {base b:Nat} {W W' : World} {s:Aa} {cm:Bool} {S:Nat→Prop}
theorem AF.keep (h:AF base W b s cm) (hx:Ext S W W') (hb:¬ S b) (hS:Apart W S ER):AF base W' b s cm:=⟨h.blk.ext hx hb,h.own.keep hx hS,h.lo⟩
theorem AF.e0 (h:AF base W b s cm) (hx:Ext Nothing W W'):AF base W' b s cm:=h.keep hx (fun e=>e) Apart.none
theorem AF.mb (h:AF base W b s cm):MB base W b:=MB.GN h.blk (by decide) h.lo
theorem AF.put (h:AF base W b s cm) (i:Nat) (u:Value) {s' : Aa} {cm' : Bool} (ho:Az base W s') (he:(s.La cm).setIfInBounds i u=s'.La cm'):AF base (W.setCell ⟨b,i,none⟩ u) b s' cm' :=
 ⟨he ▸ h.blk.Bg i u,ho.keep (Ext.set1 W b i u) (Apart.one h.blk (by decide)),h.lo⟩
variable {P:Program} {ops:Array Oper} {Q:Exit→Act→World→Prop} {a:Act} {o:Oper} {rest:List Oper}
theorem BL {A:Option Addr} {n n' c c' : Nat}:(Value.slice A n c).ownBlock=(Value.slice A n' c').ownBlock:=by cases A <;> rfl
def MW (s:Aa) (b q:Nat):Prop:=q=b ∨ (vJ s).ownBlock=some q ∨ (vS s).ownBlock=some q ∨ (vN s).ownBlock=some q ∨ (vA s).ownBlock=some q ∨ (vE s).ownBlock=some q ∨ (vD s).ownBlock=some q ∨ (vX s).ownBlock=some q
theorem MW.oJ {s:Aa} {b q n c:Nat} (h:(Value.slice s.AJ n c).ownBlock=some q):MW s b q:=.inr (.inl (BL.trans h))
theorem MW.oS {s:Aa} {b q n c:Nat} (h:(Value.slice s.AS n c).ownBlock=some q):MW s b q:=.inr (.inr (.inl (BL.trans h)))
theorem MW.oN {s:Aa} {b q n c:Nat} (h:(Value.slice s.AN n c).ownBlock=some q):MW s b q:=.inr (.inr (.inr (.inl (BL.trans h))))
theorem MW.oA {s:Aa} {b q n c:Nat} (h:(Value.slice s.AA n c).ownBlock=some q):MW s b q:=.inr (.inr (.inr (.inr (.inl (BL.trans h)))))
theorem MW.oE {s:Aa} {b q n c:Nat} (h:(Value.slice s.AE n c).ownBlock=some q):MW s b q:=.inr (.inr (.inr (.inr (.inr (.inl (BL.trans h))))))
theorem MW.oD {s:Aa} {b q n c:Nat} (h:(Value.slice s.AD n c).ownBlock=some q):MW s b q:=.inr (.inr (.inr (.inr (.inr (.inr (.inl (BL.trans h)))))))
theorem MW.oX {s:Aa} {b q n c:Nat} (h:(Value.slice s.AX n c).ownBlock=some q):MW s b q:=.inr (.inr (.inr (.inr (.inr (.inr (.inr (BL.trans h)))))))
theorem MW.CP {s:Aa} {b k n n' c c' : Nat} {A:Option Addr} {l:List JobV} (hq:∀ q,(Value.slice A n c).ownBlock=some q→(Value.slice s.AJ n' c').ownBlock=some q ∨ k≤q) {d:Nat}:∀ q,MW (s.CP A d l) b q→MW s b q ∨ k≤q:=fun q h=>by
 rcases h with h|h|h|h|h|h|h|h
 ·exact .inl (.inl h)
 ·exact (hq q (BL.trans h)).imp (fun e=>MW.oJ e) id
 ·exact .inl (MW.oS (s:=s) h)
 ·exact .inl (MW.oN (s:=s) h)
 ·exact .inl (MW.oA (s:=s) h)
 ·exact .inl (MW.oE (s:=s) h)
 ·exact .inl (MW.oD (s:=s) h)
 exact .inl (MW.oX (s:=s) h)
theorem MW.SQ {s:Aa} {b k n n' c c' : Nat} {A:Option Addr} {l:List JobV} (hq:∀ q,(Value.slice A n c).ownBlock=some q→(Value.slice s.AS n' c').ownBlock=some q ∨ k≤q) {d:Nat}:∀ q,MW (s.Nq A d l) b q→MW s b q ∨ k≤q:=fun q h=>by
 rcases h with h|h|h|h|h|h|h|h
 ·exact .inl (.inl h)
 ·exact .inl (MW.oJ (s:=s) h)
 ·exact (hq q (BL.trans h)).imp (fun e=>MW.oS e) id
 ·exact .inl (MW.oN (s:=s) h)
 ·exact .inl (MW.oA (s:=s) h)
 ·exact .inl (MW.oE (s:=s) h)
 ·exact .inl (MW.oD (s:=s) h)
 exact .inl (MW.oX (s:=s) h)
theorem MW.Ca {s:Aa} {b k n n' c c' : Nat} {A:Option Addr} {l:List NodD} (hq:∀ q,(Value.slice A n c).ownBlock=some q→(Value.slice s.AN n' c').ownBlock=some q ∨ k≤q) {d:Nat}:∀ q,MW (s.Ca A d l) b q→MW s b q ∨ k≤q:=fun q h=>by
 rcases h with h|h|h|h|h|h|h|h
 ·exact .inl (.inl h)
 ·exact .inl (MW.oJ (s:=s) h)
 ·exact .inl (MW.oS (s:=s) h)
 ·exact (hq q (BL.trans h)).imp (fun e=>MW.oN e) id
 ·exact .inl (MW.oA (s:=s) h)
 ·exact .inl (MW.oE (s:=s) h)
 ·exact .inl (MW.oD (s:=s) h)
 exact .inl (MW.oX (s:=s) h)
theorem MW.J2 {s:Aa} {b k n n' c c' : Nat} {A:Option Addr} {l:List Ac} (hq:∀ q,(Value.slice A n c).ownBlock=some q→(Value.slice s.AA n' c').ownBlock=some q ∨ k≤q) {d:Nat}:∀ q,MW (s.J2 A d l) b q→MW s b q ∨ k≤q:=fun q h=>by
 rcases h with h|h|h|h|h|h|h|h
 ·exact .inl (.inl h)
 ·exact .inl (MW.oJ (s:=s) h)
 ·exact .inl (MW.oS (s:=s) h)
 ·exact .inl (MW.oN (s:=s) h)
 ·exact (hq q (BL.trans h)).imp (fun e=>MW.oA e) id
 ·exact .inl (MW.oE (s:=s) h)
 ·exact .inl (MW.oD (s:=s) h)
 exact .inl (MW.oX (s:=s) h)
theorem MW.Bh {s:Aa} {b k n n' c c' : Nat} {A:Option Addr} {l:List EvalD} (hq:∀ q,(Value.slice A n c).ownBlock=some q→(Value.slice s.AE n' c').ownBlock=some q ∨ k≤q) {d:Nat}:∀ q,MW (s.Bh A d l) b q→MW s b q ∨ k≤q:=fun q h=>by
 rcases h with h|h|h|h|h|h|h|h
 ·exact .inl (.inl h)
 ·exact .inl (MW.oJ (s:=s) h)
 ·exact .inl (MW.oS (s:=s) h)
 ·exact .inl (MW.oN (s:=s) h)
 ·exact .inl (MW.oA (s:=s) h)
 ·exact (hq q (BL.trans h)).imp (fun e=>MW.oE e) id
 ·exact .inl (MW.oD (s:=s) h)
 exact .inl (MW.oX (s:=s) h)
theorem MW.El {s:Aa} {b k n n' c c' : Nat} {A:Option Addr} {l:List DepD} (hq:∀ q,(Value.slice A n c).ownBlock=some q→(Value.slice s.AD n' c').ownBlock=some q ∨ k≤q) {d:Nat}:∀ q,MW (s.El A d l) b q→MW s b q ∨ k≤q:=fun q h=>by
 rcases h with h|h|h|h|h|h|h|h
 ·exact .inl (.inl h)
 ·exact .inl (MW.oJ (s:=s) h)
 ·exact .inl (MW.oS (s:=s) h)
 ·exact .inl (MW.oN (s:=s) h)
 ·exact .inl (MW.oA (s:=s) h)
 ·exact .inl (MW.oE (s:=s) h)
 ·exact (hq q (BL.trans h)).imp (fun e=>MW.oD e) id
 exact .inl (MW.oX (s:=s) h)
theorem MW.GD {s:Aa} {b k n n' c c' : Nat} {A:Option Addr} {l:List SeenV} (hq:∀ q,(Value.slice A n c).ownBlock=some q→(Value.slice s.AX n' c').ownBlock=some q ∨ k≤q) {d:Nat}:∀ q,MW (s.GD A d l) b q→MW s b q ∨ k≤q:=fun q h=>by
 rcases h with h|h|h|h|h|h|h|h
 ·exact .inl (.inl h)
 ·exact .inl (MW.oJ (s:=s) h)
 ·exact .inl (MW.oS (s:=s) h)
 ·exact .inl (MW.oN (s:=s) h)
 ·exact .inl (MW.oA (s:=s) h)
 ·exact .inl (MW.oE (s:=s) h)
 ·exact .inl (MW.oD (s:=s) h)
 exact (hq q (BL.trans h)).imp (fun e=>MW.oX e) id
structure Step (w w' : World) (b:Nat) (s s' : Aa):Prop where
 ext:Ext (MW s b) w w'
 sub:∀ q,MW s' b q→MW s b q ∨ w.heap.size≤q
theorem Step.of0 {w w' : World} {b:Nat} {s:Aa} (h:Ext Nothing w w'):Step w w' b s s:=⟨h.any,fun _ h=>.inl h⟩
theorem Step.refl (w:World) (b:Nat) (s:Aa):Step w w b s s:=Step.of0 (Ext.refl _ _)
theorem Step.size {w w' : World} {b:Nat} {s s' : Aa} (h:Step w w' b s s'):w.heap.size≤w'.heap.size:=h.ext.size
theorem Step.put {S:Nat→Prop} {w w1 w2:World} {b:Nat} {s s1 s2:Aa} (h:Step w w1 b s s1) (k:Ext S w1 w2) (hS:∀ q,S q→MW s1 b q) (sub:∀ q,MW s2 b q→MW s1 b q ∨ w1.heap.size≤q):Step w w2 b s s2 :=
 ⟨h.ext.trans k (fun q hq e=>(h.sub q (hS q e)).elim id (fun e=>by omega)),fun q e=>(sub q e).elim (h.sub q) (fun e=>.inr (by have:=h.size;omega))⟩
theorem Step.trans {w w1 w2:World} {b:Nat} {s s1 s2:Aa} (h:Step w w1 b s s1) (k:Step w1 w2 b s1 s2):Step w w2 b s s2:=h.put k.ext (fun _ e=>e) k.sub
theorem Step.m0 {w w1 w2:World} {b:Nat} {s s1:Aa} (h:Step w w1 b s s1) (k:Ext Nothing w1 w2):Step w w2 b s s1:=h.trans (Step.of0 k)
theorem Step.cell {w w1:World} {b g i:Nat} {s s1 s2:Aa} (h:Step w w1 b s s1) (hg:MW s1 b g) (sub:∀ q,MW s2 b q→MW s1 b q) (u:Value):Step w (w1.setCell ⟨g,i,none⟩ u) b s s2 :=
 h.put (Ext.set1 w1 g i u) (fun q e=>by rw [show q=g from e];exact hg) (fun q e=>.inl (sub q e))
theorem Blk.step {w w' : World} {b g t:Nat} {cs:Array Value} {s s' : Aa} (h:Blk w g t cs) (k:Step w w' b s s') (hn:¬ MW s b g):Blk w' g t cs:=h.ext k.ext hn
theorem Step.not {w w' : World} {b g:Nat} {s s' : Aa} (k:Step w w' b s s') (hn:¬ MW s b g) (hg:g < w.heap.size):¬ MW s' b g:=fun e=>(k.sub g e).elim hn (fun e=>by omega)
theorem AF.mw {base b:Nat} {W:World} {s:Aa} {cm:Bool} (h:AF base W b s cm) {q:Nat} (e:MW s b q):MB base W q:=by
 have row:∀ {t sz n:Nat} {v:Value} {xs:List Value},W.ownsRow base t sz v n xs→t∈Jo→v.ownBlock=some q→MB base W q:=fun ho ht hq=>MB.Be ho ht hq
 rcases e with e|e|e|e|e|e|e|e
 ·rw [e];exact MB.GN h.blk (by decide) h.lo
 ·exact row h.own.j.own (by decide) e
 ·exact row h.own.t.own (by decide) e
 ·exact row h.own.n (by decide) e
 ·exact row h.own.a (by decide) e
 ·exact row h.own.e (by decide) e
 ·exact row h.own.d (by decide) e
 exact row h.own.x (by decide) e
theorem AF.Gy {base b:Nat} {W:World} {s:Aa} {cm:Bool} (h:AF base W b s cm) {q:Nat} (e:MW s b q):q < W.heap.size:=by
 obtain ⟨_,t,cs,hB,_⟩:=h.mw e
 exact hB.lt
theorem AF.Cv {base b g t:Nat} {W:World} {s:Aa} {cm:Bool} {cs:Array Value} (h:AF base W b s cm) (hB:Blk W g t cs) (ht:t ∉ Jo):¬ MW s b g:=fun e=>by
 obtain ⟨_,t',cs',h2,h3⟩:=h.mw e
 have h4:some (Obj.cells cs t (0,0))=some (Obj.cells cs' t' (0,0)):=hB.symm.trans h2
 injection h4 with h4
 injection h4 with _ h5 _
 exact ht (h5 ▸ h3)
theorem zS {P:Program} {ops:Array Oper} {Q:Exit→Act→World→Prop} {a:Act} {w:World} {S:World→Prop} {id:Nat} (hf:P.follows Departure.mixedOrders=true) (h:wpAnyH P .any ops Q S ops.size (Array.replicate ops.size false) a w.drew):Code.wp P (Code.region id ops true) Q a w :=
 wp_region_held (S:=S) hf h
theorem cell_set_ne {w:World} {g i j:Nat} {u v:Value} (h:w.cell? ⟨g,j,none⟩=some v) (hij:i ≠ j) {t:TypeId} {cs:Array Value} (hB:Blk w g t cs):(w.setCell ⟨g,i,none⟩ u).cell? ⟨g,j,none⟩=some v:=by
 have h1:=(hB.Bg i u).cell j
 rw [h1,Array.getElem?_setIfInBounds_ne hij,← hB.cell]
 exact h
end
end
end Go.Proofs.YtccekmeifanipaaGreat
