/- Parts of the proof: FsmX FsmD FsmWf Mach MPutL -/
import Derived.Test.YtccekmeifanipaaGreatT09
import Derived.Test.YtccekmeifanipaaGreatT03
namespace Go.Proofs.YtccekmeifanipaaGreat
set_option linter.unusedVariables false
set_option linter.unusedSimpArgs false
set_option linter.unusedSectionVars false
section
open Go.RowKit
namespace Fsm
structure Len (s t:Ab):Prop where
 j:t.jobs.length=s.jobs.length
 n:t.nodes.length=s.nodes.length
 d:t.deploys.length=s.deploys.length
 x:t.seen.length=s.seen.length
theorem Len.refl (s:Ab):Len s s:=⟨rfl,rfl,rfl,rfl⟩
theorem Len.trans {s t u:Ab} (h:Len s t) (k:Len t u):Len s u:=⟨k.j.trans h.j,k.n.trans h.n,k.d.trans h.d,k.x.trans h.x⟩
theorem Ej {α:Type} {f:Ab→α→Ab} (h:∀ s a,Len s (f s a)):∀ (l:List α) (s:Ab),Len s (l.foldl f s)
 | [],s=>Len.refl s
 | a :: r,s=>(h s a).trans (Ej h r (f s a))
theorem CU (s:Ab) (j:Int):Len s (eval s j):=by unfold eval;split <;> exact ⟨rfl,rfl,rfl,rfl⟩
theorem GD (s:Ab):Len s (came s):=⟨rfl,rfl,rfl,rfl⟩
theorem EQ (s:Ab):Len s (system s):=Ej (fun t j=>by split;exact CU t j.id;exact Len.refl t) s.jobs s
theorem GR (s:Ab):Len s (looked s):=Ej (fun t i=>by
 unfold AF
 split
 ·exact Len.refl t
 split
 ·exact Len.refl t
 split
 ·exact ⟨rfl,rfl,List.length_set,rfl⟩
 exact Len.refl t) _ s
theorem JG (s:Ab) (node:Int):Len s (lost s node):=Ej (fun t i=>by
 unfold AR
 split
 ·exact Len.refl t
 rename_i a _
 split
 ·exact Len.trans (t:={ t with allocs:=t.allocs.set i { a with state:=6 } }) ⟨rfl,rfl,rfl,rfl⟩ (CU _ _)
 exact Len.refl t) _ s
theorem K8 (n:NodD) (z:Ab × Bool) (r:Int × Int):Len z.1 (report n z r).1:=by
 unfold report
 split
 ·exact Len.refl _
 rename_i a _
 split
 ·exact Len.refl _
 have h1:Len z.1 ({ z.1 with allocs:=Ap (fun a=>a.id == r.1) (fun a=>{ a with state:=r.2 }) z.1.allocs }:Ab):=⟨rfl,rfl,rfl,rfl⟩
 have h2:=h1.trans (CU _ a.job)
 simp only
 split
 ·exact h2
 split
 ·exact h1
 split
 ·exact h1
 exact ⟨h2.j,h2.n,by simp only [DJ];exact h2.d,h2.x⟩
theorem F5 (n:NodD):∀ (l:List (Int × Int)) (z:Ab × Bool),Len z.1 (l.foldl (report n) z).1
 | [],z=>Len.refl _
 | r :: l,z=>(K8 n z r).trans (F5 n l (report n z r))
theorem FI (j:Aq) (n:NodD):∀ (l:List Ac) (s t:Ab),Ck j n l s=some t→Len s t
 | [],s,t,e=>by cases e;exact Len.refl _
 | x :: r,s,t,e=>by
  unfold Ck at e
  rw [List.foldl_cons,show Bc j n (some s) x=if EI s j n x then some (placed s j n x) else none from rfl] at e
  split at e
  ·exact Len.trans (t:=placed s j n x) ⟨rfl,rfl,rfl,rfl⟩ (FI j n r (placed s j n x) t e)
  rw [Cm] at e;cases e
theorem K7 (s:Ab) (j:Aq) (node:Int) (l:List Ac):Len s (places s j node l).1:=by
 unfold places
 split
 ·exact Len.refl _
 split
 ·exact Len.refl _
 split
 ·exact Len.refl _
 rename_i t ht
 have h1:=FI _ _ _ _ _ ht
 split
 ·exact Len.refl _
 exact h1.trans ⟨rfl,rfl,rfl,rfl⟩
theorem Nz (s:Ab) (c:BV):Len s (plan s c).1:=by
 unfold plan
 simp only
 split
 ·rename_i j e _ _
  split
  ·exact Len.refl _
  have h2:∀ (l:List Int) (z:Ab × Bool),Len z.1 (l.foldl (fun z n=>((places z.1 j n c.plan.places).1,z.2 && (places z.1 j n c.plan.places).2)) z).1:=fun l=>by
   induction l with
   | nil=>exact fun z=>Len.refl _
   | cons n r ih=>exact fun z=>(K7 z.1 j n c.plan.places).trans (ih ((places z.1 j n c.plan.places).1,z.2 && (places z.1 j n c.plan.places).2))
  have h3:=h2 (BK c.plan.places) ({ s with allocs:=stops c.plan.job s.allocs c.plan.stops },true)
  split
  ·exact ⟨h3.j,h3.n,h3.d,h3.x⟩
  exact ⟨h3.j,h3.n,h3.d,h3.x⟩
 exact Len.refl _
structure Few (s t:Ab):Prop where
 j:t.jobs.length≤s.jobs.length+1
 n:t.nodes.length≤s.nodes.length+1
 d:t.deploys.length≤s.deploys.length+1
 x:t.seen.length≤s.seen.length
theorem Len.few {s t:Ab} (h:Len s t):Few s t:=⟨by have:=h.j;omega,by have:=h.n;omega,by have:=h.d;omega,by have:=h.x;omega⟩
theorem Few.len {s t u:Ab} (h:Few s t) (k:Len t u):Few s u:=⟨by have:=h.j;have:=k.j;omega,by have:=h.n;have:=k.n;omega,by have:=h.d;have:=k.d;omega,by have:=h.x;have:=k.x;omega⟩
theorem FU (s:Ab) (j:Aq):Few s (begins s j):=by
 unfold begins
 simp only
 refine Few.len ?_ (CU _ _)
 split
 ·exact Few.len (t:={ s with jobs:=Ak Aq.id j s.jobs,deploys:=Ak DepD.job ⟨j.id,j.ver,1,s.index⟩ s.deploys }) ⟨Cr _,by simp,Cr _,by simp⟩ (GR _)
 exact ⟨Cr _,by simp,by simp,by simp⟩
theorem Jy (s:Ab) (n:NodD):Few s (joins s n):=by
 unfold joins
 exact Few.len (t:={ s with nodes:=Ak NodD.id n s.nodes }) ⟨by simp,Cr _,by simp,by simp⟩ (((JG _ _).trans (EQ _)).trans (GD _))
theorem Few.refl (s:Ab):Few s s:=(Len.refl s).few
theorem FR (s:Ab) (p:NodD→Bool) (f:NodD→NodD):Len s { s with nodes:=Ap p f s.nodes }:=⟨rfl,DJ _,rfl,rfl⟩
theorem GM (s:Ab) (p:DepD→Bool) (f:DepD→DepD):Len s { s with deploys:=Ap p f s.deploys }:=⟨rfl,rfl,DJ _,rfl⟩
theorem Len.pre {s t u:Ab} (h:Len s t) (k:Few t u):Few s u:=⟨by have:=h.j;have:=k.j;omega,by have:=h.n;have:=k.n;omega,by have:=h.d;have:=k.d;omega,by have:=h.x;have:=k.x;omega⟩
theorem ER (s:Ab) (c:BV):Few s (command s c).1:=by
 unfold command
 repeat' split
 ·exact Few.refl s
 ·unfold BZ
  split
  ·exact Few.refl s
  split
  ·split
   ·exact Few.refl s
   exact FU _ _
  split
  ·exact Few.refl s
  exact FU _ _
 ·unfold cancel
  split
  ·exact Few.refl s
  exact (Len.trans (t:={ s with jobs:=Ap (fun j=>j.id == c.job.id) (fun j=>{ j with stopped:=true }) s.jobs,deploys:=Ap (fun d=>d.job == c.job.id) (fun d=>if d.state == 1 then { d with state:=3 } else d) s.deploys }) ⟨DJ _,rfl,DJ _,rfl⟩ (CU _ _)).few
 ·unfold register
  split
  ·exact Few.refl s
  split
  ·exact Jy _ _
  split
  ·exact Few.refl s
  split
  ·split <;> exact Few.refl s
  exact Jy _ _
 ·unfold Ec
  split
  ·exact Few.refl s
  split
  ·exact Few.refl s
  split
  ·exact Few.refl s
  split
  ·exact Few.refl s
  simp only
  have h0:=FR s (fun n=>n.id == c.node.id) (fun n=>{ n with seq:=c.node.seq })
  have h1:Len s (looked (c.reports.foldl (report c.node) (({ s with nodes:=Ap (fun n=>n.id == c.node.id) (fun n=>{ n with seq:=c.node.seq }) s.nodes }:Ab),false)).1) :=
   (h0.trans (F5 c.node c.reports (({ s with nodes:=Ap (fun n=>n.id == c.node.id) (fun n=>{ n with seq:=c.node.seq }) s.nodes }:Ab),false))).trans (GR _)
  split
  ·exact (h1.trans (GD _)).few
  exact h1.few
 ·unfold down
  split
  ·exact Few.refl s
  split
  ·exact Few.refl s
  split
  ·exact Few.refl s
  exact (((FR s (fun n=>n.id == c.node.id) (fun n=>{ n with up:=false,epoch:=wrap64 (n.epoch+1) })).trans (JG _ _)).trans (EQ _)).few
 ·unfold drain
  split
  ·exact Few.refl s
  simp only
  have h1:Len s (system (s.allocs.foldl (fun t a=>if a.node == c.node.id && !Bv a then eval t a.job else t) { s with nodes:=Ap (fun n=>n.id == c.node.id) (fun n=>{ n with drain:=c.node.drain }) s.nodes })) :=
   ((FR s (fun n=>n.id == c.node.id) (fun n=>{ n with drain:=c.node.drain })).trans (Ej (f:=fun t (a:Ac)=>if a.node == c.node.id && !Bv a then eval t a.job else t) (fun t a=>by split;exact CU _ _;exact Len.refl _) s.allocs _)).trans (EQ _)
  split
  ·exact h1.few
  exact (h1.trans (GD _)).few
 ·exact (Nz s c).few
 ·unfold revert
  split
  ·exact Few.refl s
  split
  ·exact Few.refl s
  split
  ·exact Few.refl s
  simp only
  split
  ·exact ((GM _ _ _).trans (CU _ _)).few
  split
  ·exact ((GM _ _ _).trans (CU _ _)).few
  split
  ·exact Few.refl s
  exact (GM s _ _).pre (FU _ _)
 exact Few.refl s
theorem Nu (s:Ab) (ix:Int) (c:BV):(apply s ix c).1.jobs.length≤s.jobs.length+1∧(apply s ix c).1.nodes.length≤s.nodes.length+1∧(apply s ix c).1.deploys.length≤s.deploys.length+1∧(apply s ix c).1.seen.length≤s.seen.length+1:=by
 unfold apply
 simp only
 obtain ⟨a,b,c',d⟩:=ER { s with index:=ix } c
 split
 ·exact ⟨a,b,c',Nat.le_succ_of_le d⟩
 split
 ·exact ⟨by simp [no],by simp [no],by simp [no],by simp [no]⟩
 split
 ·split
  ·exact ⟨by simp [no],by simp [no],by simp [no],by simp [no]⟩
  exact ⟨by simp,by simp,by simp,by simp⟩
 exact ⟨a,b,c',Nat.le_trans (Cr _) (Nat.succ_le_succ d)⟩
def StS (s:Ab):Prop:=(s.stable.map Aq.id).Pairwise (· < ·)
theorem StS.ss {s t:Ab} (h:StS s) (k:t.stable=s.stable):StS t:=by unfold StS;rw [k];exact h
theorem MG:∀ {l m:List Int},l.Nodup→(∀ x∈l,x∈m)→l.length≤m.length
 | [],_,_,_=>by simp
 | x :: r,m,h,hm=>by
  rw [List.nodup_cons] at h
  have hx:=hm x (List.mem_cons_self ..)
  have h1:=MG (l:=r) (m:=m.erase x) h.2 (fun y hy=>(List.mem_erase_of_ne (by rintro rfl;exact h.1 hy)).2 (hm y (List.mem_cons_of_mem _ hy)))
  rw [List.length_erase_of_mem hx] at h1
  have:0 < m.length:=List.length_pos_of_mem hx
  simp only [List.length_cons]
  omega
theorem L8 {s:Ab} (h:StS s) (ht:StT s):s.stable.length≤s.jobs.length:=by
 have:=MG (l:=s.stable.map Aq.id) (m:=s.jobs.map Aq.id) (List.Pairwise.imp (fun e=>by omega) h) (fun x hx=>by
  obtain ⟨y,hy,rfl⟩:=List.mem_map.1 hx
  obtain ⟨j,hj,_⟩:=ht y hy
  obtain ⟨a,b⟩:=Fj hj
  exact a ▸ List.mem_map_of_mem b)
 simpa using this
end Fsm
end
section
open Go.RowKit
namespace Fsm
def NOk (s:Ab):Prop:=∀ n∈s.nodes,DL n=true∧0≤n.seq
theorem NOk.same {s t:Ab} (h:NOk s) (e:t.nodes=s.nodes):NOk t:=fun n hn=>h n (by rw [← e];exact hn)
theorem NOk.put {s t:Ab} (h:NOk s) (n:NodD) (e:t.nodes=Ak NodD.id n s.nodes) (h1:DL n=true) (h2:0≤n.seq):NOk t:=fun m hm=>by
 rw [e] at hm
 rcases putL_mem hm with rfl|⟨hm,_⟩
 ·exact ⟨h1,h2⟩
 exact h m hm
end Fsm
end
section
open Go.RowKit
namespace Fsm
def cnt (j:Aq):Prop:=j.groups.length≤2∧∀ g∈j.groups,0≤g.count∧g.count≤4
def Up {α:Type} (key:α→Int) (l:List α):Prop:=(l.map key).Pairwise (· < ·)
structure Wf (s:Ab):Prop where
 j:Up Aq.id s.jobs
 t:Up Aq.id s.stable
 n:Up NodD.id s.nodes
 e:Up EvalD.job s.evals
 d:Up DepD.job s.deploys
 x:Up Co.client s.seen
 es:∀ e∈s.evals,e.state=1 ∨ e.state=2 ∨ e.state=3
 jc:∀ j∈s.jobs,cnt j
 tc:∀ j∈s.stable,cnt j
theorem Up.put {α:Type} {key:α→Int} {l:List α} (h:Up key l) (x:α):Up key (Ak key x l):=by
 unfold Up;rw [Em];exact EX h
theorem Up.eq {α:Type} {key:α→Int} {l m:List α} (h:Up key l) (e:m.map key=l.map key):Up key m:=by
 unfold Up;rw [e];exact h
theorem Wf.same {s u:Ab} (h:Wf s) (h1:u.jobs=s.jobs) (h2:u.stable=s.stable) (h3:u.nodes=s.nodes) (h4:u.evals=s.evals) (h5:u.deploys=s.deploys) (h6:u.seen=s.seen):Wf u :=
 ⟨by rw [h1];exact h.j,by rw [h2];exact h.t,by rw [h3];exact h.n,by rw [h4];exact h.e,by rw [h5];exact h.d,by rw [h6];exact h.x,by rw [h4];exact h.es,by rw [h1];exact h.jc,by rw [h2];exact h.tc⟩
theorem Wf.ix {s:Ab} (h:Wf s) (i:Int):Wf { s with index:=i }:=h.same rfl rfl rfl rfl rfl rfl
theorem Cx {s:Ab} (h:Wf s) (k:Int):Wf (eval s k):=by
 unfold eval
 split
 ·exact h
 exact ⟨h.j,h.t,h.n,h.e.put _,h.d,h.x,DK h.es (.inl rfl),h.jc,h.tc⟩
theorem Kz {s:Ab} (h:Wf s):Wf (came s):=by
 refine ⟨h.j,h.t,h.n,h.e.eq ?_,h.d,h.x,?_,h.jc,h.tc⟩
 ·show (s.evals.map _).map _=_
  rw [List.map_map]
  refine List.map_congr_left (fun e _=>?_)
  show (Br s.index e).job=e.job
  unfold Br;split <;> rfl
 intro e he
 obtain ⟨y,hy,rfl⟩:=List.mem_map.1 (show e∈s.evals.map _ from he)
 unfold Br
 split
 ·exact .inl rfl
 exact h.es y hy
theorem F7 {α:Type} {f:Ab→α→Ab} (h:∀ s a,Wf s→Wf (f s a)):∀ (l:List α) {s:Ab},Wf s→Wf (l.foldl f s)
 | [],_,hs=>hs
 | a :: r,s,hs=>F7 h r (h s a hs)
theorem Gy {s:Ab} (h:Wf s):Wf (system s):=F7 (fun t j ht=>by split;exact Cx ht _;exact ht) _ h
theorem Kr {α:Type} {key:α→Int}:∀ {l:List α} {i:Nat} {x y:α},l[i]? = some x→key y=key x→(l.set i y).map key=l.map key
 | [],i,x,y,h,_=>by simp at h
 | a :: r,0,x,y,h,e=>by simp at h;subst h;simp [e]
 | a :: r,i+1,x,y,h,e=>by
  rw [List.set_cons_succ,List.map_cons,List.map_cons,Kr (l:=r) (by simpa using h) e]
theorem O3 {s:Ab} {k:Int} {j:Aq} (e:AU s k=some j):j∈s.jobs:=List.mem_of_find?_eq_some e
theorem MS {s:Ab} (h:Wf s) (i:Nat):Wf (AF s i):=by
 unfold AF
 split
 ·exact h
 rename_i d hd
 split
 ·exact h
 rename_i j hj
 split
 ·exact ⟨h.j,h.t.put _,h.n,h.e,h.d.eq (Kr hd rfl),h.x,h.es,h.jc,DK h.tc (h.jc _ (O3 hj))⟩
 exact h
theorem JD {s:Ab} (h:Wf s):Wf (looked s):=F7 (fun t i ht=>MS ht i) _ h
theorem Kc {s:Ab} (h:Wf s) {j:Aq} (hc:cnt j):Wf { s with jobs:=Ak Aq.id j s.jobs } :=
 ⟨h.j.put _,h.t,h.n,h.e,h.d,h.x,h.es,DK h.jc hc,h.tc⟩
theorem MX {s:Ab} (h:Wf s) (d:DepD):Wf { s with deploys:=Ak DepD.job d s.deploys } :=
 ⟨h.j,h.t,h.n,h.e,h.d.put _,h.x,h.es,h.jc,h.tc⟩
theorem IV {s:Ab} (h:Wf s) (n:NodD):Wf { s with nodes:=Ak NodD.id n s.nodes } :=
 ⟨h.j,h.t,h.n.put _,h.e,h.d,h.x,h.es,h.jc,h.tc⟩
theorem MO {s:Ab} (h:Wf s) (x:Co):Wf { s with seen:=Ak Co.client x s.seen } :=
 ⟨h.j,h.t,h.n,h.e,h.d,h.x.put _,h.es,h.jc,h.tc⟩
theorem Fh {s:Ab} (h:Wf s) {j:Aq} (hc:cnt j):Wf (begins s j):=by
 unfold begins
 simp only
 split
 ·exact Cx (JD (MX (Kc h hc) _)) _
 exact Cx (Kc h hc) _
theorem DD {s:Ab} (h:Wf s) (l:List Ac):Wf { s with allocs:=l }:=h.same rfl rfl rfl rfl rfl rfl
theorem KY (node:Int) {s:Ab} (h:Wf s) (i:Nat):Wf (AR node s i):=by
 unfold AR
 split
 ·exact h
 split
 ·exact Cx (DD h _) _
 exact h
theorem F4 {s:Ab} (h:Wf s) (node:Int):Wf (lost s node):=F7 (fun t i ht=>KY node ht i) _ h
theorem Lh {s:Ab} (h:Wf s) (n:NodD):Wf (joins s n):=Kz (Gy (F4 (IV h n) _))
theorem Ga {s:Ab} (h:Wf s) (p:DepD→Bool) (f:DepD→DepD) (hf:∀ d,(f d).job=d.job):Wf { s with deploys:=Ap p f s.deploys } :=
 ⟨h.j,h.t,h.n,h.e,h.d.eq (DF p f DepD.job hf _),h.x,h.es,h.jc,h.tc⟩
theorem Ep {s:Ab} (h:Wf s) (p:NodD→Bool) (f:NodD→NodD) (hf:∀ d,(f d).id=d.id):Wf { s with nodes:=Ap p f s.nodes } :=
 ⟨h.j,h.t,h.n.eq (DF p f NodD.id hf _),h.e,h.d,h.x,h.es,h.jc,h.tc⟩
theorem Pe {s:Ab} (h:Wf s) (p:Aq→Bool) (f:Aq→Aq) (hf:∀ d,(f d).id=d.id∧(f d).groups=d.groups):Wf { s with jobs:=Ap p f s.jobs } :=
 ⟨h.j.eq (DF p f Aq.id (fun d=>(hf d).1) _),h.t,h.n,h.e,h.d,h.x,h.es,Gw (fun y hy=>by unfold cnt;rw [(hf y).2];exact hy) h.jc,h.tc⟩
theorem KX {s:Ab} (h:Wf s) (p:EvalD→Bool) (f:EvalD→EvalD) (hf:∀ d,(f d).job=d.job) (hs:∀ d,(d.state=1 ∨ d.state=2 ∨ d.state=3)→((f d).state=1 ∨ (f d).state=2 ∨ (f d).state=3)):Wf { s with evals:=Ap p f s.evals } :=
 ⟨h.j,h.t,h.n,h.e.eq (DF p f EvalD.job hf _),h.d,h.x,Gw hs h.es,h.jc,h.tc⟩
theorem JH (n:NodD) {z:Ab × Bool} (h:Wf z.1) (r:Int × Int):Wf (report n z r).1:=by
 unfold report
 split
 ·exact h
 split
 ·exact h
 simp only
 split
 ·exact Cx (DD h _) _
 split
 ·exact DD h _
 split
 ·exact DD h _
 refine Ga (Cx (DD h _) _) _ _ (fun d=>?_)
 split <;> rfl
theorem Ie (n:NodD):∀ (l:List (Int × Int)) {z:Ab × Bool},Wf z.1→Wf (l.foldl (report n) z).1
 | [],_,h=>h
 | r :: l,z,h=>Ie n l (JH n h r)
theorem ES (j:Aq) (n:NodD):∀ (l:List Ac) (s u:Ab),Ck j n l s=some u→∃ m k,u={ s with allocs:=m,next:=k }
 | [],s,u,h=>by
  have:s=u:=by simpa [Ck] using h
  exact ⟨s.allocs,s.next,this.symm⟩
 | x :: r,s,u,h=>by
  unfold Ck at h
  rw [List.foldl_cons] at h
  simp only [Bc] at h
  split at h
  ·obtain ⟨m,k,e⟩:=ES j n r _ u h
   exact ⟨m,k,by rw [e];rfl⟩
  exact absurd h (by rw [Cm];simp)
theorem Ku (s:Ab) (j:Aq) (node:Int) (l:List Ac):∃ m k,(places s j node l).1={ s with allocs:=m,next:=k }:=by
 unfold places
 split
 ·exact ⟨s.allocs,s.next,rfl⟩
 split
 ·exact ⟨s.allocs,s.next,rfl⟩
 split
 ·exact ⟨s.allocs,s.next,rfl⟩
 rename_i u hu
 split
 ·exact ⟨s.allocs,s.next,rfl⟩
 obtain ⟨m,k,e⟩:=ES j _ _ _ _ hu
 subst e
 exact ⟨_,k,rfl⟩
theorem Nt {s:Ab} (h:Wf s) (j:Aq) (node:Int) (l:List Ac):Wf (places s j node l).1:=by
 obtain ⟨m,k,e⟩:=Ku s j node l
 rw [e]
 exact h.same rfl rfl rfl rfl rfl rfl
theorem IJ (j:Aq) (q:List Ac):∀ (l:List Int) {z:Ab × Bool},Wf z.1→Wf (l.foldl (fun z n=>let y:=places z.1 j n q;(y.1,z.2 && y.2)) z).1
 | [],_,h=>h
 | n :: l,z,h=>IJ j q l (Nt h j n q)
theorem P9 {s:Ab} (h:Wf s) (c:BV):Wf (plan s c).1:=by
 unfold plan
 simp only
 split
 ·split
  ·exact h
  have h1:Wf ({ s with allocs:=stops c.plan.job s.allocs c.plan.stops }:Ab):=h.same rfl rfl rfl rfl rfl rfl
  have h2:=IJ (z:=(({ s with allocs:=stops c.plan.job s.allocs c.plan.stops }:Ab),true)) ‹Aq› c.plan.places (BK c.plan.places) h1
  split
  ·exact KX h2 _ _ (fun _=>rfl) (fun _ hd=>hd)
  exact KX h2 _ _ (fun _=>rfl) (fun _ _=>by simp only;split <;> simp)
 exact h
theorem Gt {j:Aq} (h:Dw j=true):cnt j:=by
 simp only [Dw,Bool.and_eq_true,decide_eq_true_eq,List.all_eq_true,BG] at h
 exact ⟨h.1.2,fun g hg=>⟨(h.2 g hg).1.1.1.1.1.1,(h.2 g hg).1.1.1.1.1.2⟩⟩
theorem FT {s:Ab} (h:Wf s) (c:BV):Wf (command s c).1:=by
 unfold command
 repeat' split
 ·exact h
 ·unfold BZ
  split
  ·exact h
  rename_i hok
  have hok' : Dw c.job=true:=by simpa using hok
  have hc:=Gt hok'
  split
  ·split
   ·exact h
   exact Fh h hc
  split
  ·exact h
  exact Fh h hc
 ·unfold cancel
  split
  ·exact h
  exact Cx (Ga (Pe h (fun j=>j.id == c.job.id) (fun j=>{ j with stopped:=true }) (fun _=>⟨rfl,rfl⟩)) _ _ (fun d=>by split <;> rfl)) _
 ·unfold register
  split
  ·exact h
  split
  ·exact Lh h _
  split
  ·exact h
  split
  ·split <;> exact h
  exact Lh h _
 ·unfold Ec
  split
  ·exact h
  split
  ·exact h
  split
  ·exact h
  split
  ·exact h
  simp only
  have h1:=JD (Ie c.node c.reports (z:=({ s with nodes:=Ap (fun n=>n.id == c.node.id) (fun n=>{ n with seq:=c.node.seq }) s.nodes },false)) (Ep h _ _ (fun _=>rfl)))
  split
  ·exact Kz h1
  exact h1
 ·unfold down
  split
  ·exact h
  split
  ·exact h
  split
  ·exact h
  exact Gy (F4 (Ep h (fun n=>n.id == c.node.id) (fun n=>{ n with up:=false,epoch:=wrap64 (n.epoch+1) }) (fun _=>rfl)) _)
 ·unfold drain
  split
  ·exact h
  simp only
  have h1:Wf (system (s.allocs.foldl (fun t a=>if a.node == c.node.id && !Bv a then eval t a.job else t) { s with nodes:=Ap (fun n=>n.id == c.node.id) (fun n=>{ n with drain:=c.node.drain }) s.nodes })) :=
   Gy (F7 (f:=fun t (a:Ac)=>if a.node == c.node.id && !Bv a then eval t a.job else t) (fun t a ht=>by split;exact Cx ht _;exact ht) s.allocs (Ep h (fun n=>n.id == c.node.id) (fun n=>{ n with drain:=c.node.drain }) (fun _=>rfl)))
  split
  ·exact h1
  exact Kz h1
 ·exact P9 h c
 ·unfold revert
  split
  ·exact h
  split
  ·exact h
  split
  ·exact h
  simp only
  have hf:Wf ({ s with deploys:=Ap (fun d=>d.job == (‹Aq› : Aq).id) (fun d=>{ d with state:=3 }) s.deploys }:Ab):=Ga h _ _ (fun _=>rfl)
  split
  ·exact Cx hf _
  rename_i x hx
  split
  ·exact Cx hf _
  split
  ·exact h
  exact Fh hf (h.tc x (List.mem_of_find?_eq_some hx))
 exact h
theorem Pd {s:Ab} (h:Wf s) (ix:Int) (c:BV):Wf (apply s ix c).1:=by
 have h1:=h.ix ix
 unfold apply
 simp only
 split
 ·exact FT h1 c
 split
 ·exact h1
 split
 ·split <;> exact h1
 exact MO (FT h1 c) _
theorem QD:Wf new:=⟨by simp [Up,new],by simp [Up,new],by simp [Up,new],by simp [Up,new],by simp [Up,new],by simp [Up,new],by simp [new],by simp [new],by simp [new]⟩
theorem Ez {α:Type} {key:α→Int} {x y:α}:∀ {l:List α} {i:Nat},Up key l→l[i]? = some y→(∀ k < i,∀ z,l[k]? = some z→key z < key x)→key y=key x→Ak key x l=l.set i x
 | [],i,_,h,_,_=>by simp at h
 | a :: r,0,hu,h,_,e=>by
  simp at h;subst h
  unfold Ak
  rw [if_pos (by omega)]
  unfold Up at hu
  rw [List.map_cons,List.pairwise_cons] at hu
  rw [List.filter_cons_of_neg (by simp [e]),List.set_cons_zero]
  congr 1
  refine List.filter_eq_self.2 (fun z hz=>?_)
  have:=hu.1 (key z) (List.mem_map_of_mem hz)
  simp;omega
 | a :: r,i+1,hu,h,hb,e=>by
  have h0:=hb 0 (by omega) a rfl
  unfold Ak
  rw [if_neg (by omega),List.set_cons_succ]
  unfold Up at hu
  rw [List.map_cons,List.pairwise_cons] at hu
  rw [Ez (l:=r) hu.2 (by simpa using h) (fun k hk z hz=>hb (k+1) (by omega) z (by simpa using hz)) e]
theorem Dk {α:Type} {key:α→Int} {x y:α}:∀ {l:List α} {i:Nat},Up key l→l[i]? = some y→(∀ k < i,∀ z,l[k]? = some z→key z < key x)→key x < key y→Ak key x l=l.take i ++ x :: l.drop i
 | [],i,_,h,_,_=>by simp at h
 | a :: r,0,hu,h,_,e=>by
  simp at h;subst h
  unfold Ak
  rw [if_pos (by omega)]
  unfold Up at hu
  rw [List.map_cons,List.pairwise_cons] at hu
  rw [List.take_zero,List.drop_zero,List.nil_append]
  congr 1
  refine List.filter_eq_self.2 (fun z hz=>?_)
  rcases List.mem_cons.1 hz with rfl|hz
  ·simp;omega
  have:=hu.1 (key z) (List.mem_map_of_mem hz)
  simp;omega
 | a :: r,i+1,hu,h,hb,e=>by
  have h0:=hb 0 (by omega) a rfl
  unfold Ak
  rw [if_neg (by omega)]
  unfold Up at hu
  rw [List.map_cons,List.pairwise_cons] at hu
  rw [Dk (l:=r) hu.2 (by simpa using h) (fun k hk z hz=>hb (k+1) (by omega) z (by simpa using hz)) e]
  simp
theorem EC {α:Type} {key:α→Int} {x:α}:∀ {l:List α},(∀ z∈l,key z < key x)→Ak key x l=l ++ [x]
 | [],_=>rfl
 | a :: r,h=>by
  have h0:=h a (List.mem_cons_self ..)
  unfold Ak
  rw [if_neg (by omega),EC (l:=r) (fun z hz=>h z (List.mem_cons_of_mem _ hz))]
  rfl
end Fsm
end
section
open Go.RowKit
abbrev Aa.Kj (s:Aa) (cm:Bool):Array Value:=#[.int .i64 s.index,.int .i64 s.next,.slice s.AJ s.nJ s.cJ,.slice s.AS s.nS s.cS,.slice s.AN s.nN s.cN,.slice s.AA s.nA s.cA,.slice s.AE s.nE s.cE,.slice s.AD s.nD s.cD,.slice s.AX s.nX s.cX,.int .i64 s.index,.bool cm]
abbrev Ip:List TypeId:=[39,66,43,55,68,74,89,79]
theorem Ext.any {S:Nat→Prop} {w w' : World} (h:Ext Nothing w w'):Ext S w w':=h.mono (fun _ _ e=>e.elim)
def MB (base:Nat) (w:World) (b:Nat):Prop:=base≤b∧∃ t cs,Blk w b t cs∧t∈Ip
structure Az (base:Nat) (W:World) (b:Nat) (s:Aa) (cm:Bool):Prop where
 blk:Blk W b 79 (s.Kj cm)
 own:Aw base W s
 lo:base≤b
theorem MB.Bd {w:World} {base e sz n g:Nat} {v:Value} {xs:List Value} (h:w.ownsRow base e sz v n xs) (he:e∈Ip) (hv:v.ownBlock=some g):MB base w g:=by
 obtain ⟨cs,hcs⟩:=CY h hv
 exact ⟨BM h hv,e,cs,hcs,he⟩
theorem MB.FW {w:World} {base g t:Nat} {cs:Array Value} (h:Blk w g t cs) (ht:t∈Ip) (hb:base≤g):MB base w g:=⟨hb,t,cs,h,ht⟩
theorem MB.back {w w' : World} {base b:Nat} (hx:Ext (MB base w) w w') (h:MB base w' b) (hb:b < w.heap.size):MB base w b:=by
 by_cases hn:MB base w b
 ·exact hn
 obtain ⟨h1,t,cs,h2,h3⟩:=h
 exact ⟨h1,t,cs,(hx.block b hb hn).symm.trans h2,h3⟩
theorem Ext.mb {S:Nat→Prop} {w w1 w2:World} {base:Nat} (h:Ext (MB base w) w w1) (k:Ext S w1 w2) (hr:∀ b,S b→MB base w1 b):Ext (MB base w) w w2:=h.trans k (fun b hb e=>(hr b e).back h hb)
theorem Ext.m2 {w w1 w2:World} {base:Nat} (h:Ext (MB base w) w w1) (k:Ext (MB base w1) w1 w2):Ext (MB base w) w w2:=h.mb k (fun _ e=>e)
theorem Ext.m0 {w w1 w2:World} {base:Nat} (h:Ext (MB base w) w w1) (k:Ext Nothing w1 w2):Ext (MB base w) w w2:=h.mb k (fun _ e=>e.elim)
theorem Ext.m1 {w w1:World} {base:Nat} (k:Ext Nothing w w1):Ext (MB base w) w w1:=k.mono (fun _ _ e=>e.elim)
section
variable {base b:Nat} {W W' : World} {s:Aa} {cm:Bool} {S:Nat→Prop}
theorem Az.keep (h:Az base W b s cm) (hx:Ext S W W') (hb:¬ S b) (hS:Apart W S El):Az base W' b s cm:=⟨h.blk.ext hx hb,h.own.keep hx hS,h.lo⟩
theorem Az.e0 (h:Az base W b s cm) (hx:Ext Nothing W W'):Az base W' b s cm:=h.keep hx (fun e=>e) Apart.none
theorem Az.mb (h:Az base W b s cm):MB base W b:=MB.FW h.blk (by decide) h.lo
theorem Az.put (h:Az base W b s cm) (i:Nat) (u:Value) {s' : Aa} {cm' : Bool} (ho:Aw base W s') (he:(s.Kj cm).setIfInBounds i u=s'.Kj cm'):Az base (W.setCell ⟨b,i,none⟩ u) b s' cm' :=
 ⟨he ▸ h.blk.Bi i u,ho.keep (Ext.set1 W b i u) (Apart.one h.blk (by decide)),h.lo⟩
variable {P:Program} {ops:Array Oper} {Q:Exit→Act→World→Prop} {a:Act} {o:Oper} {rest:List Oper}
theorem BL {A:Option Addr} {n n' c c' : Nat}:(Value.slice A n c).ownBlock=(Value.slice A n' c').ownBlock:=by cases A <;> rfl
def MW (s:Aa) (b q:Nat):Prop:=q=b ∨ (vJ s).ownBlock=some q ∨ (vS s).ownBlock=some q ∨ (vN s).ownBlock=some q ∨ (vA s).ownBlock=some q ∨ (vE s).ownBlock=some q ∨ (vD s).ownBlock=some q ∨ (vX s).ownBlock=some q
theorem MW.oJ {s:Aa} {b q n c:Nat} (h:(Value.slice s.AJ n c).ownBlock=some q):MW s b q:=.inr (.inl (BL.trans h))
theorem MW.oS {s:Aa} {b q n c:Nat} (h:(Value.slice s.AS n c).ownBlock=some q):MW s b q:=.inr (.inr (.inl (BL.trans h)))
theorem MW.oN {s:Aa} {b q n c:Nat} (h:(Value.slice s.AN n c).ownBlock=some q):MW s b q:=.inr (.inr (.inr (.inl (BL.trans h))))
theorem MW.oA {s:Aa} {b q n c:Nat} (h:(Value.slice s.AA n c).ownBlock=some q):MW s b q:=.inr (.inr (.inr (.inr (.inl (BL.trans h)))))
theorem MW.oE {s:Aa} {b q n c:Nat} (h:(Value.slice s.AE n c).ownBlock=some q):MW s b q:=.inr (.inr (.inr (.inr (.inr (.inl (BL.trans h))))))
theorem MW.oD {s:Aa} {b q n c:Nat} (h:(Value.slice s.AD n c).ownBlock=some q):MW s b q:=.inr (.inr (.inr (.inr (.inr (.inr (.inl (BL.trans h)))))))
theorem MW.oX {s:Aa} {b q n c:Nat} (h:(Value.slice s.AX n c).ownBlock=some q):MW s b q:=.inr (.inr (.inr (.inr (.inr (.inr (.inr (BL.trans h)))))))
theorem MW.Cz {s:Aa} {b k n n' c c' : Nat} {A:Option Addr} {l:List JobV} (hq:∀ q,(Value.slice A n c).ownBlock=some q→(Value.slice s.AJ n' c').ownBlock=some q ∨ k≤q) {d:Nat}:∀ q,MW (s.Cz A d l) b q→MW s b q ∨ k≤q:=fun q h=>by
 rcases h with h|h|h|h|h|h|h|h
 ·exact .inl (.inl h)
 ·exact (hq q (BL.trans h)).imp (fun e=>MW.oJ e) id
 ·exact .inl (MW.oS (s:=s) h)
 ·exact .inl (MW.oN (s:=s) h)
 ·exact .inl (MW.oA (s:=s) h)
 ·exact .inl (MW.oE (s:=s) h)
 ·exact .inl (MW.oD (s:=s) h)
 exact .inl (MW.oX (s:=s) h)
theorem MW.Rx {s:Aa} {b k n n' c c' : Nat} {A:Option Addr} {l:List JobV} (hq:∀ q,(Value.slice A n c).ownBlock=some q→(Value.slice s.AS n' c').ownBlock=some q ∨ k≤q) {d:Nat}:∀ q,MW (s.Mq A d l) b q→MW s b q ∨ k≤q:=fun q h=>by
 rcases h with h|h|h|h|h|h|h|h
 ·exact .inl (.inl h)
 ·exact .inl (MW.oJ (s:=s) h)
 ·exact (hq q (BL.trans h)).imp (fun e=>MW.oS e) id
 ·exact .inl (MW.oN (s:=s) h)
 ·exact .inl (MW.oA (s:=s) h)
 ·exact .inl (MW.oE (s:=s) h)
 ·exact .inl (MW.oD (s:=s) h)
 exact .inl (MW.oX (s:=s) h)
theorem MW.BP {s:Aa} {b k n n' c c' : Nat} {A:Option Addr} {l:List NodD} (hq:∀ q,(Value.slice A n c).ownBlock=some q→(Value.slice s.AN n' c').ownBlock=some q ∨ k≤q) {d:Nat}:∀ q,MW (s.BP A d l) b q→MW s b q ∨ k≤q:=fun q h=>by
 rcases h with h|h|h|h|h|h|h|h
 ·exact .inl (.inl h)
 ·exact .inl (MW.oJ (s:=s) h)
 ·exact .inl (MW.oS (s:=s) h)
 ·exact (hq q (BL.trans h)).imp (fun e=>MW.oN e) id
 ·exact .inl (MW.oA (s:=s) h)
 ·exact .inl (MW.oE (s:=s) h)
 ·exact .inl (MW.oD (s:=s) h)
 exact .inl (MW.oX (s:=s) h)
theorem MW.I9 {s:Aa} {b k n n' c c' : Nat} {A:Option Addr} {l:List Ac} (hq:∀ q,(Value.slice A n c).ownBlock=some q→(Value.slice s.AA n' c').ownBlock=some q ∨ k≤q) {d:Nat}:∀ q,MW (s.I9 A d l) b q→MW s b q ∨ k≤q:=fun q h=>by
 rcases h with h|h|h|h|h|h|h|h
 ·exact .inl (.inl h)
 ·exact .inl (MW.oJ (s:=s) h)
 ·exact .inl (MW.oS (s:=s) h)
 ·exact .inl (MW.oN (s:=s) h)
 ·exact (hq q (BL.trans h)).imp (fun e=>MW.oA e) id
 ·exact .inl (MW.oE (s:=s) h)
 ·exact .inl (MW.oD (s:=s) h)
 exact .inl (MW.oX (s:=s) h)
theorem MW.Bf {s:Aa} {b k n n' c c' : Nat} {A:Option Addr} {l:List EvalD} (hq:∀ q,(Value.slice A n c).ownBlock=some q→(Value.slice s.AE n' c').ownBlock=some q ∨ k≤q) {d:Nat}:∀ q,MW (s.Bf A d l) b q→MW s b q ∨ k≤q:=fun q h=>by
 rcases h with h|h|h|h|h|h|h|h
 ·exact .inl (.inl h)
 ·exact .inl (MW.oJ (s:=s) h)
 ·exact .inl (MW.oS (s:=s) h)
 ·exact .inl (MW.oN (s:=s) h)
 ·exact .inl (MW.oA (s:=s) h)
 ·exact (hq q (BL.trans h)).imp (fun e=>MW.oE e) id
 ·exact .inl (MW.oD (s:=s) h)
 exact .inl (MW.oX (s:=s) h)
theorem MW.DT {s:Aa} {b k n n' c c' : Nat} {A:Option Addr} {l:List DepD} (hq:∀ q,(Value.slice A n c).ownBlock=some q→(Value.slice s.AD n' c').ownBlock=some q ∨ k≤q) {d:Nat}:∀ q,MW (s.DT A d l) b q→MW s b q ∨ k≤q:=fun q h=>by
 rcases h with h|h|h|h|h|h|h|h
 ·exact .inl (.inl h)
 ·exact .inl (MW.oJ (s:=s) h)
 ·exact .inl (MW.oS (s:=s) h)
 ·exact .inl (MW.oN (s:=s) h)
 ·exact .inl (MW.oA (s:=s) h)
 ·exact .inl (MW.oE (s:=s) h)
 ·exact (hq q (BL.trans h)).imp (fun e=>MW.oD e) id
 exact .inl (MW.oX (s:=s) h)
theorem MW.FV {s:Aa} {b k n n' c c' : Nat} {A:Option Addr} {l:List SeenV} (hq:∀ q,(Value.slice A n c).ownBlock=some q→(Value.slice s.AX n' c').ownBlock=some q ∨ k≤q) {d:Nat}:∀ q,MW (s.FV A d l) b q→MW s b q ∨ k≤q:=fun q h=>by
 rcases h with h|h|h|h|h|h|h|h
 ·exact .inl (.inl h)
 ·exact .inl (MW.oJ (s:=s) h)
 ·exact .inl (MW.oS (s:=s) h)
 ·exact .inl (MW.oN (s:=s) h)
 ·exact .inl (MW.oA (s:=s) h)
 ·exact .inl (MW.oE (s:=s) h)
 ·exact .inl (MW.oD (s:=s) h)
 exact (hq q (BL.trans h)).imp (fun e=>MW.oX e) id
structure Step (w w' : World) (b:Nat) (s s' : Aa):Prop where
 ext:Ext (MW s b) w w'
 sub:∀ q,MW s' b q→MW s b q ∨ w.heap.size≤q
theorem Step.of0 {w w' : World} {b:Nat} {s:Aa} (h:Ext Nothing w w'):Step w w' b s s:=⟨h.any,fun _ h=>.inl h⟩
theorem Step.refl (w:World) (b:Nat) (s:Aa):Step w w b s s:=Step.of0 (Ext.refl _ _)
theorem Step.size {w w' : World} {b:Nat} {s s' : Aa} (h:Step w w' b s s'):w.heap.size≤w'.heap.size:=h.ext.size
theorem Step.put {S:Nat→Prop} {w w1 w2:World} {b:Nat} {s s1 s2:Aa} (h:Step w w1 b s s1) (k:Ext S w1 w2) (hS:∀ q,S q→MW s1 b q) (sub:∀ q,MW s2 b q→MW s1 b q ∨ w1.heap.size≤q):Step w w2 b s s2 :=
 ⟨h.ext.trans k (fun q hq e=>(h.sub q (hS q e)).elim id (fun e=>by omega)),fun q e=>(sub q e).elim (h.sub q) (fun e=>.inr (by have:=h.size;omega))⟩
theorem Step.trans {w w1 w2:World} {b:Nat} {s s1 s2:Aa} (h:Step w w1 b s s1) (k:Step w1 w2 b s1 s2):Step w w2 b s s2:=h.put k.ext (fun _ e=>e) k.sub
theorem Step.m0 {w w1 w2:World} {b:Nat} {s s1:Aa} (h:Step w w1 b s s1) (k:Ext Nothing w1 w2):Step w w2 b s s1:=h.trans (Step.of0 k)
theorem Step.cell {w w1:World} {b g i:Nat} {s s1 s2:Aa} (h:Step w w1 b s s1) (hg:MW s1 b g) (sub:∀ q,MW s2 b q→MW s1 b q) (u:Value):Step w (w1.setCell ⟨g,i,none⟩ u) b s s2 :=
 h.put (Ext.set1 w1 g i u) (fun q e=>by rw [show q=g from e];exact hg) (fun q e=>.inl (sub q e))
theorem Blk.step {w w' : World} {b g t:Nat} {cs:Array Value} {s s' : Aa} (h:Blk w g t cs) (k:Step w w' b s s') (hn:¬ MW s b g):Blk w' g t cs:=h.ext k.ext hn
theorem Step.not {w w' : World} {b g:Nat} {s s' : Aa} (k:Step w w' b s s') (hn:¬ MW s b g) (hg:g < w.heap.size):¬ MW s' b g:=fun e=>(k.sub g e).elim hn (fun e=>by omega)
theorem Az.mw {base b:Nat} {W:World} {s:Aa} {cm:Bool} (h:Az base W b s cm) {q:Nat} (e:MW s b q):MB base W q:=by
 have row:∀ {t sz n:Nat} {v:Value} {xs:List Value},W.ownsRow base t sz v n xs→t∈Ip→v.ownBlock=some q→MB base W q:=fun ho ht hq=>MB.Bd ho ht hq
 rcases e with e|e|e|e|e|e|e|e
 ·rw [e];exact MB.FW h.blk (by decide) h.lo
 ·exact row h.own.j.own (by decide) e
 ·exact row h.own.t.own (by decide) e
 ·exact row h.own.n (by decide) e
 ·exact row h.own.a (by decide) e
 ·exact row h.own.e (by decide) e
 ·exact row h.own.d (by decide) e
 exact row h.own.x (by decide) e
theorem Az.FL {base b:Nat} {W:World} {s:Aa} {cm:Bool} (h:Az base W b s cm) {q:Nat} (e:MW s b q):q < W.heap.size:=by
 obtain ⟨_,t,cs,hB,_⟩:=h.mw e
 exact hB.lt
theorem Az.Cn {base b g t:Nat} {W:World} {s:Aa} {cm:Bool} {cs:Array Value} (h:Az base W b s cm) (hB:Blk W g t cs) (ht:t ∉ Ip):¬ MW s b g:=fun e=>by
 obtain ⟨_,t',cs',h2,h3⟩:=h.mw e
 have h4:some (Obj.cells cs t (0,0))=some (Obj.cells cs' t' (0,0)):=hB.symm.trans h2
 injection h4 with h4
 injection h4 with _ h5 _
 exact ht (h5 ▸ h3)
theorem zS {P:Program} {ops:Array Oper} {Q:Exit→Act→World→Prop} {a:Act} {w:World} {S:World→Prop} {id:Nat} (hf:P.follows Departure.mixedOrders=true) (h:wpAnyH P .any ops Q S ops.size (Array.replicate ops.size false) a w.drew):Code.wp P (Code.region id ops true) Q a w :=
 wp_region_held (S:=S) hf h
theorem cell_set_ne {w:World} {g i j:Nat} {u v:Value} (h:w.cell? ⟨g,j,none⟩=some v) (hij:i ≠ j) {t:TypeId} {cs:Array Value} (hB:Blk w g t cs):(w.setCell ⟨g,i,none⟩ u).cell? ⟨g,j,none⟩=some v:=by
 have h1:=(hB.Bi i u).cell j
 rw [h1,Array.getElem?_setIfInBounds_ne hij,← hB.cell]
 exact h
end
end
section
open Go.RowKit
theorem FB {α:Type} {f:α→List Value} {sz:Nat} (hf:∀ x,(f x).length=sz) {x:α}:∀ {xs:List α} {i:Nat},i < xs.length→(xs.set i x).flatMap f=(xs.flatMap f).take (i*sz) ++ f x ++ (xs.flatMap f).drop (i*sz+sz)
 | [],i,h=>by simp at h
 | y :: r,0,_=>by
  rw [List.set_cons_zero,List.flatMap_cons,List.flatMap_cons,Nat.zero_mul,Nat.zero_add,List.take_zero,List.nil_append,List.drop_left' (hf y)]
 | y :: r,i+1,h=>by
  have ih:=FB hf (x:=x) (xs:=r) (i:=i) (by simpa using h)
  have e1:(i+1)*sz=sz+i*sz:=by rw [Nat.add_mul];omega
  rw [List.set_cons_succ,List.flatMap_cons,List.flatMap_cons,ih,e1,List.take_append,hf,List.drop_append,hf,List.take_of_length_le (l:=f y) (by rw [hf];omega),List.drop_of_length_le (l:=f y) (by rw [hf];omega),show sz+i*sz - sz=i*sz by omega,show sz+i*sz+sz - sz=i*sz+sz by omega]
  simp [List.append_assoc]
theorem NU {L v:List Value} {a sz N:Nat} (hv:v.length=sz) (h1:a+sz≤N) (h2:N≤L.length):(L.take a ++ v ++ L.drop (a+sz)).take N=(L.take N).take a ++ v ++ (L.take N).drop (a+sz):=by
 have hl:(L.take a ++ v).length=a+sz:=by rw [List.length_append,List.length_take,hv];omega
 rw [List.take_append,hl,List.take_of_length_le (by omega),List.take_take,Nat.min_eq_left (by omega),List.drop_take]
theorem DR {α:Type} {f:α→List Value} {w:World} {base e sz c:Nat} {A:Option Addr} {xs:List α} (hf:∀ x,(f x).length=sz) (h:w.ownsRow base e sz (.slice A xs.length c) xs.length (xs.flatMap f)) {i:Nat} (hi:i < xs.length) :
  ∃ g cur,A=some ⟨g,0,none⟩∧base≤g∧Blk w g e cur∧cur.size=c*sz∧xs.length≤c∧c≤maxLen∧cur.toList.take (xs.length*sz)=xs.flatMap f ∧
   ∀ (x:α) (w' : World),Blk w' g e (cur.toList.take (i*sz) ++ f x ++ cur.toList.drop (i*sz+sz)).toArray→w'.ownsRow base e sz (.slice A xs.length c) xs.length ((xs.set i x).flatMap f):=by
 rcases h.2 with ⟨h1,h2⟩|⟨g,cap,cur,hv,hb,hg,h1,h2,h3,h4⟩
 ·omega
 injection hv with hA _ hc
 subst hA hc
 refine ⟨g,cur,rfl,hb,hg,h3,h1,h2,h4,fun x w' hw=>?_⟩
 have hm:i*sz+sz≤xs.length*sz:=by have:=Nat.mul_le_mul_right sz (show i+1≤xs.length from hi);rw [Nat.add_mul] at this;omega
 have hm3:xs.length*sz≤cur.size:=by rw [h3];exact Nat.mul_le_mul_right sz h1
 have hm2:xs.length*sz≤cur.toList.length:=by simpa using hm3
 have hset:=FB hf (x:=x) hi
 refine ⟨?_,.inr ⟨g,c,_,rfl,hb,hw,h1,h2,?_,?_⟩⟩
 ·have hfl:(xs.flatMap f).length=xs.length*sz:=h.1
  rw [hset,List.length_append,List.length_append,List.length_take,List.length_drop,hf,hfl];omega
 ·simp only [List.size_toArray,List.length_append,List.length_take,List.length_drop,hf,Array.length_toList]
  omega
 rw [List.toList_toArray,NU (hf x) hm hm2,h4,hset]
theorem FD {P:Program} {w:World} {g off:Nat} {t ty:TypeId} {sz:Nat} {cs0 cs:Array Value} (hB:Blk w g t cs0) (h0:off+sz≤cs0.size) (E:Bb P ty sz) (hcs:cs.size=sz) (h1:cs.toList.all Value.oneCell' = true) :
  ∃ w',(Instr.storeAt ty (.pointer (some ⟨g,off,none⟩)) (.agg cs)).run P w=.ok () w'∧Blk w' g t (cs0.toList.take off ++ cs.toList ++ cs0.toList.drop (off+sz)).toArray∧Ext (fun q=>q=g) w w':=by
 obtain ⟨⟨fs,hu⟩,hs⟩:=E
 obtain ⟨i,hi1,hi2⟩:=Option.map_eq_some_iff.1 hs
 have hst:=run_storeCells_at P g off t cs.toList 0 cs0 w hB (by simp;omega) (fun v hv=>List.all_eq_true.1 h1 v hv)
 have h2:(cs0.toList.take (off+0) ++ cs.toList ++ cs0.toList.drop (off+0+cs.toList.length)).toArray=(cs0.toList.take off ++ cs.toList ++ cs0.toList.drop (off+sz)).toArray:=by
  simp only [Nat.add_zero,Array.length_toList,hcs]
 rw [h2] at hst
 refine ⟨w.setRow g (cs0.toList.take off ++ cs.toList ++ cs0.toList.drop (off+sz)).toArray,?_,?_,⟨rfl,rfl,rfl,by simp [World.setRow],fun k hk hn=>?_⟩⟩
 ·simp only [Instr.storeAt,Instr.sureAddr,Sem.run_bind,Sem.run_pure,Result.andThen_ok,storeVar,sizeOf,typeInfo,run_program,hi1,Value.cells,hi2,hcs]
  simp [hst]
 ·show (w.setRow g _).heap[g]? = _
  simp only [World.setRow,Array.getElem?_modify,if_true,show w.heap[g]? = _ from hB]
  rfl
 simp only [World.setRow,Array.getElem?_modify]
 rw [if_neg (fun e=>hn e.symm)]
section
variable {P:Program} {w:World} {ops:Array Oper} {rest:List Oper} {o:Oper} {a:Act} {Q:Exit→Act→World→Prop}
theorem wpList_store_row (hgd:o.guard=none) (ty:TypeId) (p x:Operand) (ho:o.op=.store ty p x) {sz:Nat} (E:Bb P ty sz) (g off:Nat) (hp:a.eval p=.pointer (some ⟨g,off,none⟩)) (cs:Array Value) (hx:a.eval x=.agg cs)
  {t:TypeId} {cs0:Array Value} (hB:Blk w g t cs0) (h0:off+sz≤cs0.size) (hcs:cs.size=sz) (h1:cs.toList.all Value.oneCell' = true)
  (h:∀ w',Blk w' g t (cs0.toList.take off ++ cs.toList ++ cs0.toList.drop (off+sz)).toArray→Ext (fun q=>q=g) w w'→wpList P ops Q rest (a.put o.dst undef) w'):wpList P ops Q (o :: rest) a w:=by
 refine wpList_plain hgd fun K hK=>?_
 obtain ⟨w',hr,h2,h3⟩:=FD hB h0 E hcs h1
 unfold Oper.wp
 rw [Dy ho hp hx hr]
 exact hK _ _ (h w' h2 h3)
end
theorem CF {A:Option Addr} {n n' c c' : Nat}:(Value.slice A n c).ownBlock=(Value.slice A n' c').ownBlock:=by cases A <;> rfl
theorem Aw.pJ {base:Nat} {W W' : World} {s:Aa} (h:Aw base W s) (hx:Ext (fun q=>(Value.slice s.AJ s.jobs.length s.cJ).ownBlock=some q) W W') {A:Option Addr} {c:Nat} {l:List JobV} (o:W'.ownsRow base 39 7 (.slice A l.length c) l.length (l.flatMap JobV.cells))
  (hq:∀ q,(Value.slice A l.length c).ownBlock=some q→(Value.slice s.AJ s.jobs.length s.cJ).ownBlock=some q ∨ W.heap.size≤q) (g:∀ y∈l,Cq base W' y):Aw base W' (s.Cz A c l):=by
 have hjo:W.ownsRow base 39 7 (.slice s.AJ s.jobs.length s.cJ) s.jobs.length (s.jobs.flatMap JobV.cells):=by have:=h.j.own;rwa [h.jl] at this
 have ap:∀ {T:List TypeId},39 ∉ T→Apart W (fun q=>(Value.slice s.AJ s.jobs.length s.cJ).ownBlock=some q) T:=fun ht=>Apart.row hjo ht
 exact ⟨⟨o,g⟩,rfl,⟨Am h.t.own hx (fun q hq e=>h.sep q (by rw [CF (n':=s.jobs.length) (c':=s.cJ)];exact e) hq),fun y hy=>(h.t.grp y hy).keep hx (ap (by decide))⟩,h.tl,Ag h.n hx (ap (by decide)),h.nl,Ag h.a hx (ap (by decide)),h.al,
  Ag h.e hx (ap (by decide)),h.el,Ag h.d hx (ap (by decide)),h.dl,Ag h.x hx (ap (by decide)),h.xl,h.xa,fun q hq1 hq2=>by
   rcases hq q hq1 with e|e
   ·exact h.sep q (by rw [CF (n':=s.jobs.length) (c':=s.cJ)];exact e) hq2
   have:=CB h.t.own hq2;omega⟩
theorem Aw.pT {base:Nat} {W W' : World} {s:Aa} (h:Aw base W s) (hx:Ext (fun q=>(Value.slice s.AS s.stable.length s.cS).ownBlock=some q) W W') {A:Option Addr} {c:Nat} {l:List JobV} (o:W'.ownsRow base 39 7 (.slice A l.length c) l.length (l.flatMap JobV.cells))
  (hq:∀ q,(Value.slice A l.length c).ownBlock=some q→(Value.slice s.AS s.stable.length s.cS).ownBlock=some q ∨ W.heap.size≤q) (g:∀ y∈l,Cq base W' y):Aw base W' (s.Mq A c l):=by
 have hjo:W.ownsRow base 39 7 (.slice s.AS s.stable.length s.cS) s.stable.length (s.stable.flatMap JobV.cells):=by have:=h.t.own;rwa [h.tl] at this
 have ap:∀ {T:List TypeId},39 ∉ T→Apart W (fun q=>(Value.slice s.AS s.stable.length s.cS).ownBlock=some q) T:=fun ht=>Apart.row hjo ht
 exact ⟨⟨Am h.j.own hx (fun q hq e=>h.sep q hq (by rw [CF (n':=s.stable.length) (c':=s.cS)];exact e)),fun y hy=>(h.j.grp y hy).keep hx (ap (by decide))⟩,h.jl,⟨o,g⟩,rfl,Ag h.n hx (ap (by decide)),h.nl,Ag h.a hx (ap (by decide)),h.al,
  Ag h.e hx (ap (by decide)),h.el,Ag h.d hx (ap (by decide)),h.dl,Ag h.x hx (ap (by decide)),h.xl,h.xa,fun q hq1 hq2=>by
   rcases hq q hq2 with e|e
   ·exact h.sep q hq1 (by rw [CF (n':=s.stable.length) (c':=s.cS)];exact e)
   have:=CB h.j.own hq1;omega⟩
theorem EK {P:Program} {w:World} (base:Nat) (t ty e:TypeId) (i:TypeInfo) (z:Value) (size bytes:Nat) (ht:P.underlying t=some (.slice e)) (hi:P.info? e=some i) (hz:i.zero=some z)
  (hsize:i.size=size) (hby:i.bytes=bytes) (hzs:z.cells.size=size) (hsz:0 < size)
  (v:Value) (n:Nat) (xs:List Value) (hown:w.ownsRow base e size v n xs)
  (a:Addr) (m c:Nat) (news:List Value) (hl:news.length=m*size) (hnews:∀ j u,news[j]? = some u→w.cell? (a.add j)=some u) (h1:∀ u∈news,u.oneCell' = true)
  (h63:n+m≤maxLen) (hbytes:(n+m)*bytes≤140737488355328) {v' : Value} {w' : World} (hr:(Builtin.append_ #[t,t] ty #[v,.slice (some a) m c]).run P w=.ok v' w'):∀ q,v'.ownBlock=some q→v.ownBlock=some q ∨ w.heap.size≤q:=by
 subst hsize
 subst hby
 intro q hq
 have hsmall:n+m≤9223372036854775807:=by simp only [maxLen] at h63;omega
 rcases hown.2 with ⟨rfl,rfl⟩|⟨g,cap,cur,rfl,hbg,hg,hnc,hcm,hcs,htake⟩
 ·have hx:xs=[]:=List.eq_nil_of_length_eq_zero (by simpa using hown.1)
  subst hx
  obtain ⟨v2,w2,hr2,ho2,_,_⟩:=run_append_own (P:=P) w w.heap.size t ty e i z i.size i.bytes ht hi hz rfl rfl hzs hsz (.slice none 0 0) 0 [] (World.ownsRow_nil w w.heap.size e i.size) a m c news hl hnews h1 h63 hbytes (Nat.le_refl _)
  rw [hr] at hr2
  injection hr2 with e1 e2
  subst e1
  exact .inr (BM ho2 hq)
 by_cases hroom:n+m≤cap
 ·have hfit:n*i.size+news.length≤cur.size:=by rw [hl,hcs,← Nat.add_mul];exact Nat.mul_le_mul_right _ hroom
  have hr2:=run_append_room (P:=P) w t ty e i ht hi g n cap cur hg a m c news hl hnews h1 hroom hfit
  rw [hr] at hr2
  injection hr2 with e1 e2
  subst e1
  exact .inl hq
 have holds:∀ j u,xs[j]? = some u→w.cell? ((⟨g,0,none⟩ : Addr).add j)=some u:=hown.cells (g:=g) rfl
 have hr2:=run_append_grow (P:=P) w t ty e i z ht hi hz ⟨g,0,none⟩ n cap xs hown.1 holds a m c news hl hnews (by omega) (by omega) (growslice_fits (by omega) hbytes)
 rw [hr] at hr2
 injection hr2 with e1 e2
 subst e1
 simp [Value.ownBlock] at hq
 exact .inr (by omega)
section
variable {P:Program} {w:World} {ops:Array Oper} {rest:List Oper} {o o1 o2:Oper} {a:Act} {Q:Exit→Act→World→Prop}
theorem KF (hgd:o.guard=none) (s x:Operand) (t:TypeId) (ho:o.op=.call { callee:=.builtin .append,args:=#[s,x],argTypes:=#[t,t] })
  (base:Nat) {e sz:Nat} (E:Bg P t e sz) (v:Value) (n:Nat) (xs:List Value) (hs:a.eval s=v) (hown:w.ownsRow base e sz v n xs)
  (g c:Nat) (cs:Array Value) (hx:a.eval x=.slice (some ⟨g,0,none⟩) 1 c) (hg:Blk w g e cs) (hcs:cs.size=sz) (h1:cs.toList.all Value.oneCell' = true)
  (hn:n < 67108864) (hbase:base≤w.heap.size)
  (h:∀ A' c' w',w'.ownsRow base e sz (.slice A' (n+1) c') (n+1) (xs ++ cs.toList)→w.grownBy w' v.ownBlock→(∀ q,(Value.slice A' (n+1) c').ownBlock=some q→v.ownBlock=some q ∨ w.heap.size≤q)→wpList P ops Q rest (a.put o.dst (.slice A' (n+1) c')) w'):wpList P ops Q (o :: rest) a w:=by
 obtain ⟨ht,i,z,hi,hz,hzs,hsz,h0,hle,hby⟩:=E
 have hnews:∀ j u,cs.toList[j]? = some u→w.cell? ((⟨g,0,none⟩ : Addr).add j)=some u:=fun j u hu=>by
  have hadd:(⟨g,0,none⟩ : Addr).add j=⟨g,j,none⟩:=by unfold Addr.add;split <;> simp_all
  rw [hadd,hg.cell];simpa using hu
 have hone:∀ u∈cs.toList,u.oneCell' = true:=fun u hu=>List.all_eq_true.1 h1 u hu
 have hb:(n+1)*i.bytes≤140737488355328:=by have:=Nat.mul_le_mul (show n+1≤67108864 by omega) hby;omega
 have h63:n+1≤maxLen:=by unfold maxLen;omega
 obtain ⟨v',w',hr,h2,h3,h4⟩:=run_append_own (P:=P) w base t o.type e i z sz i.bytes ht hi hz hsz rfl hzs h0 v n xs hown ⟨g,0,none⟩ 1 c cs.toList (by simpa using hcs) hnews hone h63 hb hbase
 have hq:=EK base t o.type e i z sz i.bytes ht hi hz hsz rfl hzs h0 v n xs hown ⟨g,0,none⟩ 1 c cs.toList (by simpa using hcs) hnews hone h63 hb hr
 obtain ⟨A',c',rfl⟩:=Bn h2
 refine wpList_plain hgd fun K hK=>?_
 unfold Oper.wp execOp
 simp only [ho,resolve,invoke,builtin,Sem.run_bind,Sem.run_pure,Result.andThen_ok,List.map_toArray,List.map_cons,List.map_nil,hs,hx,hr]
 exact hK _ _ (h A' c' w' h2 h3 hq)
theorem Cw (hg1:o1.guard=none) (hg2:o2.guard=none) (t:TypeId) (x:Operand) (ho1:o1.op=.buildSlice t 1 #[(0,x)]) (s y:Operand) (ho2:o2.op=.call { callee:=.builtin .append,args:=#[s,y],argTypes:=#[t,t] })
  {e sz:Nat} (E:Bg P t e sz) (cs:Array Value) (hx:(a.eval x).cells=cs) (hv:cs.size=sz) (base:Nat) (v:Value) (n:Nat) (xs:List Value)
  (hs:(a.put o1.dst (.slice (some ⟨w.heap.size,0,none⟩) 1 1)).eval s=v) (hy:(a.put o1.dst (.slice (some ⟨w.heap.size,0,none⟩) 1 1)).eval y=.slice (some ⟨w.heap.size,0,none⟩) 1 1)
  (hown:w.ownsRow base e sz v n xs) (h1:cs.toList.all Value.oneCell' = true) (hn:n < 67108864) (hbase:base≤w.heap.size)
  (h:∀ A' c' w',w'.ownsRow base e sz (.slice A' (n+1) c') (n+1) (xs ++ cs.toList)→Ext (fun q=>v.ownBlock=some q) w w'→(∀ q,(Value.slice A' (n+1) c').ownBlock=some q→v.ownBlock=some q ∨ w.heap.size≤q)→wpList P ops Q rest ((a.put o1.dst (.slice (some ⟨w.heap.size,0,none⟩) 1 1)).put o2.dst (.slice A' (n+1) c')) w') :
  wpList P ops Q (o1 :: o2 :: rest) a w:=by
 have hx0:Ext Nothing w (w.alloc (.cells cs e)):=(Ext.refl _ _).alloc _
 refine AZ hg1 t x ho1 E cs hx hv ?_
 refine KF hg2 s y t ho2 base E v n xs hs (Am hown hx0 (fun _ _ e=>e)) w.heap.size 1 cs hy (Blk.new _ _ _) hv h1 hn (by have:=hx0.size;omega) ?_
 intro A' c' w' o g hq
 exact h A' c' w' o (((Ext.refl (fun q=>v.ownBlock=some q) w).alloc _).grown g (fun q e=>.inr e)) (fun q e=>(hq q e).imp id (fun h=>by have:=hx0.size;omega))
end
end
end Go.Proofs.YtccekmeifanipaaGreat
