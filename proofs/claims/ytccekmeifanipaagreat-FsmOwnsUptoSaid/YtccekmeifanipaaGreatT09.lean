/- Parts of the proof: FsmE2 FsmE3 FsmR FsmP FsmW RefO FsmR2 FsmR3 -/
import Derived.Test.YtccekmeifanipaaGreatT08
import Derived.Test.YtccekmeifanipaaGreatT07
namespace Go.Proofs.YtccekmeifanipaaGreat
set_option linter.unusedVariables false
set_option linter.unusedSimpArgs false
set_option linter.unusedSectionVars false
section
open Go.RowKit
namespace Fsm
theorem Ons.at_:∀ {l m:List Ac},Ons l m→∀ {i:Nat} {a b:Ac},l[i]? = some a→m[i]? = some b→On a b
 | [],[],_,_,_,_,h,_=>by simp at h
 | [],_ :: _,h,_,_,_,_,_=>h.elim
 | _ :: _,[],h,_,_,_,_,_=>h.elim
 | _ :: _,_ :: _,h,0,_,_,h1,h2=>by cases h1;cases h2;exact h.1
 | _ :: _,_ :: _,h,i+1,_,_,h1,h2=>Ons.at_ h.2 (by simpa using h1) (by simpa using h2)
theorem Ons.length:∀ {l m:List Ac},Ons l m→m.length=l.length
 | [],[],_=>rfl
 | [],_ :: _,h=>h.elim
 | _ :: _,[],h=>h.elim
 | _ :: _,_ :: _,h=>by simp [Ons.length h.2]
structure Over (s t:Ab):Prop where
 part:Part s t
 ons:Ons s.allocs t.allocs
 fresh:(∀ a∈s.allocs,a.job∈s.jobs.map Aq.id)→∀ (i:Nat) a b,s.allocs[i]? = some a→t.allocs[i]? = some b→Bv a=false→Bv b=true→Gd t b.job
theorem Over.own {s t:Ab} (h:Over s t) (o:∀ a∈s.allocs,a.job∈s.jobs.map Aq.id):∀ b∈t.allocs,b.job∈t.jobs.map Aq.id:=fun b hb=>by
 obtain ⟨a,ha,ho⟩:=h.ons.mem hb
 rw [h.part.jobs,(DC ho.core).2.2.1]
 exact o a ha
theorem Over.trans {s t u:Ab} (h:Over s t) (k:Over t u):Over s u :=
 ⟨h.part.trans k.part,h.ons.trans k.ons,fun o i a c ha hc hla hoc=>by
  have hl:=h.ons.length
  have hi:i < t.allocs.length:=by have:=(List.getElem?_eq_some_iff.1 ha).1;omega
  have hb:=List.getElem?_eq_getElem hi
  cases hob:Bv t.allocs[i] with
  | true =>
   have h1:=k.part.fresh _ (h.fresh o i a _ ha hb hla hob)
   rwa [(DC (k.ons.at_ hb hc).core).2.2.1]
  | false=>exact k.fresh (h.own o) i _ c hb hc hob hoc⟩
theorem Over.keep {s t:Ab} (p:Part s t) (h:t.allocs=s.allocs):Over s t :=
 ⟨p,by rw [h];exact Ons.refl _,fun _ i a b ha hb h1 h2=>by rw [h,ha] at hb;cases hb;rw [h1] at h2;cases h2⟩
theorem Over.refl (s:Ab):Over s s:=Over.keep (Part.refl s) rfl
theorem GG {α:Type} {f:Ab→α→Ab} (h:∀ s a,Over s (f s a)):∀ (l:List α) (s:Ab),Over s (l.foldl f s)
 | [],s=>Over.refl s
 | a :: r,s=>(h s a).trans (GG h r (f s a))
theorem KU (s:Ab) (m:List Ac) (a:Ac) (hm:Ons s.allocs m) (ha:a∈s.allocs) (h1:∀ (i:Nat) x b,s.allocs[i]? = some x→m[i]? = some b→Bv x=false→Bv b=true→b.job=a.job):Over s (eval { s with allocs:=m } a.job):=by
 have hk:=eval_kept { s with allocs:=m } a.job
 have hp:Part s (eval { s with allocs:=m } a.job):=by refine Part.pre ?_ ?_ ?_ (DI _ _) <;> rfl
 refine ⟨hp,by rw [hk.2];exact hm,fun o i x b hx hb hlx hob=>?_⟩
 rw [hk.2] at hb
 rw [h1 i x b hx hb hlx hob]
 exact Iw (s:={ s with allocs:=m }) (o a ha)
theorem Jm (node:Int) (s:Ab) (i:Nat):Over s (AR node s i):=by
 have ho:=(JU node s i).2.1
 unfold AR at ho ⊢
 split
 ·exact Over.refl s
 rename_i a hi
 rw [hi] at ho
 simp only at ho
 split
 ·rename_i hc
  rw [if_pos hc] at ho
  rw [(eval_kept { s with allocs:=s.allocs.set i { a with state:=6 } } a.job).2] at ho
  refine KU s _ a ho (List.mem_of_getElem? hi) (fun j x b hx hb hlx hob=>?_)
  by_cases hij:j=i
  ·subst hij
   rw [List.getElem?_set_self (List.getElem?_eq_some_iff.1 hi).1] at hb
   cases hb;rfl
  rw [List.getElem?_set_ne (Ne.symm hij),hx] at hb
  cases hb;rw [hlx] at hob;cases hob
 exact Over.refl s
theorem Jz (s:Ab) (node:Int):Over s (lost s node):=GG (Jm node) _ s
theorem Fe (s:Ab):Over s (system s):=Over.keep (KH s) (Lf s).2
theorem GI (s:Ab):Over s (came s):=Over.keep (Nk s) rfl
theorem KT (s:Ab):Over s (looked s):=Over.keep (LC s) (G5 s).2
theorem IK (s:Ab) (n:NodD):Over s (joins s n):=by
 unfold joins
 exact (((Over.keep (s:=s) (t:={ s with nodes:=Ak NodD.id n s.nodes }) (Part.same rfl rfl rfl) rfl).trans (Jz _ n.id)).trans (Fe _)).trans (GI _)
theorem KN (p:Ac→Bool) (f:Ac→Ac):∀ (l:List Ac) (i:Nat) x b,l[i]? = some x→(Ap p f l)[i]? = some b→b=x ∨ (l.find? p=some x∧b=f x)
 | [],_,_,_,h,_=>by simp at h
 | y :: r,i,x,b,hx,hb=>by
  unfold Ap at hb
  split at hb
  ·rename_i hp
   cases i with
   | zero=>cases hx;cases hb;exact .inr ⟨by rw [List.find?_cons,hp],rfl⟩
   | succ i=>simp at hx hb;rw [hx] at hb;cases hb;exact .inl rfl
  rename_i hp
  have hp' : p y=false:=by simpa using hp
  cases i with
  | zero=>cases hx;cases hb;exact .inl rfl
  | succ i =>
   rcases KN p f r i x b (by simpa using hx) (by simpa using hb) with h|⟨h1,h2⟩
   ·exact .inl h
   exact .inr ⟨by rw [List.find?_cons,hp'];exact h1,h2⟩
theorem KS (n:NodD) (z:Ab × Bool) (r:Int × Int):Over z.1 (report n z r).1:=by
 have ho:=(He n z r).2
 have hp:=Lj n z r
 unfold report at ho hp ⊢
 cases ha:z.1.allocs.find? (fun a=>a.id == r.1) with
 | none=>exact Over.refl _
 | some a =>
  rw [ha] at ho hp
  simp only at ho hp ⊢
  cases ht:takes n a r.2 with
  | false=>exact Over.refl _
  | true =>
   rw [ht] at ho hp
   simp only [Bool.not_true,Bool.false_eq_true,if_false] at ho hp ⊢
   have hjob:∀ (i:Nat) x b,z.1.allocs[i]? = some x→(Ap (fun a=>a.id == r.1) (fun a=>{ a with state:=r.2 }) z.1.allocs)[i]? = some b→Bv x=false→Bv b=true→b.job=a.job∧3≤r.2:=fun i x b hx hb hlx hob=>by
    rcases KN _ _ _ i x b hx hb with h|⟨h1,h2⟩
    ·subst h;rw [hlx] at hob;cases hob
    rw [ha] at h1;cases h1
    subst h2
    exact ⟨rfl,by simpa [Bv] using hob⟩
   split
   ·rename_i h3
    rw [if_pos h3] at ho
    rw [(eval_kept { z.1 with allocs:=Ap (fun a=>a.id == r.1) (fun a=>{ a with state:=r.2 }) z.1.allocs } a.job).2] at ho
    exact KU z.1 _ a ho (List.mem_of_find?_eq_some ha) (fun i x b hx hb h1 h2=>(hjob i x b hx hb h1 h2).1)
   rename_i h3
   rw [if_neg h3] at ho hp
   have hall:∀ t:Ab,t.allocs=Ap (fun a=>a.id == r.1) (fun a=>{ a with state:=r.2 }) z.1.allocs→Part z.1 t→Ons z.1.allocs t.allocs→Over z.1 t:=fun t he hpt hot =>
    ⟨hpt,hot,fun _ i x b hx hb h1 h2=>by rw [he] at hb;exact absurd (hjob i x b hx hb h1 h2).2 h3⟩
   revert ho hp
   split
   ·intro ho hp;exact hall _ rfl hp ho
   split
   ·intro ho hp;exact hall _ rfl hp ho
   intro ho hp
   exact hall _ (eval_kept { z.1 with allocs:=Ap (fun a=>a.id == r.1) (fun a=>{ a with state:=r.2 }) z.1.allocs } a.job).2 hp ho
theorem Gj (n:NodD):∀ (l:List (Int × Int)) (z:Ab × Bool),Over z.1 (l.foldl (report n) z).1
 | [],z=>Over.refl _
 | r :: l,z=>(KS n z r).trans (Gj n l (report n z r))
end Fsm
end
section
open Go.RowKit
namespace Fsm
theorem Evs.part {s t:Ab} (h:Evs s) (p:Part s t) (hi:1≤s.index) (ho:∀ b∈t.allocs,b.job∈s.jobs.map Aq.id):Evs t :=
 ⟨(p.evals h.keys h.sorted).trans (h.keys.trans p.jobs.symm),by rw [p.jobs];exact h.sorted,by rw [p.index];exact p.bound hi h.bound,by rw [p.jobs];exact ho⟩
theorem Evs.over {s t:Ab} (h:Evs s) (o:Over s t) (hi:1≤s.index):Evs t :=
 h.part o.part hi (fun b hb=>by have:=o.own h.own b hb;rwa [o.part.jobs] at this)
theorem EA (s:Ab):(looked s).evals=s.evals∧(looked s).jobs=s.jobs∧(looked s).index=s.index:=by
 have one:∀ (s:Ab) (i:Nat),(AF s i).evals=s.evals∧(AF s i).jobs=s.jobs∧(AF s i).index=s.index:=fun s i=>by
  unfold AF
  split
  ·exact ⟨rfl,rfl,rfl⟩
  split
  ·exact ⟨rfl,rfl,rfl⟩
  split <;> exact ⟨rfl,rfl,rfl⟩
 have all:∀ (l:List Nat) (s:Ab),(l.foldl AF s).evals=s.evals∧(l.foldl AF s).jobs=s.jobs∧(l.foldl AF s).index=s.index:=fun l=>by
  induction l with
  | nil=>intro s;exact ⟨rfl,rfl,rfl⟩
  | cons i r ih =>
   intro s
   obtain ⟨h1,h2,h3⟩:=ih (AF s i)
   obtain ⟨g1,g2,g3⟩:=one s i
   exact ⟨h1.trans g1,h2.trans g2,h3.trans g3⟩
 exact all _ s
theorem L9 {s:Ab} (h:Evs s) (hi:1≤s.index) (j:Aq):Evs (begins s j)∧Gd (begins s j) j.id∧(begins s j).index=s.index:=by
 obtain ⟨t,ht,e1,e2,e3,e4⟩ : ∃ t:Ab,begins s j=eval t j.id∧t.jobs=Ak Aq.id j s.jobs∧t.evals=s.evals∧t.index=s.index∧t.allocs=s.allocs:=by
  unfold begins
  refine ⟨_,rfl,?_⟩
  simp only
  split
  ·obtain ⟨g1,g2,g3⟩:=EA { s with jobs:=Ak Aq.id j s.jobs,deploys:=Ak DepD.job ⟨j.id,j.ver,1,s.index⟩ s.deploys }
   exact ⟨g2,g1,g3,(G5 _).2⟩
  exact ⟨rfl,rfl,rfl,rfl⟩
 rw [ht]
 have hk:t.jobs.map Aq.id=Hr j.id (s.jobs.map Aq.id):=by rw [e1,Em]
 have hin:j.id∈t.jobs.map Aq.id:=by rw [e1];exact List.mem_map_of_mem (Fu _ _ _)
 have hkept:=eval_kept t j.id
 refine ⟨?_,Iw hin,?_⟩
 ·unfold eval at hkept ⊢
  cases hj:AU t j.id with
  | none =>
   obtain ⟨q,hm,e⟩:=List.mem_map.1 hin
   have:=List.find?_eq_none.1 hj q hm
   simp [e] at this
  | some q =>
   simp only
   refine ⟨?_,?_,fun e he=>?_,fun a ha=>?_⟩
   ·rw [Em,e2,h.keys,hk]
   ·rw [hk];exact EX h.sorted
   ·rcases putL_mem he with rfl|⟨he,_⟩
    ·exact ⟨by rw [e3];exact hi,Int.le_refl _⟩
    rw [e2] at he;rw [e3];exact h.bound e he
   have ha' : a∈s.allocs:=by rw [← e4];exact ha
   obtain ⟨q',hq,e⟩:=List.mem_map.1 (h.own a ha')
   by_cases hqj:q'.id=j.id
   ·rw [← e,hqj];exact hin
   rw [← e]
   show q'.id∈t.jobs.map Aq.id
   rw [e1]
   exact List.mem_map_of_mem (Gu _ _ _ hq hqj)
 rw [(DI t j.id).index,e3]
theorem Gg (j:Aq) (n:NodD):∀ (l:List Ac) (s t:Ab),Ck j n l s=some t→t.jobs=s.jobs∧t.index=s.index∧t.evals=s.evals∧∀ b∈t.allocs,b∈s.allocs ∨ b.job=j.id
 | [],s,t,e=>by cases e;exact ⟨rfl,rfl,rfl,fun b hb=>.inl hb⟩
 | x :: r,s,t,e=>by
  unfold Ck at e
  rw [List.foldl_cons,show Bc j n (some s) x=if EI s j n x then some (placed s j n x) else none from rfl] at e
  split at e
  ·obtain ⟨h1,h2,h3,h4⟩:=Gg j n r (placed s j n x) t e
   refine ⟨h1,h2,h3,fun b hb=>?_⟩
   rcases h4 b hb with h5|h5
   ·rcases List.mem_append.1 h5 with h5|h5
    ·exact .inl h5
    rw [List.mem_singleton] at h5;subst h5;exact .inr rfl
   exact .inr h5
  rw [Cm] at e;cases e
theorem Ia (s:Ab) (j:Aq) (node:Int) (l:List Ac):(places s j node l).1.jobs=s.jobs∧(places s j node l).1.index=s.index∧(places s j node l).1.evals=s.evals∧∀ b∈(places s j node l).1.allocs,b∈s.allocs ∨ b.job=j.id:=by
 have h0:s.jobs=s.jobs∧s.index=s.index∧s.evals=s.evals∧∀ b∈s.allocs,b∈s.allocs ∨ b.job=j.id:=⟨rfl,rfl,rfl,fun b hb=>.inl hb⟩
 unfold places
 split
 ·exact h0
 split
 ·exact h0
 split
 ·exact h0
 rename_i t ht
 obtain ⟨h1,h2,h3,h4⟩:=Gg j _ _ s t ht
 split
 ·exact h0
 rename_i m hm
 exact ⟨h1,h2,h3,fun b hb=>h4 b ((IQ _ _ _ _ hm).subset hb)⟩
theorem JI {α:Type} (p:α→Bool) (f:α→α):∀ (l:List α) {y:α},y∈Ap p f l→y∈l ∨ ∃ x∈l,y=f x
 | [],_,h=>by cases h
 | x :: r,y,h=>by
  unfold Ap at h
  split at h
  ·rcases List.mem_cons.1 h with h|h
   ·exact .inr ⟨x,List.mem_cons_self ..,h⟩
   exact .inl (List.mem_cons_of_mem _ h)
  rcases List.mem_cons.1 h with h|h
  ·exact .inl (h ▸ List.mem_cons_self ..)
  rcases JI p f r h with h|⟨z,hz,e⟩
  ·exact .inl (List.mem_cons_of_mem _ h)
  exact .inr ⟨z,List.mem_cons_of_mem _ hz,e⟩
theorem OD {s:Ab} (h:Evs s) (hi:1≤s.index) (c:BV):Evs (plan s c).1∧(plan s c).1.index=s.index:=by
 unfold plan
 simp only
 split
 ·rename_i j e hj _
  split
  ·exact ⟨h,rfl⟩
  have hjm:=Fj hj
  have h2:∀ (l:List Int) (z:Ab × Bool),(∀ b∈z.1.allocs,b.job∈s.jobs.map Aq.id)→(l.foldl (fun z n=>((places z.1 j n c.plan.places).1,z.2 && (places z.1 j n c.plan.places).2)) z).1.jobs=z.1.jobs∧(l.foldl (fun z n=>((places z.1 j n c.plan.places).1,z.2 && (places z.1 j n c.plan.places).2)) z).1.index=z.1.index∧(l.foldl (fun z n=>((places z.1 j n c.plan.places).1,z.2 && (places z.1 j n c.plan.places).2)) z).1.evals=z.1.evals∧∀ b∈(l.foldl (fun z n=>((places z.1 j n c.plan.places).1,z.2 && (places z.1 j n c.plan.places).2)) z).1.allocs,b.job∈s.jobs.map Aq.id:=fun l=>by
   induction l with
   | nil=>intro z hz;exact ⟨rfl,rfl,rfl,hz⟩
   | cons n r ih =>
    intro z hz
    obtain ⟨g1,g2,g3,g4⟩:=Ia z.1 j n c.plan.places
    obtain ⟨k1,k2,k3,k4⟩:=ih ((places z.1 j n c.plan.places).1,z.2 && (places z.1 j n c.plan.places).2) (fun b hb=>by
     rcases g4 b hb with h5|h5
     ·exact hz b h5
     rw [h5];exact List.mem_map_of_mem hjm.2)
    exact ⟨k1.trans g1,k2.trans g2,k3.trans g3,k4⟩
  obtain ⟨k1,k2,k3,k4⟩:=h2 (BK c.plan.places) ({ s with allocs:=stops c.plan.job s.allocs c.plan.stops },true) (fun b hb=>by
   obtain ⟨a,ha,ho⟩:=(Gp c.plan.job c.plan.stops s.allocs).mem hb
   rw [(DC ho.core).2.2.1];exact h.own a ha)
  have fin:∀ f:EvalD→EvalD,(∀ e,(f e).job=e.job∧((f e).index=e.index ∨ (f e).index=s.index))→∀ z:Ab,z.jobs=s.jobs→z.index=s.index→z.evals=s.evals→(∀ b∈z.allocs,b.job∈s.jobs.map Aq.id)→Evs { z with evals:=Ap (fun e=>e.job == c.plan.job) f z.evals }:=fun f hf z z1 z2 z3 z4=>by
   refine ⟨?_,by simp only;rw [z1];exact h.sorted,fun e he=>?_,by simp only;rw [z1];exact z4⟩
   ·simp only;rw [DF _ _ _ (fun e=>(hf e).1),z3,z1];exact h.keys
   simp only at he ⊢
   rw [z3] at he
   rw [z2]
   rcases JI _ _ _ he with he|⟨x,hx,rfl⟩
   ·exact h.bound e he
   rcases (hf x).2 with e1|e1
   ·rw [e1];exact h.bound x hx
   rw [e1];exact ⟨hi,Int.le_refl _⟩
  split
  ·exact ⟨fin (fun e=>{ e with index:=s.index }) (fun e=>⟨rfl,.inr rfl⟩) _ k1 k2 k3 k4,k2⟩
  exact ⟨fin (fun e=>{ e with state:=if c.plan.blocked then 2 else 3 }) (fun e=>⟨rfl,.inl rfl⟩) _ k1 k2 k3 k4,k2⟩
 exact ⟨h,rfl⟩
theorem Over.pre {s t u:Ab} (h1:t.jobs.map Aq.id=s.jobs.map Aq.id) (h2:t.index=s.index) (h3:t.evals=s.evals) (h4:t.allocs=s.allocs) (k:Over t u):Over s u:=(Over.keep (Part.same h1 h2 h3) h4).trans k
theorem Fw (s:Ab) (j:Int):Over s (eval s j):=Over.keep (DI s j) (eval_kept s j).2
theorem G7 {s:Ab} (h:Evs s) (hi:1≤s.index) (c:BV):Evs (command s c).1∧(command s c).1.index=s.index:=by
 have h0:Evs s∧s.index=s.index:=⟨h,rfl⟩
 have ho:∀ {t:Ab},Over s t→Evs t∧t.index=s.index:=fun o=>⟨h.over o hi,o.part.index⟩
 have hb:∀ {t:Ab} (j:Aq),Over s t→Evs (begins t j)∧(begins t j).index=s.index:=fun {t} j o=>by
  have h1:=h.over o hi
  obtain ⟨g1,_,g3⟩:=L9 h1 (by rw [o.part.index];exact hi) j
  exact ⟨g1,g3.trans o.part.index⟩
 unfold command
 repeat' split
 ·exact h0
 ·unfold BZ
  split
  ·exact h0
  split
  ·split
   ·exact h0
   exact hb _ (Over.refl s)
  split
  ·exact h0
  exact hb _ (Over.refl s)
 ·unfold cancel
  split
  ·exact h0
  refine ho (Over.pre (s:=s) ?_ ?_ ?_ ?_ (Fw _ _))
  ·exact DF (fun j:Aq=>j.id == c.job.id) (fun j=>{ j with stopped:=true }) Aq.id (fun _=>rfl) s.jobs
  all_goals rfl
 ·unfold register
  split
  ·exact h0
  split
  ·exact ho (IK _ _)
  split
  ·exact h0
  split
  ·split <;> exact h0
  exact ho (IK _ _)
 ·unfold Ec
  split
  ·exact h0
  split
  ·exact h0
  split
  ·exact h0
  split
  ·exact h0
  simp only
  have h1:Over s (c.reports.foldl (report c.node) ({ s with nodes:=Ap (fun n=>n.id == c.node.id) (fun n=>{ n with seq:=c.node.seq }) s.nodes },false)).1:=Over.trans (t:={ s with nodes:=Ap (fun n=>n.id == c.node.id) (fun n=>{ n with seq:=c.node.seq }) s.nodes }) (Over.keep (Part.same rfl rfl rfl) rfl) (Gj c.node c.reports ({ s with nodes:=Ap (fun n=>n.id == c.node.id) (fun n=>{ n with seq:=c.node.seq }) s.nodes },false))
  have h2:=h1.trans (KT _)
  split
  ·exact ho (h2.trans (GI _))
  exact ho h2
 ·unfold down
  split
  ·exact h0
  split
  ·exact h0
  split
  ·exact h0
  refine ho (Over.trans ?_ (Fe _))
  refine Over.pre (s:=s) ?_ ?_ ?_ ?_ (Jz _ _) <;> rfl
 ·unfold drain
  split
  ·exact h0
  simp only
  have h1:Over s (system (s.allocs.foldl (fun t a=>if a.node == c.node.id && !Bv a then eval t a.job else t) { s with nodes:=Ap (fun n=>n.id == c.node.id) (fun n=>{ n with drain:=c.node.drain }) s.nodes })):=by
   refine Over.trans ?_ (Fe _)
   refine Over.pre (s:=s) (t:={ s with nodes:=Ap (fun n=>n.id == c.node.id) (fun n=>{ n with drain:=c.node.drain }) s.nodes }) rfl rfl rfl rfl (GG (f:=fun t a=>if a.node == c.node.id && !Bv a then eval t a.job else t) (fun t a=>?_) _ _)
   split
   ·exact Fw t a.job
   exact Over.refl t
  split
  ·exact ho h1
  exact ho (h1.trans (GI _))
 ·exact OD h hi c
 ·unfold revert
  split
  ·exact h0
  split
  ·exact h0
  split
  ·exact h0
  simp only
  split
  ·refine ho (Over.pre (s:=s) ?_ ?_ ?_ ?_ (Fw _ _)) <;> rfl
  split
  ·refine ho (Over.pre (s:=s) ?_ ?_ ?_ ?_ (Fw _ _)) <;> rfl
  split
  ·exact h0
  refine hb _ (Over.pre (s:=s) ?_ ?_ ?_ ?_ (Over.refl _)) <;> rfl
 exact h0
theorem NM {s:Ab} (h:Evs s) (ix:Int) (c:BV) (hx:s.index≤ix) (hi:1≤ix):Evs (apply s ix c).1∧(apply s ix c).1.index=ix:=by
 have h1:Evs { s with index:=ix }:=⟨h.keys,h.sorted,fun e he=>⟨(h.bound e he).1,Int.le_trans (h.bound e he).2 hx⟩,h.own⟩
 obtain ⟨g1,g2⟩:=G7 h1 hi c
 unfold apply
 simp only
 split
 ·exact ⟨g1,g2⟩
 split
 ·exact ⟨h1,rfl⟩
 split
 ·split <;> exact ⟨h1,rfl⟩
 exact ⟨⟨g1.keys,g1.sorted,g1.bound,g1.own⟩,g2⟩
theorem PZ:Evs new:=⟨rfl,by simp [new],by simp [new],by simp [new]⟩
end Fsm
end
section
open Go.RowKit
namespace Fsm
def JS (s t:Ab):Prop:=t.jobs=s.jobs
theorem P8 (s:Ab) (j:Int):JS s (eval s j):=by unfold eval;split <;> rfl
theorem Np (s:Ab):JS s (looked s):=(EA s).2.1
structure Ik (k:Nat) (s:Ab):Prop where
 jn:(s.jobs.map Aq.id).Nodup
 jv:∀ j∈s.jobs,1≤j.ver∧j.ver≤1099511627776
 nn:(s.nodes.map NodD.id).Nodup
 ne:∀ n∈s.nodes,0≤n.epoch∧n.epoch≤(k:Int)
structure IP (s t:Ab):Prop where
 jobs:∀ j∈s.jobs,∃ i,AU t j.id=some i∧j.ver≤i.ver∧i.ver≤j.ver+1∧i.ty=j.ty
 nodes:∀ n∈s.nodes,∃ m,nodeAt t n.id=some m∧n.epoch≤m.epoch∧m.epoch≤n.epoch+1∧n.boot≤m.boot∧(m.epoch=n.epoch→n.seq≤m.seq)
theorem Gr {α:Type} (key:α→Int):∀ {l:List α},(l.map key).Nodup→∀ {x:α},x∈l→l.find? (fun y=>key y == key x)=some x
 | [],_,_,h=>by cases h
 | y :: r,hn,x,h=>by
  rw [List.map_cons,List.nodup_cons] at hn
  rw [List.find?_cons]
  rcases List.mem_cons.1 h with rfl|h
  ·simp
  have:key y ≠ key x:=fun e=>hn.1 (List.mem_map.2 ⟨x,h,e.symm⟩)
  rw [show (key y == key x)=false by simp [this]]
  exact Gr key hn.2 h
theorem IP.refl {k:Nat} {s:Ab} (h:Ik k s):IP s s :=
 ⟨fun j hj=>⟨j,Gr Aq.id h.jn hj,Int.le_refl _,by omega,rfl⟩,fun n hn=>⟨n,Gr NodD.id h.nn hn,Int.le_refl _,by omega,Int.le_refl _,fun _=>Int.le_refl _⟩⟩
theorem IP.same {k:Nat} {s t:Ab} (h:Ik k s) (h1:t.jobs=s.jobs) (h2:t.nodes=s.nodes):IP s t∧Ik k t:=by
 have h3:∀ x,AU t x=AU s x:=fun x=>by rw [AU,AU,h1]
 have h4:∀ x,nodeAt t x=nodeAt s x:=fun x=>by rw [nodeAt,nodeAt,h2]
 have r:=IP.refl h
 exact ⟨⟨fun j hj=>by rw [h3];exact r.jobs j hj,fun n hn=>by rw [h4];exact r.nodes n hn⟩,⟨by rw [h1];exact h.jn,by rw [h1];exact h.jv,by rw [h2];exact h.nn,by rw [h2];exact h.ne⟩⟩
theorem Ik.more {k k' : Nat} {s:Ab} (h:Ik k s) (hk:k≤k'):Ik k' s:=⟨h.jn,h.jv,h.nn,fun n hn=>⟨(h.ne n hn).1,by have:=(h.ne n hn).2;omega⟩⟩
theorem IP.PO {k:Nat} {s t:Ab} (h:Ik k s) (j:Aq) (h1:t.jobs=Ak Aq.id j s.jobs) (h2:t.nodes=s.nodes) (hv:1≤j.ver∧j.ver≤1099511627776) (hj:∀ i∈s.jobs,i.id=j.id→i.ver≤j.ver∧j.ver≤i.ver+1∧j.ty=i.ty):IP s t∧Ik k t:=by
 have h4:∀ x,nodeAt t x=nodeAt s x:=fun x=>by rw [nodeAt,nodeAt,h2]
 have r:=IP.refl h
 refine ⟨⟨fun i hi=>?_,fun n hn=>by rw [h4];exact r.nodes n hn⟩,⟨by rw [h1];exact IA h.jn,fun i hi=>?_,by rw [h2];exact h.nn,by rw [h2];exact h.ne⟩⟩
 ·rw [AU,h1]
  by_cases hid:i.id=j.id
  ·obtain ⟨a,b,c⟩:=hj i hi hid
   rw [hid]
   exact ⟨j,GJ _,a,b,c⟩
  rw [Du hid]
  exact r.jobs i hi
 rw [h1] at hi
 rcases putL_mem hi with rfl|⟨hi,_⟩
 ·exact hv
 exact h.jv i hi
theorem IP.IY {k:Nat} {s t:Ab} (h:Ik k s) (n:NodD) (h1:t.nodes=Ak NodD.id n s.nodes) (h2:t.jobs=s.jobs) (hv:0≤n.epoch∧n.epoch≤(k:Int)+1) (hn:∀ i∈s.nodes,i.id=n.id→i.epoch≤n.epoch∧n.epoch≤i.epoch+1∧i.boot≤n.boot∧(n.epoch=i.epoch→i.seq≤n.seq)):IP s t∧Ik (k+1) t:=by
 have h4:∀ x,AU t x=AU s x:=fun x=>by rw [AU,AU,h2]
 have r:=IP.refl h
 refine ⟨⟨fun j hj=>by rw [h4];exact r.jobs j hj,fun i hi=>?_⟩,⟨by rw [h2];exact h.jn,by rw [h2];exact h.jv,by rw [h1];exact IA h.nn,fun i hi=>?_⟩⟩
 ·rw [nodeAt,h1]
  by_cases hid:i.id=n.id
  ·obtain ⟨a,b,c,d⟩:=hn i hi hid
   rw [hid]
   exact ⟨n,GJ _,a,b,c,d⟩
  rw [Du hid]
  exact r.nodes i hi
 rw [h1] at hi
 rcases putL_mem hi with rfl|⟨hi,_⟩
 ·exact ⟨hv.1,by have:=hv.2;omega⟩
 have:=h.ne i hi;exact ⟨this.1,by omega⟩
end Fsm
end
section
open Go.RowKit
def Aq.ok (x:Aq):Prop:=(In64 x.id∧In64 x.ty∧In64 x.prio∧In64 x.par∧In64 x.ver)∧(∀ g∈x.groups,g.ok)∧x.groups.length≤1048576
def Co.ok (x:Co):Prop:=(In64 x.client∧In64 x.req∧In64 x.answer.code∧In64 x.answer.value)∧x.answer.allocs=[]
structure BV.ok (c:BV):Prop where
 client:In64 c.client
 req:In64 c.req
 job:c.job.ok
 node:c.node.ok
 rep:∀ r∈c.reports,In64 r.1∧In64 r.2
 pi:In64 c.plan.index
 places:∀ a∈c.plan.places,a.ok
namespace Fsm
theorem DK {α:Type} {P:α→Prop} {key:α→Int} {x:α}:∀ {l:List α},(∀ y∈l,P y)→P x→∀ y∈Ak key x l,P y
 | [],_,hx,y,hy=>by rw [Ak,List.mem_singleton] at hy;subst hy;exact hx
 | z :: r,h,hx,y,hy=>by
  unfold Ak at hy
  split at hy
  ·rcases List.mem_cons.1 hy with rfl|hy
   ·exact hx
   exact h y (List.mem_filter.1 hy).1
  rcases List.mem_cons.1 hy with rfl|hy
  ·exact h y (List.mem_cons_self ..)
  exact DK (fun u hu=>h u (List.mem_cons_of_mem _ hu)) hx y hy
theorem Gw {α:Type} {P:α→Prop} {p:α→Bool} {f:α→α} (hf:∀ y,P y→P (f y)):∀ {l:List α},(∀ y∈l,P y)→∀ y∈Ap p f l,P y
 | [],_,y,hy=>by cases hy
 | z :: r,h,y,hy=>by
  unfold Ap at hy
  split at hy
  ·rcases List.mem_cons.1 hy with rfl|hy
   ·exact hf z (h z (List.mem_cons_self ..))
   exact h y (List.mem_cons_of_mem _ hy)
  rcases List.mem_cons.1 hy with rfl|hy
  ·exact h y (List.mem_cons_self ..)
  exact Gw hf (fun u hu=>h u (List.mem_cons_of_mem _ hu)) y hy
theorem Cr {α:Type} {key:α→Int} {x:α}:∀ l:List α,(Ak key x l).length≤l.length+1
 | []=>by simp [Ak]
 | z :: r=>by
  unfold Ak
  split
  ·have:=List.length_filter_le (fun y=>!(key y == key x)) (z :: r)
   simp only [List.length_cons] at this ⊢
   omega
  have:=Cr (key:=key) (x:=x) r
  simp only [List.length_cons]
  omega
theorem DJ {α:Type} {p:α→Bool} {f:α→α}:∀ l:List α,(Ap p f l).length=l.length
 | []=>rfl
 | z :: r=>by
  unfold Ap
  split
  ·rfl
  simp only [List.length_cons,DJ r]
structure EH (s:Ab):Prop where
 ix:In64 s.index
 nx:In64 s.next
 j:∀ x∈s.jobs,x.ok
 t:∀ x∈s.stable,x.ok
 n:∀ x∈s.nodes,x.ok
 a:∀ x∈s.allocs,x.ok
 e:∀ x∈s.evals,x.ok
 d:∀ x∈s.deploys,x.ok
 x:∀ x∈s.seen,x.ok
theorem EH.wN {s:Ab} (h:EH s) {l:List NodD} (hl:∀ x∈l,x.ok):EH { s with nodes:=l }:=⟨h.ix,h.nx,h.j,h.t,hl,h.a,h.e,h.d,h.x⟩
theorem EH.wA {s:Ab} (h:EH s) {l:List Ac} (hl:∀ x∈l,x.ok):EH { s with allocs:=l }:=⟨h.ix,h.nx,h.j,h.t,h.n,hl,h.e,h.d,h.x⟩
theorem EH.wD {s:Ab} (h:EH s) {l:List DepD} (hl:∀ x∈l,x.ok):EH { s with deploys:=l }:=⟨h.ix,h.nx,h.j,h.t,h.n,h.a,h.e,hl,h.x⟩
theorem EH.wE {s:Ab} (h:EH s) {l:List EvalD} (hl:∀ x∈l,x.ok):EH { s with evals:=l }:=⟨h.ix,h.nx,h.j,h.t,h.n,h.a,hl,h.d,h.x⟩
theorem EH.wX {s:Ab} (h:EH s) {l:List Co} (hl:∀ x∈l,x.ok):EH { s with seen:=l }:=⟨h.ix,h.nx,h.j,h.t,h.n,h.a,h.e,h.d,hl⟩
theorem EH.AU {s:Ab} (h:EH s) {i:Int} {j:Aq} (e:AU s i=some j):j.ok:=h.j j (List.mem_of_find?_eq_some e)
end Fsm
end
section
open Go.RowKit
namespace Fsm
def Ju {α:Type} (x:α) (z:List α × Bool):List α:=if z.2 then z.1 else z.1 ++ [x]
section
variable {α:Type} {key:α→Int} {x:α}
theorem Ew {p:α→Bool} {f:α→α}:∀ {l:List α},l.find? p=none→Ap p f l=l
 | [],_=>rfl
 | y :: r,h=>by
  rw [List.find?_cons] at h
  unfold Ap
  cases hp:p y with
  | true=>rw [hp] at h;cases h
  | false=>rw [hp] at h;simp [Ew h]
theorem BF {p:α→Bool} {f:α→α}:∀ {l:List α} {i:Nat} {x:α},l[i]? = some x→p x=true→(∀ j < i,∀ y,l[j]? = some y→p y=false)→Ap p f l=l.set i (f x)
 | [],i,x,h,_,_=>by simp at h
 | y :: r,0,x,h,hp,_=>by
  simp at h;subst h
  unfold Ap
  rw [if_pos hp];rfl
 | y :: r,i+1,x,h,hp,hno=>by
  have hy:p y=false:=hno 0 (by omega) y rfl
  unfold Ap
  rw [hy,BF (i:=i) (x:=x) (by simpa using h) hp (fun j hj z hz=>hno (j+1) (by omega) z (by simpa using hz))]
  rfl
def upto (f:α→α) (t:Nat) (l:List α):List α:=(l.take t).map f ++ l.drop t
theorem JZ (f:α→α) (l:List α):upto f 0 l=l:=by simp [upto]
theorem Oo (f:α→α) {t:Nat} {l:List α} (h:l.length≤t):upto f t l=l.map f:=by simp [upto,List.take_of_length_le h,List.drop_of_length_le h]
theorem upto_len (f:α→α) (t:Nat) (l:List α):(upto f t l).length=l.length:=by simp [upto];omega
theorem KC (f:α→α) {t:Nat} {l:List α} (h:t < l.length):(upto f t l)[t]? = some l[t]:=by
 rw [upto,List.getElem?_append_right (by simp;omega)]
 simp
 rw [Nat.min_eq_left (by omega)]
 simp
theorem JW (f:α→α) {t:Nat} {l:List α} (h:t < l.length):upto f (t+1) l=(upto f t l).set t (f l[t]):=by
 apply List.ext_getElem?
 intro i
 rw [List.getElem?_set]
 simp only [upto_len]
 have hl:(l.take t).length=t:=by simp;omega
 have hl1:(l.take (t+1)).length=t+1:=by simp;omega
 by_cases h1:t=i
 ·subst h1
  rw [if_pos rfl,if_pos h,upto,List.getElem?_append_left (by simp;omega)]
  simp
  exact ⟨l[t],List.getElem?_eq_getElem h,rfl⟩
 rw [if_neg h1]
 by_cases h2:i < t
 ·rw [upto,upto,List.getElem?_append_left (by simp;omega),List.getElem?_append_left (by simp;omega)]
  simp [List.getElem?_take,h2,show i < t+1 by omega]
 rw [upto,upto,List.getElem?_append_right (by simp;omega),List.getElem?_append_right (by simp;omega)]
 simp
 congr 1
 omega
theorem P7 {f:α→α} {t:Nat} {l:List α} (h:t < l.length) (e:f l[t]=l[t]):upto f (t+1) l=upto f t l:=by
 rw [JW f h,e]
 apply List.ext_getElem?
 intro i
 rw [List.getElem?_set]
 by_cases h1:t=i
 ·subst h1
  rw [if_pos rfl,if_pos (by rw [upto_len];exact h),KC f h]
 rw [if_neg h1]
end
theorem Eg (s:Ab) (j:Int):(eval s j).evals.length≤s.evals.length+1:=by
 unfold eval
 split
 ·omega
 exact Cr _
end Fsm
end
section
open Go.RowKit
theorem K6 {α:Type} {f:α→List Value} {sz:Nat} (hf:∀ x,(f x).length=sz) {x x' : α} {j:Nat} {u:Value} (hj:j < sz) (hx:f x' = (f x).set j u):∀ {xs:List α} {i:Nat},xs[i]? = some x→(xs.set i x').flatMap f=(xs.flatMap f).set (i*sz+j) u
 | [],i,h=>by simp at h
 | y :: r,0,h=>by
  simp at h;subst h
  rw [List.set_cons_zero,List.flatMap_cons,List.flatMap_cons,Nat.zero_mul,Nat.zero_add,List.set_append_left _ _ (by rw [hf];exact hj),hx]
 | y :: r,i+1,h=>by
  rw [List.set_cons_succ,List.flatMap_cons,List.flatMap_cons,K6 hf hj hx (xs:=r) (i:=i) (by simpa using h),List.set_append_right _ _ (by rw [hf,Nat.add_mul];omega),hf,show (i+1)*sz+j - sz=i*sz+j from by rw [Nat.add_mul];omega]
theorem Ff {α:Type} {f:α→List Value} {w:World} {base e sz n g c:Nat} {A:Option Addr} {xs:List α} (hf:∀ x,(f x).length=sz) (h:w.ownsRow base e sz (.slice A n c) n (xs.flatMap f)) (hn:n=xs.length) {i:Nat} {x x' : α} {j:Nat} {u:Value} (hi:xs[i]? = some x) (hj:j < sz) (hx:f x' = (f x).set j u) (hA:A=some ⟨g,0,none⟩) :
  (w.setCell ⟨g,i*sz+j,none⟩ u).ownsRow base e sz (.slice A n c) n ((xs.set i x').flatMap f):=by
 have hfl:=K6 hf hj hx hi
 refine ⟨by rw [hfl,List.length_set];exact h.1,?_⟩
 rcases h.2 with ⟨h1,h2⟩|⟨g',cap,cur,hv,hb,hg,h1,h2,h3,h4⟩
 ·subst hA;cases h1
 injection hv with hA' _ hc
 subst hA
 injection hA' with hA'
 injection hA' with hA'
 subst hA'
 subst hc
 refine .inr ⟨g,c,cur.setIfInBounds (i*sz+j) u,rfl,hb,Blk.Bi hg _ _,h1,h2,by simpa using h3,?_⟩
 rw [hfl,← h4,Array.toList_setIfInBounds]
 rw [List.take_set]
 try rfl
theorem GL {α:Type} {f:α→List Value} {w:World} {base e sz n c:Nat} {A:Option Addr} {xs:List α} (h:w.ownsRow base e sz (.slice A n c) n (xs.flatMap f)) (hn:n=xs.length) {i:Nat} (hi:i < xs.length):∃ g cur,A=some ⟨g,0,none⟩∧(Value.slice A n c).ownBlock=some g∧Blk w g e cur:=by
 rcases h.2 with ⟨h1,h2⟩|⟨g',cap,cur,hv,hb,hg,_⟩
 ·omega
 injection hv with hA _ _
 exact ⟨g',cur,hA,by rw [hA];rfl,hg⟩
theorem CG {α:Type} {f:α→List Value} {w:World} {base e sz n c:Nat} {A:Option Addr} {xs:List α} {x:α} {cs:List Value} (h:w.ownsRow base e sz (.slice A (n+1) c) (n+1) (xs.flatMap f ++ cs)) (hcs:cs=f x) (hn:xs.length=n) :
  w.ownsRow base e sz (.slice A (xs ++ [x]).length c) (xs ++ [x]).length ((xs ++ [x]).flatMap f):=by
 rw [show (xs ++ [x]).length=n+1 from by simp [hn],List.flatMap_append,List.flatMap_singleton,← hcs];exact h
section
variable {P:Program} {w:World} {ops:Array Oper} {rest:List Oper} {o1 o2:Oper} {a:Act} {Q:Exit→Act→World→Prop}
theorem isW {o:Oper} (h:wpList P ops Q (o :: rest) a w):wpList P ops Q (o :: rest) a w:=h
theorem Jh (h:wpList P ops Q (o1 :: o2 :: rest) a w):wpList P ops Q (o1 :: o2 :: rest) a w:=h
theorem D7 (hg1:o1.guard=none) (hg2:o2.guard=none) (t:TypeId) (x:Operand) (ho1:o1.op=.buildSlice t 1 #[(0,x)]) (s y:Operand) (ho2:o2.op=.call { callee:=.builtin .append,args:=#[s,y],argTypes:=#[t,t] })
  {e sz:Nat} (E:Bg P t e sz) (cs:Array Value) (hx:(a.eval x).cells=cs) (hv:cs.size=sz) (base:Nat) (v:Value) (n:Nat) (xs:List Value)
  (hs:(a.put o1.dst (.slice (some ⟨w.heap.size,0,none⟩) 1 1)).eval s=v) (hy:(a.put o1.dst (.slice (some ⟨w.heap.size,0,none⟩) 1 1)).eval y=.slice (some ⟨w.heap.size,0,none⟩) 1 1)
  (hown:w.ownsRow base e sz v n xs) (h1:cs.toList.all Value.oneCell' = true) (hn:n < 67108864) (hbase:base≤w.heap.size)
  (h:∀ A' c' w',w'.ownsRow base e sz (.slice A' (n+1) c') (n+1) (xs ++ cs.toList)→Ext (fun q=>v.ownBlock=some q) w w'→wpList P ops Q rest ((a.put o1.dst (.slice (some ⟨w.heap.size,0,none⟩) 1 1)).put o2.dst (.slice A' (n+1) c')) w') :
  wpList P ops Q (o1 :: o2 :: rest) a w:=by
 have hx0:Ext Nothing w (w.alloc (.cells cs e)):=(Ext.refl _ _).alloc _
 refine AZ hg1 t x ho1 E cs hx hv ?_
 refine G6 hg2 s y t ho2 base E v n xs hs (Am hown hx0 (fun _ _ e=>e)) w.heap.size 1 cs hy (Blk.new _ _ _) hv h1 hn (by have:=hx0.size;omega) ?_
 intro A' c' w' o g
 exact h A' c' w' o (((Ext.refl (fun q=>v.ownBlock=some q) w).alloc _).grown g (fun q e=>.inr e))
end
def Aa.Bf (s:Aa) (A:Option Addr) (c:Nat) (l:List EvalD):Aa:={ s with AE:=A,nE:=l.length,cE:=c,evals:=l }
def Aa.DT (s:Aa) (A:Option Addr) (c:Nat) (l:List DepD):Aa:={ s with AD:=A,nD:=l.length,cD:=c,deploys:=l }
def Aa.I9 (s:Aa) (A:Option Addr) (c:Nat) (l:List Ac):Aa:={ s with AA:=A,nA:=l.length,cA:=c,allocs:=l }
def Aa.BP (s:Aa) (A:Option Addr) (c:Nat) (l:List NodD):Aa:={ s with AN:=A,nN:=l.length,cN:=c,nodes:=l }
def Aa.FV (s:Aa) (A:Option Addr) (c:Nat) (l:List SeenV):Aa:={ s with AX:=A,nX:=l.length,cX:=c,seen:=l }
def Aa.Cz (s:Aa) (A:Option Addr) (c:Nat) (l:List JobV):Aa:={ s with AJ:=A,nJ:=l.length,cJ:=c,jobs:=l }
def Aa.Mq (s:Aa) (A:Option Addr) (c:Nat) (l:List JobV):Aa:={ s with AS:=A,nS:=l.length,cS:=c,stable:=l }
def Aa.data (s:Aa):Ab:=⟨s.index,s.next,s.jobs.map (·.1),s.stable.map (·.1),s.nodes,s.allocs,s.evals,s.deploys,s.seen.map (·.1)⟩
abbrev El:List TypeId:=[39,66,43,55,68,74,89]
def vJ (s:Aa):Value:=.slice s.AJ s.nJ s.cJ
def vS (s:Aa):Value:=.slice s.AS s.nS s.cS
def vN (s:Aa):Value:=.slice s.AN s.nN s.cN
def vA (s:Aa):Value:=.slice s.AA s.nA s.cA
def vE (s:Aa):Value:=.slice s.AE s.nE s.cE
def vD (s:Aa):Value:=.slice s.AD s.nD s.cD
def vX (s:Aa):Value:=.slice s.AX s.nX s.cX
abbrev Aa.arr (s:Aa):Array Value:=#[.int .i64 s.index,.int .i64 s.next,.slice s.AJ s.nJ s.cJ,.slice s.AS s.nS s.cS,.slice s.AN s.nN s.cN,.slice s.AA s.nA s.cA,.slice s.AE s.nE s.cE,.slice s.AD s.nD s.cD,.slice s.AX s.nX s.cX]
structure Aw (base:Nat) (W:World) (s:Aa):Prop where
 j:BC base W (.slice s.AJ s.nJ s.cJ) s.jobs
 jl:s.nJ=s.jobs.length
 t:BC base W (.slice s.AS s.nS s.cS) s.stable
 tl:s.nS=s.stable.length
 n:W.ownsRow base 43 8 (.slice s.AN s.nN s.cN) s.nodes.length (s.nodes.flatMap NodD.cells)
 nl:s.nN=s.nodes.length
 a:W.ownsRow base 55 11 (.slice s.AA s.nA s.cA) s.allocs.length (s.allocs.flatMap Ac.cells)
 al:s.nA=s.allocs.length
 e:W.ownsRow base 68 4 (.slice s.AE s.nE s.cE) s.evals.length (s.evals.flatMap EvalD.cells)
 el:s.nE=s.evals.length
 d:W.ownsRow base 74 4 (.slice s.AD s.nD s.cD) s.deploys.length (s.deploys.flatMap DepD.cells)
 dl:s.nD=s.deploys.length
 x:W.ownsRow base 89 5 (.slice s.AX s.nX s.cX) s.seen.length (s.seen.flatMap SeenV.cells)
 xl:s.nX=s.seen.length
 xa:∀ y∈s.seen,∃ A c,y.2=.slice A 0 c∧y.1.answer.allocs=[]
 sep:∀ q,(Value.slice s.AJ s.nJ s.cJ).ownBlock=some q→(Value.slice s.AS s.nS s.cS).ownBlock ≠ some q
section
variable {base:Nat} {W W' : World} {s:Aa} {S:Nat→Prop}
theorem Aw.keep (h:Aw base W s) (hx:Ext S W W') (hS:Apart W S El):Aw base W' s :=
 ⟨h.j.keep hx (hS.less (by decide)),h.jl,h.t.keep hx (hS.less (by decide)),h.tl,Ag h.n hx (hS.less (by decide)),h.nl,Ag h.a hx (hS.less (by decide)),h.al,
  Ag h.e hx (hS.less (by decide)),h.el,Ag h.d hx (hS.less (by decide)),h.dl,Ag h.x hx (hS.less (by decide)),h.xl,h.xa,h.sep⟩
theorem Aw.AP (h:Aw base W s) (hx:Ext Nothing W W'):Aw base W' s:=h.keep hx Apart.none
theorem Aw.index (h:Aw base W s) (i:Int):Aw base W { s with index:=i }:=⟨h.j,h.jl,h.t,h.tl,h.n,h.nl,h.a,h.al,h.e,h.el,h.d,h.dl,h.x,h.xl,h.xa,h.sep⟩
theorem Aw.next (h:Aw base W s) (i:Int):Aw base W { s with next:=i }:=⟨h.j,h.jl,h.t,h.tl,h.n,h.nl,h.a,h.al,h.e,h.el,h.d,h.dl,h.x,h.xl,h.xa,h.sep⟩
theorem Aw.wE (h:Aw base W s) (hx:Ext S W W') (hS:Apart W S [39,66,43,55,74,89]) {A:Option Addr} {c:Nat} {l:List EvalD} (o:W'.ownsRow base 68 4 (.slice A l.length c) l.length (l.flatMap EvalD.cells)):Aw base W' (s.Bf A c l) :=
 ⟨h.j.keep hx (hS.less (by decide)),h.jl,h.t.keep hx (hS.less (by decide)),h.tl,Ag h.n hx (hS.less (by decide)),h.nl,Ag h.a hx (hS.less (by decide)),h.al,
  o,rfl,Ag h.d hx (hS.less (by decide)),h.dl,Ag h.x hx (hS.less (by decide)),h.xl,h.xa,h.sep⟩
theorem Aw.wD (h:Aw base W s) (hx:Ext S W W') (hS:Apart W S [39,66,43,55,68,89]) {A:Option Addr} {c:Nat} {l:List DepD} (o:W'.ownsRow base 74 4 (.slice A l.length c) l.length (l.flatMap DepD.cells)):Aw base W' (s.DT A c l) :=
 ⟨h.j.keep hx (hS.less (by decide)),h.jl,h.t.keep hx (hS.less (by decide)),h.tl,Ag h.n hx (hS.less (by decide)),h.nl,Ag h.a hx (hS.less (by decide)),h.al,
  Ag h.e hx (hS.less (by decide)),h.el,o,rfl,Ag h.x hx (hS.less (by decide)),h.xl,h.xa,h.sep⟩
theorem Aw.wA (h:Aw base W s) (hx:Ext S W W') (hS:Apart W S [39,66,43,68,74,89]) {A:Option Addr} {c:Nat} {l:List Ac} (o:W'.ownsRow base 55 11 (.slice A l.length c) l.length (l.flatMap Ac.cells)):Aw base W' (s.I9 A c l) :=
 ⟨h.j.keep hx (hS.less (by decide)),h.jl,h.t.keep hx (hS.less (by decide)),h.tl,Ag h.n hx (hS.less (by decide)),h.nl,o,rfl,
  Ag h.e hx (hS.less (by decide)),h.el,Ag h.d hx (hS.less (by decide)),h.dl,Ag h.x hx (hS.less (by decide)),h.xl,h.xa,h.sep⟩
theorem Aw.wN (h:Aw base W s) (hx:Ext S W W') (hS:Apart W S [39,66,55,68,74,89]) {A:Option Addr} {c:Nat} {l:List NodD} (o:W'.ownsRow base 43 8 (.slice A l.length c) l.length (l.flatMap NodD.cells)):Aw base W' (s.BP A c l) :=
 ⟨h.j.keep hx (hS.less (by decide)),h.jl,h.t.keep hx (hS.less (by decide)),h.tl,o,rfl,Ag h.a hx (hS.less (by decide)),h.al,
  Ag h.e hx (hS.less (by decide)),h.el,Ag h.d hx (hS.less (by decide)),h.dl,Ag h.x hx (hS.less (by decide)),h.xl,h.xa,h.sep⟩
theorem Aw.wX (h:Aw base W s) (hx:Ext S W W') (hS:Apart W S [39,66,43,55,68,74]) {A:Option Addr} {c:Nat} {l:List SeenV} (o:W'.ownsRow base 89 5 (.slice A l.length c) l.length (l.flatMap SeenV.cells)) (xa:∀ y∈l,∃ A c,y.2=.slice A 0 c∧y.1.answer.allocs=[]):Aw base W' (s.FV A c l) :=
 ⟨h.j.keep hx (hS.less (by decide)),h.jl,h.t.keep hx (hS.less (by decide)),h.tl,Ag h.n hx (hS.less (by decide)),h.nl,Ag h.a hx (hS.less (by decide)),h.al,
  Ag h.e hx (hS.less (by decide)),h.el,Ag h.d hx (hS.less (by decide)),h.dl,o,rfl,xa,h.sep⟩
theorem Aw.slJ (h:Aw base W s):Sl W 7 s.AJ s.nJ (s.jobs.map JobV.cells):=Sl.Bd (fun _=>rfl) (by rw [h.jl];exact h.jl ▸ h.j.own) h.jl
theorem Aw.slT (h:Aw base W s):Sl W 7 s.AS s.nS (s.stable.map JobV.cells):=Sl.Bd (fun _=>rfl) (by rw [h.tl];exact h.tl ▸ h.t.own) h.tl
theorem Aw.slN (h:Aw base W s):Sl W 8 s.AN s.nN (s.nodes.map NodD.cells):=Sl.Bd (fun _=>rfl) (by rw [h.nl];exact h.nl ▸ h.n) h.nl
theorem Aw.slA (h:Aw base W s):Sl W 11 s.AA s.nA (s.allocs.map Ac.cells):=Sl.Bd (fun _=>rfl) (by rw [h.al];exact h.al ▸ h.a) h.al
theorem Aw.slE (h:Aw base W s):Sl W 4 s.AE s.nE (s.evals.map EvalD.cells):=Sl.Bd (fun _=>rfl) (by rw [h.el];exact h.el ▸ h.e) h.el
theorem Aw.slD (h:Aw base W s):Sl W 4 s.AD s.nD (s.deploys.map DepD.cells):=Sl.Bd (fun _=>rfl) (by rw [h.dl];exact h.dl ▸ h.d) h.dl
theorem Aw.slX (h:Aw base W s):Sl W 5 s.AX s.nX (s.seen.map SeenV.cells):=Sl.Bd (fun _=>rfl) (by rw [h.xl];exact h.xl ▸ h.x) h.xl
end
end
section
open Go.RowKit
namespace Fsm
def StT (s:Ab):Prop:=∀ x∈s.stable,∃ j,AU s x.id=some j∧j.ty=x.ty
theorem Le (s:Ab) (j:Aq):(begins s j).jobs=Ak Aq.id j s.jobs:=by
 unfold begins
 simp only
 refine (P8 _ _).trans ?_
 split
 ·exact Np _
 rfl
end Fsm
end
section
open Go.RowKit
namespace Fsm
def SS (s t:Ab):Prop:=t.stable=s.stable∧t.jobs=s.jobs
theorem SS.refl (s:Ab):SS s s:=⟨rfl,rfl⟩
theorem SS.trans {s t u:Ab} (h:SS s t) (k:SS t u):SS s u:=⟨k.1.trans h.1,k.2.trans h.2⟩
theorem Hy {α:Type} {f:Ab→α→Ab} (h:∀ s a,SS s (f s a)):∀ (l:List α) (s:Ab),SS s (l.foldl f s)
 | [],s=>SS.refl s
 | a :: r,s=>(h s a).trans (Hy h r (f s a))
theorem CL (s:Ab) (j:Int):SS s (eval s j):=by unfold eval;split <;> exact ⟨rfl,rfl⟩
theorem M6 (s:Ab):SS s (came s):=⟨rfl,rfl⟩
theorem Gs (s:Ab):SS s (system s):=Hy (fun t j=>by split;exact CL t j.id;exact SS.refl t) s.jobs s
theorem MU (s:Ab) (node:Int):SS s (lost s node):=Hy (fun t i=>by
 unfold AR
 split
 ·exact SS.refl t
 split
 ·exact ⟨(CL _ _).1,(CL _ _).2⟩
 exact SS.refl t) _ s
theorem Lu (s:Ab) (n:NodD):SS s (joins s n):=by
 unfold joins
 obtain ⟨a,b⟩:=Gs (lost { s with nodes:=Ak NodD.id n s.nodes } n.id)
 obtain ⟨c,d⟩:=MU { s with nodes:=Ak NodD.id n s.nodes } n.id
 exact ⟨a.trans c,b.trans d⟩
theorem NF (n:NodD) (z:Ab × Bool) (r:Int × Int):SS z.1 (report n z r).1:=by
 unfold report
 split
 ·exact SS.refl _
 split
 ·exact SS.refl _
 simp only
 split
 ·exact ⟨(CL _ _).1,(CL _ _).2⟩
 split
 ·exact ⟨rfl,rfl⟩
 split
 ·exact ⟨rfl,rfl⟩
 rename_i a _ _ _ _ _ _
 exact ⟨(CL { z.1 with allocs:=Ap (fun a=>a.id == r.1) (fun a=>{ a with state:=r.2 }) z.1.allocs } _).1,(CL { z.1 with allocs:=Ap (fun a=>a.id == r.1) (fun a=>{ a with state:=r.2 }) z.1.allocs } _).2⟩
theorem IM (n:NodD):∀ (l:List (Int × Int)) (z:Ab × Bool),SS z.1 (l.foldl (report n) z).1
 | [],z=>SS.refl _
 | r :: l,z=>(NF n z r).trans (IM n l (report n z r))
theorem placeAll_stable (j:Aq) (n:NodD):∀ (l:List Ac) (s t:Ab),Ck j n l s=some t→t.stable=s.stable
 | [],s,t,e=>by cases e;rfl
 | x :: r,s,t,e=>by
  unfold Ck at e
  rw [List.foldl_cons,show Bc j n (some s) x=if EI s j n x then some (placed s j n x) else none from rfl] at e
  split at e
  ·exact placeAll_stable j n r (placed s j n x) t e
  rw [Cm] at e;cases e
theorem places_ss (s:Ab) (j:Aq) (node:Int) (l:List Ac):SS s (places s j node l).1:=by
 refine ⟨?_,(Ia s j node l).1⟩
 unfold places
 split
 ·rfl
 split
 ·rfl
 split
 ·rfl
 rename_i t ht
 split
 ·rfl
 exact (placeAll_stable _ _ _ _ t ht:t.stable=s.stable)
theorem PG (s:Ab) (c:BV):SS s (plan s c).1:=by
 unfold plan
 simp only
 split
 ·rename_i j e _ _
  split
  ·exact SS.refl s
  have h2:∀ (l:List Int) (z:Ab × Bool),SS z.1 (l.foldl (fun z n=>((places z.1 j n c.plan.places).1,z.2 && (places z.1 j n c.plan.places).2)) z).1:=fun l=>by
   induction l with
   | nil=>intro z;exact SS.refl _
   | cons n r ih =>
    intro z
    exact (places_ss z.1 j n _).trans (ih ((places z.1 j n c.plan.places).1,z.2 && (places z.1 j n c.plan.places).2))
  obtain ⟨k1,k2⟩:=h2 (BK c.plan.places) ({ s with allocs:=stops c.plan.job s.allocs c.plan.stops },true)
  split
  ·exact ⟨k1,k2⟩
  exact ⟨k1,k2⟩
 exact SS.refl s
theorem StT.ss {s t:Ab} (h:StT s) (k:SS s t):StT t:=fun x hx=>by
 rw [k.1] at hx
 rw [AU,k.2]
 exact h x hx
theorem OX {s:Ab} (h:StT s) (i:Nat):StT (AF s i):=by
 unfold AF
 split
 ·exact h
 split
 ·exact h
 rename_i j hj
 split
 ·intro x hx
  rcases putL_mem hx with rfl|⟨hx,_⟩
  ·have hid:=(Fj hj).1
   have hq:AU s x.id=some x:=by rw [hid];exact hj
   exact ⟨x,hq,rfl⟩
  exact h x hx
 exact h
theorem I1 {s:Ab} (h:StT s):StT (looked s):=by
 have:∀ (l:List Nat) (s:Ab),StT s→StT (l.foldl AF s):=fun l=>by
  induction l with
  | nil=>intro s h;exact h
  | cons i r ih=>intro s h;exact ih _ (OX h i)
 exact this _ s h
theorem FP {s:Ab} (h:StT s) (j:Aq) (hj:∀ q,AU s j.id=some q→j.ty=q.ty):StT (begins s j):=by
 have h1:StT { s with jobs:=Ak Aq.id j s.jobs }:=fun x hx=>by
  obtain ⟨q,hq,e⟩:=h x hx
  by_cases hid:x.id=j.id
  ·refine ⟨j,?_,?_⟩
   ·show (Ak Aq.id j s.jobs).find? (fun y=>y.id == x.id)=some j
    rw [hid];exact GJ _
   rw [hid] at hq
   rw [hj q hq];exact e
  refine ⟨q,?_,e⟩
  show (Ak Aq.id j s.jobs).find? (fun y=>y.id == x.id)=some q
  rw [Du hid];exact hq
 unfold begins
 simp only
 refine StT.ss ?_ (CL _ _)
 split
 ·exact I1 (fun x hx=>h1 x hx)
 exact h1
theorem Lb {s:Ab} (h:StT s) (c:BV):StT (command s c).1:=by
 unfold command
 repeat' split
 ·exact h
 ·unfold BZ
  split
  ·exact h
  split
  ·rename_i g hg
   split
   ·exact h
   rename_i hc
   refine FP h _ (fun q hq=>?_)
   have hq' : AU s c.job.id=some q:=hq
   rw [hg] at hq';cases hq'
   cases hqq:(g.ty == c.job.ty) with
   | true=>exact (by simpa using hqq:g.ty=c.job.ty).symm
   | false=>rw [hqq] at hc;simp at hc
  rename_i hg
  split
  ·exact h
  refine FP h _ (fun q hq=>?_)
  have hq' : AU s c.job.id=some q:=hq
  rw [hg] at hq';cases hq'
 ·unfold cancel
  split
  ·exact h
  refine StT.ss (s:={ s with jobs:=Ap (fun j=>j.id == c.job.id) (fun j=>{ j with stopped:=true }) s.jobs,deploys:=Ap (fun d=>d.job == c.job.id) (fun d=>if d.state == 1 then { d with state:=3 } else d) s.deploys }) (fun x hx=>?_) (CL _ _)
  obtain ⟨q,hq,e⟩:=h x hx
  show ∃ j,(Ap (fun j:Aq=>j.id == c.job.id) (fun j=>{ j with stopped:=true }) s.jobs).find? (fun y=>y.id == x.id)=some j∧j.ty=x.ty
  by_cases hid:x.id=c.job.id
  ·refine ⟨{ q with stopped:=true },?_,e⟩
   rw [hid,Ml (fun j:Aq=>j.id == c.job.id) (fun j=>{ j with stopped:=true }) (fun _=>rfl)]
   have hq' : s.jobs.find? (fun j=>j.id == c.job.id)=some q:=by rw [← hid];exact hq
   rw [hq'];rfl
  refine ⟨q,?_,e⟩
  rw [Gn _ _ _ (fun a ha=>?_)]
  ·exact hq
  have ha' : a.id=c.job.id:=by simpa using ha
  exact ⟨by simp [ha',Ne.symm hid],by simp [ha',Ne.symm hid]⟩
 ·unfold register
  split
  ·exact h
  split
  ·exact h.ss (Lu _ _)
  split
  ·exact h
  split
  ·split <;> exact h
  exact h.ss (Lu _ _)
 ·unfold Ec
  split
  ·exact h
  split
  ·exact h
  split
  ·exact h
  split
  ·exact h
  simp only
  have h1:StT (c.reports.foldl (report c.node) ({ s with nodes:=Ap (fun n=>n.id == c.node.id) (fun n=>{ n with seq:=c.node.seq }) s.nodes },false)).1:=StT.ss (s:={ s with nodes:=Ap (fun n=>n.id == c.node.id) (fun n=>{ n with seq:=c.node.seq }) s.nodes }) (h.ss ⟨rfl,rfl⟩) (IM c.node c.reports ({ s with nodes:=Ap (fun n=>n.id == c.node.id) (fun n=>{ n with seq:=c.node.seq }) s.nodes },false))
  have h2:=I1 h1
  split
  ·exact h2.ss (M6 _)
  exact h2
 ·unfold down
  split
  ·exact h
  split
  ·exact h
  split
  ·exact h
  have h1:StT { s with nodes:=Ap (fun n=>n.id == c.node.id) (fun n=>{ n with up:=false,epoch:=wrap64 (n.epoch+1) }) s.nodes }:=h.ss ⟨rfl,rfl⟩
  exact (h1.ss (MU _ _)).ss (Gs _)
 ·unfold drain
  split
  ·exact h
  simp only
  have h1:StT { s with nodes:=Ap (fun n=>n.id == c.node.id) (fun n=>{ n with drain:=c.node.drain }) s.nodes }:=h.ss ⟨rfl,rfl⟩
  have h2:=(h1.ss (Hy (f:=fun t (a:Ac)=>if a.node == c.node.id && !Bv a then eval t a.job else t) (fun t a=>by split;exact CL t a.job;exact SS.refl t) s.allocs _)).ss (Gs _)
  split
  ·exact h2
  exact h2.ss (M6 _)
 ·exact h.ss (PG s c)
 ·unfold revert
  split
  ·exact h
  rename_i g hg
  split
  ·exact h
  split
  ·exact h
  simp only
  split
  ·exact StT.ss (s:={ s with deploys:=Ap (fun d=>d.job == g.id) (fun d=>{ d with state:=3 }) s.deploys }) (h.ss ⟨rfl,rfl⟩) (CL _ _)
  rename_i x hx
  split
  ·exact StT.ss (s:={ s with deploys:=Ap (fun d=>d.job == g.id) (fun d=>{ d with state:=3 }) s.deploys }) (h.ss ⟨rfl,rfl⟩) (CL _ _)
  split
  ·exact h
  obtain ⟨q,hq,e⟩:=h x (List.mem_of_find?_eq_some hx)
  refine FP (s:={ s with deploys:=Ap (fun d=>d.job == g.id) (fun d=>{ d with state:=3 }) s.deploys }) (h.ss ⟨rfl,rfl⟩) _ (fun p hp=>?_)
  have hp' : AU s x.id=some p:=hp
  rw [hq] at hp';cases hp'
  exact e.symm
 exact h
theorem Ni {s:Ab} (h:StT s) (ix:Int) (c:BV):StT (apply s ix c).1:=by
 have s1:StT { s with index:=ix }:=h.ss ⟨rfl,rfl⟩
 have st:=Lb s1 c
 unfold apply
 simp only
 split
 ·exact st
 split
 ·exact s1
 split
 ·split <;> exact s1
 exact st.ss ⟨rfl,rfl⟩
theorem Oe:Ik 0 new∧StT new:=⟨⟨by simp [new],by simp [new],by simp [new],by simp [new]⟩,by intro x hx;simp [new] at hx⟩
end Fsm
end
end Go.Proofs.YtccekmeifanipaaGreat
