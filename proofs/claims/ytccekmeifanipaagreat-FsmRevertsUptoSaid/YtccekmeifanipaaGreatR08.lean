/- Parts of the proof: FsmI FsmJ FsmK FsmN FsmO FsmL FsmE -/
import Derived.Test.YtccekmeifanipaaGreatR07
namespace Go.Proofs.YtccekmeifanipaaGreat
set_option linter.unusedVariables false
set_option linter.unusedSimpArgs false
set_option linter.unusedSectionVars false
section
open Go.RowKit
namespace Fsm
section
variable {α:Type} {key:α→Int} {x:α}
theorem putL_mem {l:List α} {y:α} (h:y∈Aj key x l):y=x ∨ (y∈l∧key y ≠ key x):=by
 induction l with
 | nil=>simp [Aj] at h;exact .inl h
 | cons z r ih =>
  unfold Aj at h
  split at h
  ·rcases List.mem_cons.1 h with h|h
   ·exact .inl h
   obtain ⟨h1,h2⟩:=List.mem_filter.1 h
   exact .inr ⟨h1,by simpa using h2⟩
  rename_i hk
  rcases List.mem_cons.1 h with h|h
  ·subst h;exact .inr ⟨List.mem_cons_self ..,by omega⟩
  rcases ih h with h|⟨h1,h2⟩
  ·exact .inl h
  exact .inr ⟨List.mem_cons_of_mem _ h1,h2⟩
theorem JA {l:List α} (h:(l.map key).Nodup):((Aj key x l).map key).Nodup:=by
 induction l with
 | nil=>simp [Aj]
 | cons z r ih =>
  unfold Aj
  split
  ·rw [List.map_cons,List.nodup_cons]
   refine ⟨fun hm=>?_,?_⟩
   ·obtain ⟨y,hy,e⟩:=List.mem_map.1 hm
    have:=(List.mem_filter.1 hy).2
    simp [e] at this
   exact h.sublist (List.Sublist.map _ List.filter_sublist)
  rename_i hk
  rw [List.map_cons,List.nodup_cons] at h ⊢
  refine ⟨fun hm=>?_,ih h.2⟩
  obtain ⟨y,hy,e⟩:=List.mem_map.1 hm
  rcases putL_mem hy with rfl|⟨h1,_⟩
  ·omega
  exact h.1 (List.mem_map.2 ⟨y,h1,e⟩)
theorem Dx (l:List α):(Aj key x l).find? (fun y=>key y == key x)=some x:=by
 induction l with
 | nil=>simp [Aj]
 | cons z r ih =>
  unfold Aj
  split
  ·simp
  rename_i hk
  rw [List.find?_cons,show (key z == key x)=false by simp;omega]
  exact ih
theorem CU {i:Int} (hi:i ≠ key x) (l:List α):(Aj key x l).find? (fun y=>key y == i)=l.find? (fun y=>key y == i):=by
 induction l with
 | nil=>simp [Aj,Ne.symm hi]
 | cons z r ih =>
  unfold Aj
  split
  ·rw [List.find?_cons,show (key x == i)=false by simp;exact Ne.symm hi]
   simp only
   generalize z :: r=m
   induction m with
   | nil=>rfl
   | cons y t ih =>
    rw [List.filter_cons]
    split
    ·rw [List.find?_cons,List.find?_cons,ih]
    rename_i hy
    rw [List.find?_cons,ih]
    have:key y=key x:=by simpa using hy
    rw [show (key y == i)=false by simp [this];exact Ne.symm hi]
  rw [List.find?_cons,List.find?_cons,ih]
theorem CE {β:Type} (p:α→Bool) (f:α→α) (g:α→β) (h:∀ a,g (f a)=g a) (l:List α):(turn1 p f l).map g=l.map g:=by
 induction l with
 | nil=>rfl
 | cons y r ih =>
  unfold turn1
  split
  ·simp [h]
  simp [ih]
theorem Ee (p:α→Bool) (f:α→α) (h:∀ a,p (f a)=p a) (l:List α):(turn1 p f l).find? p=(l.find? p).map f:=by
 induction l with
 | nil=>rfl
 | cons y r ih =>
  unfold turn1
  split
  ·rename_i hp
   simp [List.find?_cons,h,hp]
  rename_i hp
  have hp' : p y=false:=by simpa using hp
  simp [List.find?_cons,hp',ih]
theorem Dy (p q:α→Bool) (f:α→α) (h:∀ a,p a=true→q (f a)=false∧q a=false) (l:List α):(turn1 p f l).find? q=l.find? q:=by
 induction l with
 | nil=>rfl
 | cons y r ih =>
  unfold turn1
  split
  ·rename_i hp
   obtain ⟨h1,h2⟩:=h y hp
   simp [List.find?_cons,h1,h2]
  simp [List.find?_cons,ih]
end
def core (a:Ac):Ac:={ a with stop:=false,state:=1 }
structure On (a b:Ac):Prop where
 core:core b=core a
 rise:a.state≤b.state
 past:overB a=true→b.state=a.state
 stop:a.stop=true→b.stop=true
theorem On.over {a b:Ac} (h:On a b) (ha:overB a=true):overB b=true:=by
 have:=h.past ha
 simp only [overB,decide_eq_true_eq] at ha ⊢
 omega
theorem On.refl (a:Ac):On a a:=⟨rfl,Int.le_refl _,fun _=>rfl,id⟩
theorem On.trans {a b c:Ac} (h:On a b) (k:On b c):On a c:=⟨k.core.trans h.core,Int.le_trans h.rise k.rise,fun e=>(k.past (h.over e)).trans (h.past e),fun e=>k.stop (h.stop e)⟩
def Ons:List Ac→List Ac→Prop
 | [],[]=>True
 | a :: l,b :: m=>On a b∧Ons l m
 | _,_=>False
theorem Ons.refl:∀ l:List Ac,Ons l l
 | []=>trivial
 | a :: r=>⟨On.refl a,Ons.refl r⟩
theorem Ons.trans:∀ {l m n:List Ac},Ons l m→Ons m n→Ons l n
 | [],[],[],_,_=>trivial
 | _ :: _,_ :: _,_ :: _,h,k=>⟨h.1.trans k.1,Ons.trans h.2 k.2⟩
 | [],[],_ :: _,_,k=>k.elim
 | [],_ :: _,_,h,_=>h.elim
 | _ :: _,[],_,h,_=>h.elim
 | _ :: _,_ :: _,[],_,k=>k.elim
theorem Ons.turn1 (p:Ac→Bool) (f:Ac→Ac) (h:∀ a,p a=true→On a (f a)):∀ l,Ons l (Fsm.turn1 p f l)
 | []=>trivial
 | a :: r=>by
  unfold Fsm.turn1
  split
  ·rename_i hp;exact ⟨h a hp,Ons.refl r⟩
  exact ⟨On.refl a,Ons.turn1 p f h r⟩
theorem Ons.set:∀ (l:List Ac) (i:Nat) (b:Ac),(∀ a,l[i]? = some a→On a b)→Ons l (l.set i b)
 | [],_,_,_=>trivial
 | a :: r,0,b,h=>⟨h a rfl,Ons.refl r⟩
 | a :: r,i+1,b,h=>⟨On.refl a,Ons.set r i b (fun c hc=>h c (by simpa using hc))⟩
def Eb (l:List Ac):List Ac:=(l.filter (fun a=>!overB a)).map core
theorem Ons.mem:∀ {l m:List Ac},Ons l m→∀ {b:Ac},b∈m→∃ a∈l,On a b
 | [],[],_,_,hb=>by cases hb
 | [],_ :: _,h,_,_=>h.elim
 | _ :: _,[],h,_,_=>h.elim
 | a :: l,c :: m,h,b,hb=>by
  rcases List.mem_cons.1 hb with rfl|hb
  ·exact ⟨_,List.mem_cons_self ..,h.1⟩
  obtain ⟨a',ha,k⟩:=Ons.mem h.2 hb
  exact ⟨a',List.mem_cons_of_mem _ ha,k⟩
theorem DJ {a b:Ac} (h:core b=core a):b.node=a.node∧b.epoch=a.epoch∧b.job=a.job∧b.group=a.group∧b.index=a.index∧b.ask=a.ask∧b.id=a.id∧b.ver=a.ver:=by
 simp only [core,Ac.mk.injEq] at h
 obtain ⟨h1,h2,h3,h4,h5,h6,h7,h8,_,_⟩:=h
 exact ⟨h6,h7,h2,h4,h5,h8,h1,h3⟩
theorem OT {l:List Ac} {c:Ac} (h:c∈Eb l):∃ a∈l,overB a=false∧c=core a:=by
 obtain ⟨a,ha,e⟩:=List.mem_map.1 h
 obtain ⟨h1,h2⟩:=List.mem_filter.1 ha
 exact ⟨a,h1,by simpa using h2,e.symm⟩
def leR (a b:Ci):Prop:=a.cpu≤b.cpu∧a.mem≤b.mem
def useC (node:Int) (o:Option Ci) (c:Ac):Option Ci:=match o with|none=>none|some r=>if c.node == node then Dr r c.ask else some r
theorem EG (node:Int):∀ l:List Ac,l.foldl (useC node) none=none
 | []=>rfl
 | a :: r=>EG node r
theorem Kj {a b s:Ci} (h:Dr a b=some s):s=⟨a.cpu+b.cpu,a.mem+b.mem⟩∧0≤b.cpu∧0≤b.mem∧0≤a.cpu∧0≤a.mem∧a.cpu+b.cpu≤1152921504606846976∧a.mem+b.mem≤1152921504606846976∧b.cpu≤1152921504606846976∧b.mem≤1152921504606846976:=by
 unfold Dr at h
 split at h
 ·rename_i hc
  simp only [Option.some.injEq] at h
  simp only [Ej,inB,Bool.and_eq_true,decide_eq_true_eq] at hc
  have hm:(Go.Proofs.YtccekmeifanipaaGreat.most:Int)=1152921504606846976:=rfl
  exact ⟨h.symm,by omega,by omega,by omega,by omega,by omega,by omega,by omega,by omega⟩
 cases h
theorem QT {a b a' : Ci} {s:Ci} (h:Dr a b=some s) (hl:leR a' a) (h0:0≤a'.cpu∧0≤a'.mem):∃ s',Dr a' b=some s'∧leR s' s∧0≤s'.cpu∧0≤s'.mem:=by
 obtain ⟨rfl,h1,h2,h3,h4,h5,h6,h7,h8⟩:=Kj h
 obtain ⟨l1,l2⟩:=hl
 refine ⟨⟨a'.cpu+b.cpu,a'.mem+b.mem⟩,?_,⟨by simp only;omega,by simp only;omega⟩,by simp only;omega,by simp only;omega⟩
 unfold Dr
 have hm:(Go.Proofs.YtccekmeifanipaaGreat.most:Int)=1152921504606846976:=rfl
 rw [if_pos (by simp only [Ej,inB,Bool.and_eq_true,decide_eq_true_eq];omega)]
theorem Og (node:Int):∀ {m l:List Ac},m.Sublist l→∀ {r r' s:Ci},leR r' r→(0≤r'.cpu∧0≤r'.mem)→l.foldl (useC node) (some r)=some s→∃ s',m.foldl (useC node) (some r')=some s'∧leR s' s:=by
 intro m l h
 induction h with
 | slnil=>intro r r' s hl h0 hs;simp at hs;subst hs;exact ⟨r',rfl,hl⟩
 | cons a _ ih =>
  intro r r' s hl h0 hs
  rw [List.foldl_cons] at hs
  unfold useC at hs
  simp only at hs
  split at hs
  ·cases hq:Dr r a.ask with
   | none=>rw [hq] at hs;rw [show (fun o c=>match o with|none=>none|some r=>if (c.node == node)=true then Dr r c.ask else some r)=useC node from rfl,EG] at hs;cases hs
   | some q =>
    rw [hq] at hs
    obtain ⟨e,h1,h2,_⟩:=Kj hq
    exact ih (show leR r' q by subst e;exact ⟨by have:=hl.1;simp only;omega,by have:=hl.2;simp only;omega⟩) h0 hs
  exact ih hl h0 hs
 | cons_cons a _ ih =>
  intro r r' s hl h0 hs
  rw [List.foldl_cons] at hs ⊢
  unfold useC at hs ⊢
  simp only at hs ⊢
  split at hs
  ·rename_i hn
   rw [if_pos hn]
   cases hq:Dr r a.ask with
   | none=>rw [hq] at hs;rw [show (fun o c=>match o with|none=>none|some r=>if (c.node == node)=true then Dr r c.ask else some r)=useC node from rfl,EG] at hs;cases hs
   | some q =>
    rw [hq] at hs
    obtain ⟨q',e1,e2,e3⟩:=QT hq hl h0
    rw [e1]
    exact ih e2 e3 hs
  rename_i hn
  rw [if_neg hn]
  exact ih hl h0 hs
end Fsm
end
section
open Go.RowKit
namespace Fsm
def Kept (s t:Ab):Prop:=t.nodes=s.nodes∧t.allocs=s.allocs
theorem Kept.refl (s:Ab):Kept s s:=⟨rfl,rfl⟩
theorem Kept.trans {s t u:Ab} (h:Kept s t) (k:Kept t u):Kept s u:=⟨k.1.trans h.1,k.2.trans h.2⟩
theorem EK {α:Type} {f:Ab→α→Ab} (h:∀ s a,Kept s (f s a)):∀ (l:List α) (s:Ab),Kept s (l.foldl f s)
 | [],s=>Kept.refl s
 | a :: r,s=>(h s a).trans (EK h r (f s a))
theorem eval_kept (s:Ab) (j:Int):Kept s (eval s j):=by unfold eval;split <;> exact ⟨rfl,rfl⟩
theorem Ov (s:Ab):Kept s (came s):=⟨rfl,rfl⟩
theorem Cs (s:Ab):Kept s (system s):=EK (fun t j=>by split;exact eval_kept t j.id;exact Kept.refl t) s.jobs s
theorem OE (s:Ab) (i:Nat):Kept s (AQ s i):=by
 unfold AQ
 split
 ·exact Kept.refl s
 split
 ·exact Kept.refl s
 split <;> exact ⟨rfl,rfl⟩
theorem DN (s:Ab):Kept s (looked s):=EK OE _ s
theorem Da (s:Ab) (j:Ak):Kept s (begins s j):=by
 unfold begins
 simp only
 refine Kept.trans ?_ (eval_kept _ _)
 split
 ·exact Kept.trans ⟨rfl,rfl⟩ (DN _)
 exact ⟨rfl,rfl⟩
structure Inv (s:Ab):Prop where
 nd:(s.nodes.map NodD.id).Nodup
 fenced:∀ c∈Eb s.allocs,∃ n,nodeAt s c.node=some n∧n.up=true∧n.epoch=c.epoch
 slots:((Eb s.allocs).map (fun a=>(a.job,a.group,a.index))).Nodup
 room:∀ n∈s.nodes,∃ r,(Eb s.allocs).foldl (useC n.id) (some ⟨0,0⟩)=some r∧leR r n.cap
theorem Inv.kept {s t:Ab} (h:Inv s) (k:Kept s t):Inv t:=by
 obtain ⟨k1,k2⟩:=k
 have hn:∀ x,nodeAt t x=nodeAt s x:=fun x=>by rw [nodeAt,nodeAt,k1]
 exact ⟨by rw [k1];exact h.nd,fun c hc=>by rw [k2] at hc;rw [hn];exact h.fenced c hc,by rw [k2];exact h.slots,fun n hn=>by rw [k1] at hn;rw [k2];exact h.room n hn⟩
theorem Inv.less {s t:Ab} (h:Inv s) (hn:t.nodes=s.nodes) (hs:(Eb t.allocs).Sublist (Eb s.allocs)):Inv t:=by
 have hna:∀ x,nodeAt t x=nodeAt s x:=fun x=>by rw [nodeAt,nodeAt,hn]
 refine ⟨by rw [hn];exact h.nd,fun c hc=>by rw [hna];exact h.fenced c (hs.subset hc),h.slots.sublist (hs.map _),fun n hm=>?_⟩
 rw [hn] at hm
 obtain ⟨r,h1,h2⟩:=h.room n hm
 obtain ⟨r',h3,h4⟩:=Og n.id hs (r:=⟨0,0⟩) (r':=⟨0,0⟩) ⟨Int.le_refl _,Int.le_refl _⟩ ⟨Int.le_refl _,Int.le_refl _⟩ h1
 exact ⟨r',h3,by have:=h4.1;have:=h2.1;omega,by have:=h4.2;have:=h2.2;omega⟩
theorem Ki {s:Ab} {x:Int} {n:NodD} (h:nodeAt s x=some n):n.id=x∧n∈s.nodes:=by
 have:=List.find?_some h
 exact ⟨by simpa using this,List.mem_of_find?_eq_some h⟩
theorem Inv.turn {s:Ab} (h:Inv s) (x:Int) (f:NodD→NodD) (hf:∀ n,(f n).id=n.id∧(f n).cap=n.cap∧(f n).up=n.up∧(f n).epoch=n.epoch):Inv { s with nodes:=turn1 (fun n=>n.id == x) f s.nodes }:=by
 refine ⟨by rw [CE _ _ _ (fun n=>(hf n).1)];exact h.nd,fun c hc=>?_,h.slots,fun n hm=>?_⟩
 ·obtain ⟨n,h1,h2,h3⟩:=h.fenced c hc
  by_cases hx:c.node=x
  ·refine ⟨f n,?_,by rw [(hf n).2.2.1];exact h2,by rw [(hf n).2.2.2];exact h3⟩
   unfold nodeAt at h1 ⊢
   rw [hx] at h1 ⊢
   rw [Ee _ _ (fun a=>by rw [(hf a).1]),h1];rfl
  refine ⟨n,?_,h2,h3⟩
  unfold nodeAt at h1 ⊢
  rw [Dy _ _ _ (fun a ha=>?_),h1]
  have ha' : a.id=x:=by simpa using ha
  exact ⟨by rw [(hf a).1];simp [ha',Ne.symm hx],by simp [ha',Ne.symm hx]⟩
 have:∀ l:List NodD,n∈turn1 (fun n=>n.id == x) f l→∃ m∈l,n.id=m.id∧n.cap=m.cap:=fun l=>by
  induction l with
  | nil=>intro h;cases h
  | cons y r ih =>
   intro hh
   unfold turn1 at hh
   split at hh
   ·rcases List.mem_cons.1 hh with hh|hh
    ·subst hh;exact ⟨y,List.mem_cons_self ..,(hf y).1,(hf y).2.1⟩
    exact ⟨n,List.mem_cons_of_mem _ hh,rfl,rfl⟩
   rcases List.mem_cons.1 hh with hh|hh
   ·subst hh;exact ⟨n,List.mem_cons_self ..,rfl,rfl⟩
   obtain ⟨m,h1,h2⟩:=ih hh
   exact ⟨m,List.mem_cons_of_mem _ h1,h2⟩
 obtain ⟨m,h1,h2,h3⟩:=this _ hm
 rw [h2,h3]
 exact h.room m h1
theorem Kk (node:Int) (s:Ab) (i:Nat):(AV node s i).nodes=s.nodes∧Ons s.allocs (AV node s i).allocs∧(∀ j,j ≠ i→(AV node s i).allocs[j]? = s.allocs[j]?)∧(∀ b,(AV node s i).allocs[i]? = some b→b.node=node→overB b=true)∧(AV node s i).allocs.length=s.allocs.length:=by
 unfold AV
 cases hi:s.allocs[i]? with
 | none=>exact ⟨rfl,Ons.refl _,fun _ _=>rfl,fun b hb=>(by have hb' : s.allocs[i]? = some b:=hb;rw [hi] at hb';cases hb'),rfl⟩
 | some a =>
  simp only
  split
  ·rename_i hc
   obtain ⟨k1,k2⟩:=eval_kept { s with allocs:=s.allocs.set i { a with state:=6 } } a.job
   rw [k1,k2]
   refine ⟨rfl,Ons.set _ _ _ (fun c hc'=>?_),fun j hj=>List.getElem?_set_ne (Ne.symm hj),fun b hb hbn=>?_,List.length_set ..⟩
   ·rw [hi] at hc';cases hc'
    simp only [Bool.and_eq_true,Bool.not_eq_true',overB,decide_eq_false_iff_not] at hc
    exact ⟨rfl,by simp only;omega,fun e=>by simp only [overB,decide_eq_true_eq] at e;omega,fun e=>e⟩
   simp only at hb
   rw [List.getElem?_set_self (List.getElem?_eq_some_iff.1 hi).1] at hb
   cases hb;rfl
  rename_i hc
  refine ⟨rfl,Ons.refl _,fun _ _=>rfl,fun b hb hbn=>?_,rfl⟩
  rw [hi] at hb;cases hb
  simp only [Bool.and_eq_true,beq_iff_eq,not_and,Bool.not_eq_true,Bool.not_eq_false'] at hc
  simpa using hc hbn
theorem D9 (s:Ab) (node:Int):(lost s node).nodes=s.nodes∧Ons s.allocs (lost s node).allocs∧∀ b∈(lost s node).allocs,b.node=node→overB b=true:=by
 have key:∀ k,k≤s.allocs.length→((List.range k).foldl (AV node) s).nodes=s.nodes∧Ons s.allocs ((List.range k).foldl (AV node) s).allocs∧(∀ (i:Nat) b,i < k→((List.range k).foldl (AV node) s).allocs[i]? = some b→b.node=node→overB b=true)∧((List.range k).foldl (AV node) s).allocs.length=s.allocs.length:=fun k=>by
  induction k with
  | zero=>intro _;exact ⟨rfl,Ons.refl _,fun i b h=>absurd h (by omega),rfl⟩
  | succ k ih =>
   intro hk
   obtain ⟨h1,h2,h3,h4⟩:=ih (by omega)
   rw [List.range_succ,List.foldl_append,List.foldl_cons,List.foldl_nil]
   generalize (List.range k).foldl (AV node) s=t at h1 h2 h3 h4
   obtain ⟨g1,g2,g3,g4,g5⟩:=Kk node t k
   refine ⟨g1.trans h1,h2.trans g2,fun i b hi hb hbn=>?_,g5.trans h4⟩
   by_cases hik:i=k
   ·subst hik;exact g4 b hb hbn
   rw [g3 i hik] at hb
   exact h3 i b (by omega) hb hbn
 obtain ⟨h1,h2,h3,h4⟩:=key s.allocs.length (Nat.le_refl _)
 refine ⟨h1,h2,fun b hb hbn=>?_⟩
 obtain ⟨i,hi⟩:=List.getElem?_of_mem hb
 exact h3 i b (by have:=(List.getElem?_eq_some_iff.1 hi).1;unfold lost at this;omega) hi hbn
theorem Oe (x:Int):∀ (l:List Ac) (o:Option Ci),(∀ c∈l,c.node ≠ x)→l.foldl (useC x) o=o
 | [],o,_=>rfl
 | a :: r,o,h=>by
  rw [List.foldl_cons,show useC x o a=o by
   cases o with
   | none=>rfl
   | some r=>simp [useC,h a (List.mem_cons_self ..)]]
  exact Oe x r o (fun c hc=>h c (List.mem_cons_of_mem _ hc))
theorem Inv.fresh {s t:Ab} (h:Inv s) {x:Int} (hl:(Eb t.allocs).Sublist (Eb s.allocs)) (ho:∀ b∈t.allocs,b.node=x→overB b=true)
  (hnd:(t.nodes.map NodD.id).Nodup) (hf:∀ i,i ≠ x→nodeAt t i=nodeAt s i) (hr:∀ n∈t.nodes,n.id=x∧0≤n.cap.cpu∧0≤n.cap.mem ∨ ∃ m∈s.nodes,m.id=n.id∧m.cap=n.cap):Inv t:=by
 have hx:∀ c∈Eb t.allocs,c.node ≠ x:=fun c hc=>by
  obtain ⟨a,ha,hoa,rfl⟩:=OT hc
  intro e
  have:=ho a ha e
  rw [hoa] at this;cases this
 refine ⟨hnd,fun c hc=>?_,h.slots.sublist (hl.map _),fun n hm=>?_⟩
 ·rw [hf _ (hx c hc)];exact h.fenced c (hl.subset hc)
 rcases hr n hm with ⟨e,h1,h2⟩|⟨m,hm',e1,e2⟩
 ·rw [e,Oe x _ _ hx];exact ⟨_,rfl,h1,h2⟩
 obtain ⟨r,h1,h2⟩:=h.room m hm'
 rw [e1] at h1
 rw [e2] at h2
 obtain ⟨r',h3,h4⟩:=Og n.id hl (r:=⟨0,0⟩) (r':=⟨0,0⟩) ⟨Int.le_refl _,Int.le_refl _⟩ ⟨Int.le_refl _,Int.le_refl _⟩ h1
 exact ⟨r',h3,by have:=h4.1;have:=h2.1;omega,by have:=h4.2;have:=h2.2;omega⟩
end Fsm
end
section
open Go.RowKit
namespace Fsm
theorem Ons.PK (p:Ac→Bool) (f:Ac→Ac):∀ l,(∀ a,l.find? p=some a→On a (f a))→Ons l (Fsm.turn1 p f l)
 | [],_=>trivial
 | a :: r,h=>by
  unfold Fsm.turn1
  split
  ·rename_i hp
   exact ⟨h a (by rw [List.find?_cons,hp]),Ons.refl r⟩
  rename_i hp
  have hp' : p a=false:=by simpa using hp
  exact ⟨On.refl a,Ons.PK p f r (fun b hb=>h b (by rw [List.find?_cons,hp'];exact hb))⟩
theorem FT (n:NodD) (z:Ab × Bool) (r:Int × Int):(report n z r).1.nodes=z.1.nodes∧Ons z.1.allocs (report n z r).1.allocs:=by
 unfold report
 split
 ·exact ⟨rfl,Ons.refl _⟩
 rename_i a ha
 split
 ·exact ⟨rfl,Ons.refl _⟩
 rename_i ht
 have ht' : takes n a r.2=true:=by simpa using ht
 have hov:overB a=false:=by
  simp only [takes,Bool.and_eq_true,Bool.not_eq_true'] at ht'
  exact ht'.1.1.1.1.2
 have hlt:a.state < r.2:=by
  simp only [takes,Bool.and_eq_true,decide_eq_true_eq] at ht'
  exact ht'.1.1.1.2
 have hO:Ons z.1.allocs (turn1 (fun a=>a.id == r.1) (fun a=>{ a with state:=r.2 }) z.1.allocs):=Ons.PK _ _ _ (fun b hb=>by
  rw [ha] at hb
  cases hb
  exact ⟨rfl,by simp only;omega,fun e=>(by rw [hov] at e;cases e),fun e=>e⟩)
 simp only
 split
 ·obtain ⟨k1,k2⟩:=eval_kept { z.1 with allocs:=turn1 (fun a=>a.id == r.1) (fun a=>{ a with state:=r.2 }) z.1.allocs } a.job
  exact ⟨k1,by rw [k2];exact hO⟩
 split
 ·exact ⟨rfl,hO⟩
 split
 ·exact ⟨rfl,hO⟩
 obtain ⟨k1,k2⟩:=eval_kept { z.1 with allocs:=turn1 (fun a=>a.id == r.1) (fun a=>{ a with state:=r.2 }) z.1.allocs } a.job
 exact ⟨k1,by simp only;rw [k2];exact hO⟩
theorem EY (n:NodD):∀ (l:List (Int × Int)) (z:Ab × Bool),(l.foldl (report n) z).1.nodes=z.1.nodes∧Ons z.1.allocs (l.foldl (report n) z).1.allocs
 | [],z=>⟨rfl,Ons.refl _⟩
 | r :: l,z=>by
  obtain ⟨h1,h2⟩:=FT n z r
  obtain ⟨k1,k2⟩:=EY n l (report n z r)
  exact ⟨k1.trans h1,h2.trans k2⟩
theorem Inv.plain {s t:Ab} (h:Inv s) (h1:t.nodes=s.nodes) (h2:t.allocs=s.allocs):Inv t:=h.kept ⟨h1,h2⟩
theorem BO (j:Ak) (n:NodD):∀ l:List Ac,l.foldl (AZ j n) (none:Option Ab)=none
 | []=>rfl
 | x :: r=>BO j n r
theorem JG:∀ (l:List Ac) (k:Nat),(∀ a,l[k]? = some a→overB a=true)→Eb (l.eraseIdx k)=Eb l
 | [],_,_=>rfl
 | a :: r,0,h=>by simp [Eb,h a rfl]
 | a :: r,k+1,h=>by
  have ih:=JG r k (fun b hb=>h b (by simpa using hb))
  unfold Eb at ih ⊢
  rw [List.eraseIdx_cons_succ,List.filter_cons,List.filter_cons]
  split <;> simp [ih]
theorem Kn (jobs:List Ak):∀ (n:Nat) (l m:List Ac),CX jobs n l=some m→Eb m=Eb l∧m.length≤64
 | 0,l,m,e=>by
  unfold CX at e
  split at e
  ·rename_i hle;cases e;exact ⟨rfl,hle⟩
  cases e
 | n+1,l,m,e=>by
  unfold CX at e
  split at e
  ·rename_i hle;cases e;exact ⟨rfl,hle⟩
  split at e
  ·cases e
  rename_i k hk
  obtain ⟨hkl,hp,_⟩:=List.findIdx?_eq_some_iff_getElem.1 hk
  obtain ⟨h1,h2⟩:=Kn jobs n _ m e
  refine ⟨h1.trans (JG l k (fun a ha=>?_)),h2⟩
  obtain ⟨_,rfl⟩:=List.getElem?_eq_some_iff.1 ha
  cases ho:overB l[k] with
  | true=>rfl
  | false=>rw [Cg,ho] at hp;simp at hp
theorem Ga (job:Int):∀ (ids:List Int) (l:List Ac),Ons l (stops job l ids)
 | [],l=>Ons.refl l
 | i :: r,l=>(Ons.turn1 _ _ (fun a _=>by split;exact ⟨rfl,Int.le_refl _,fun _=>rfl,fun _=>rfl⟩;exact On.refl a) l).trans (Ga job r _)
end Fsm
end
section
open Go.RowKit
namespace Fsm
structure Num (k:Nat) (s:Ab):Prop where
 ids:(s.allocs.map Ac.id).Pairwise (· < ·)
 lt:∀ a∈s.allocs,a.id < s.next
 pos:1≤s.next
 up:s.next≤1+(k:Int)
 len:s.allocs.length≤64
def BI (s t:Ab):Prop:=t.next=s.next∧Ons s.allocs t.allocs
theorem BI.refl (s:Ab):BI s s:=⟨rfl,Ons.refl _⟩
theorem BI.trans {s t u:Ab} (h:BI s t) (k:BI t u):BI s u:=⟨k.1.trans h.1,h.2.trans k.2⟩
theorem Ons.ids:∀ {l m:List Ac},Ons l m→m.map Ac.id=l.map Ac.id
 | [],[],_=>rfl
 | [],_ :: _,h=>h.elim
 | _ :: _,[],h=>h.elim
 | a :: l,b :: m,h=>by rw [List.map_cons,List.map_cons,Ons.ids h.2,(DJ h.1.core).2.2.2.2.2.2.1]
theorem Num.Lu {k:Nat} {s t:Ab} (h:Num k s) (n:BI s t):Num k t:=by
 have hi:=n.2.ids
 refine ⟨by rw [hi];exact h.ids,fun b hb=>?_,by rw [n.1];exact h.pos,by rw [n.1];exact h.up,by have:=congrArg List.length hi;simp only [List.length_map] at this;have:=h.len;omega⟩
 obtain ⟨a,ha,ho⟩:=n.2.mem hb
 rw [n.1,(DJ ho.core).2.2.2.2.2.2.1]
 exact h.lt a ha
theorem Num.more {k k' : Nat} {s:Ab} (h:Num k s) (hk:k≤k'):Num k' s:=⟨h.ids,h.lt,h.pos,by have:=h.up;omega,h.len⟩
theorem EH {α:Type} {f:Ab→α→Ab} (h:∀ s a,BI s (f s a)):∀ (l:List α) (s:Ab),BI s (l.foldl f s)
 | [],s=>BI.refl s
 | a :: r,s=>(h s a).trans (EH h r (f s a))
theorem BP (s:Ab) (j:Int):BI s (eval s j):=by unfold eval;split <;> exact ⟨rfl,Ons.refl _⟩
theorem EB (s:Ab):BI s (came s):=⟨rfl,Ons.refl _⟩
theorem DL (s:Ab):BI s (system s):=EH (fun t j=>by split;exact BP t j.id;exact BI.refl t) s.jobs s
theorem OO (s:Ab) (i:Nat):BI s (AQ s i):=by
 unfold AQ
 split
 ·exact BI.refl s
 split
 ·exact BI.refl s
 split <;> exact ⟨rfl,Ons.refl _⟩
theorem FX (s:Ab):BI s (looked s):=EH OO _ s
theorem CY (s:Ab) (j:Ak):BI s (begins s j):=by
 unfold begins
 simp only
 refine BI.trans ?_ (BP _ _)
 split
 ·exact BI.trans ⟨rfl,Ons.refl _⟩ (FX _)
 exact ⟨rfl,Ons.refl _⟩
theorem J8 (node:Int) (s:Ab) (i:Nat):(AV node s i).next=s.next:=by
 unfold AV
 split
 ·rfl
 split
 ·rename_i a _ _
  exact (BP { s with allocs:=s.allocs.set i { a with state:=6 } } a.job).1
 rfl
theorem Ih (s:Ab) (node:Int):BI s (lost s node):=by
 refine ⟨?_,(D9 s node).2.1⟩
 have:∀ (l:List Nat) (s:Ab),(l.foldl (AV node) s).next=s.next:=fun l=>by
  induction l with
  | nil=>intro s;rfl
  | cons i r ih=>intro s;rw [List.foldl_cons,ih,J8]
 exact this _ s
theorem EW (s:Ab) (n:NodD):BI s (joins s n):=by
 unfold joins
 exact ((BI.trans (t:={ s with nodes:=Aj NodD.id n s.nodes }) ⟨rfl,Ons.refl _⟩ (Ih _ _)).trans (DL _)).trans (EB _)
theorem MX (n:NodD) (z:Ab × Bool) (r:Int × Int):(report n z r).1.next=z.1.next:=by
 unfold report
 split
 ·rfl
 split
 ·rfl
 rename_i a _ _
 simp only
 split
 ·exact (BP { z.1 with allocs:=turn1 (fun a=>a.id == r.1) (fun a=>{ a with state:=r.2 }) z.1.allocs } a.job).1
 split
 ·rfl
 split
 ·rfl
 exact (BP { z.1 with allocs:=turn1 (fun a=>a.id == r.1) (fun a=>{ a with state:=r.2 }) z.1.allocs } a.job).1
theorem EX (n:NodD):∀ (l:List (Int × Int)) (z:Ab × Bool),BI z.1 (l.foldl (report n) z).1
 | [],z=>BI.refl _
 | r :: l,z=>BI.trans ⟨MX n z r,(FT n z r).2⟩ (EX n l (report n z r))
structure Pw (k:Nat) (s:Ab):Prop where
 ids:(s.allocs.map Ac.id).Pairwise (· < ·)
 lt:∀ a∈s.allocs,a.id < s.next
 pos:1≤s.next
 up:s.next≤1+(k:Int)
theorem IE {k:Nat} {s:Ab} (h:Pw k s) (hk:k < 4611686018427387904) (j:Ak) (n:NodD) (x:Ac):Pw (k+1) (placed s j n x):=by
 have hp:=h.pos
 have hu:=h.up
 have hw:wrap64 (s.next+1)=s.next+1:=by unfold wrap64;omega
 refine ⟨?_,fun a ha=>?_,?_,?_⟩
 ·rw [placed,List.map_append,List.pairwise_append]
  refine ⟨h.ids,by simp,fun a ha b hb=>?_⟩
  obtain ⟨c,hc,rfl⟩:=List.mem_map.1 ha
  rw [List.map_cons,List.map_nil,List.mem_singleton] at hb
  rw [hb]
  exact h.lt c hc
 ·rw [show (placed s j n x).next=wrap64 (s.next+1) from rfl,hw]
  rcases List.mem_append.1 ha with ha|ha
  ·have:=h.lt a ha;omega
  rw [List.mem_singleton] at ha;subst ha;simp only;omega
 ·rw [show (placed s j n x).next=wrap64 (s.next+1) from rfl,hw];omega
 rw [show (placed s j n x).next=wrap64 (s.next+1) from rfl,hw];omega
theorem Gj (j:Ak) (n:NodD):∀ (l:List Ac) (k:Nat) (s t:Ab),Pw k s→k+l.length < 4611686018427387904→placeAll j n l s=some t→Pw (k+l.length) t
 | [],k,s,t,h,_,e=>by cases e;exact h
 | x :: r,k,s,t,h,hk,e=>by
  unfold placeAll at e
  rw [List.foldl_cons,show AZ j n (some s) x=if ED s j n x then some (placed s j n x) else none from rfl] at e
  rw [List.length_cons] at hk
  split at e
  ·have:=Gj j n r (k+1) (placed s j n x) t (IE h (by omega) j n x) (by omega) e
   rw [List.length_cons,show k+(r.length+1)=k+1+r.length by omega]
   exact this
  rw [BO] at e;cases e
theorem Hg (jobs:List Ak):∀ (n:Nat) (l m:List Ac),CX jobs n l=some m→m.Sublist l
 | 0,l,m,e=>by
  unfold CX at e
  split at e
  ·cases e;exact List.Sublist.refl _
  cases e
 | n+1,l,m,e=>by
  unfold CX at e
  split at e
  ·cases e;exact List.Sublist.refl _
  split at e
  ·cases e
  rename_i k hk
  exact (Hg jobs n _ m e).trans (List.eraseIdx_sublist l k)
theorem places_num {k:Nat} {s:Ab} (h:Num k s) (j:Ak) (node:Int) (l:List Ac) (hk:k+l.length < 4611686018427387904):Num (k+l.length) (places s j node l).1:=by
 have h0:Num (k+l.length) s:=h.more (by omega)
 unfold places
 split
 ·exact h0
 rename_i n hn
 split
 ·exact h0
 split
 ·exact h0
 rename_i t ht
 have hfl:(l.filter (fun x=>x.node == node)).length≤l.length:=List.length_filter_le _ _
 have hx:=Gj j n _ k s t ⟨h.ids,h.lt,h.pos,h.up⟩ (by omega) ht
 split
 ·exact h0
 rename_i m hm
 have hs:=Hg _ _ _ _ hm
 refine ⟨hx.ids.sublist (hs.map _),fun a ha=>hx.lt a (hs.subset ha),hx.pos,by have:=hx.up;simp only;omega,(Kn _ _ _ _ hm).2⟩
theorem Mh (x:Int):∀ l:List Int,(IX x l).length≤l.length+1
 | []=>by simp [IX]
 | y :: r=>by
  unfold IX
  split
  ·simp
  split
  ·simp
  have:=Mh x r;simp only [List.length_cons];omega
theorem En:∀ l:List Ac,(Bw l).length≤l.length
 | []=>by simp [Bw]
 | a :: r=>by
  have h1:=En r
  have h2:=Mh a.node (Bw r)
  have h3:Bw (a :: r)=IX a.node (Bw r):=rfl
  rw [h3,List.length_cons];omega
theorem Qn {k:Nat} {s:Ab} (h:Num k s) (c:Bi) (hk:k+c.plan.places.length*c.plan.places.length < 4611686018427387904):Num (k+c.plan.places.length*c.plan.places.length) (plan s c).1:=by
 have h0:Num (k+c.plan.places.length*c.plan.places.length) s:=h.more (by omega)
 unfold plan
 simp only
 split
 ·rename_i j e _ _
  split
  ·exact h0
  have h1:Num k { s with allocs:=stops c.plan.job s.allocs c.plan.stops }:=h.Lu ⟨rfl,Ga _ _ _⟩
  have h2:∀ (l:List Int) (k:Nat) (z:Ab × Bool),Num k z.1→k+l.length*c.plan.places.length < 4611686018427387904→Num (k+l.length*c.plan.places.length) (l.foldl (fun z n=>((places z.1 j n c.plan.places).1,z.2 && (places z.1 j n c.plan.places).2)) z).1:=fun l=>by
   induction l with
   | nil=>intro k z hz _;simpa using hz
   | cons n r ih =>
    intro k z hz hk
    rw [List.length_cons,Nat.add_mul] at hk ⊢
    have h3:=ih (k+c.plan.places.length) ((places z.1 j n c.plan.places).1,z.2 && (places z.1 j n c.plan.places).2) (places_num hz j n _ (by omega)) (by omega)
    rw [List.foldl_cons]
    refine h3.more (by omega)
  have hle:=Nat.mul_le_mul_right c.plan.places.length (En c.plan.places)
  have h3:=(h2 (Bw c.plan.places) k ({ s with allocs:=stops c.plan.job s.allocs c.plan.stops },true) h1 (by omega)).more (k':=k+c.plan.places.length*c.plan.places.length) (by omega)
  split
  ·exact h3.Lu ⟨rfl,Ons.refl _⟩
  exact h3.Lu ⟨rfl,Ons.refl _⟩
 exact h0
theorem II {k:Nat} {s:Ab} (h:Num k s) (c:Bi) (hk:k+c.plan.places.length*c.plan.places.length < 4611686018427387904):Num (k+c.plan.places.length*c.plan.places.length) (command s c).1:=by
 have h0:Num (k+c.plan.places.length*c.plan.places.length) s:=h.more (by omega)
 have hn:∀ {t:Ab},BI s t→Num (k+c.plan.places.length*c.plan.places.length) t:=fun n=>h0.Lu n
 unfold command
 repeat' split
 ·exact h0
 ·unfold BK
  split
  ·exact h0
  split
  ·split
   ·exact h0
   exact hn (CY _ _)
  split
  ·exact h0
  exact hn (CY _ _)
 ·unfold cancel
  split
  ·exact h0
  exact hn (BI.trans ⟨rfl,Ons.refl _⟩ (BP _ _))
 ·unfold register
  split
  ·exact h0
  split
  ·exact hn (EW _ _)
  split
  ·exact h0
  split
  ·split <;> exact h0
  exact hn (EW _ _)
 ·unfold Dv
  split
  ·exact h0
  split
  ·exact h0
  split
  ·exact h0
  split
  ·exact h0
  simp only
  have h1:BI s (c.reports.foldl (report c.node) ({ s with nodes:=turn1 (fun n=>n.id == c.node.id) (fun n=>{ n with seq:=c.node.seq }) s.nodes },false)).1:=BI.trans ⟨rfl,Ons.refl _⟩ (EX c.node c.reports ({ s with nodes:=turn1 (fun n=>n.id == c.node.id) (fun n=>{ n with seq:=c.node.seq }) s.nodes },false))
  have h2:=h1.trans (FX _)
  split
  ·exact hn (h2.trans (EB _))
  exact hn h2
 ·unfold down
  split
  ·exact h0
  split
  ·exact h0
  split
  ·exact h0
  exact hn ((BI.trans (t:={ s with nodes:=turn1 (fun n=>n.id == c.node.id) (fun n=>{ n with up:=false,epoch:=wrap64 (n.epoch+1) }) s.nodes }) ⟨rfl,Ons.refl _⟩ (Ih _ _)).trans (DL _))
 ·unfold drain
  split
  ·exact h0
  simp only
  have h1:BI s (system (s.allocs.foldl (fun t a=>if a.node == c.node.id && !overB a then eval t a.job else t) { s with nodes:=turn1 (fun n=>n.id == c.node.id) (fun n=>{ n with drain:=c.node.drain }) s.nodes })) :=
   (BI.trans (t:={ s with nodes:=turn1 (fun n=>n.id == c.node.id) (fun n=>{ n with drain:=c.node.drain }) s.nodes }) ⟨rfl,Ons.refl _⟩ (EH (fun t a=>by split;exact BP t a.job;exact BI.refl t) _ _)).trans (DL _)
  split
  ·exact hn h1
  exact hn (h1.trans (EB _))
 ·exact Qn h c hk
 ·unfold revert
  split
  ·exact h0
  split
  ·exact h0
  split
  ·exact h0
  simp only
  split
  ·exact hn (BI.trans ⟨rfl,Ons.refl _⟩ (BP _ _))
  split
  ·exact hn (BI.trans ⟨rfl,Ons.refl _⟩ (BP _ _))
  split
  ·exact h0
  exact hn (BI.trans ⟨rfl,Ons.refl _⟩ (CY _ _))
 exact h0
theorem KT {k:Nat} {s:Ab} (h:Num k s) (ix:Int) (c:Bi) (hk:k+c.plan.places.length*c.plan.places.length < 4611686018427387904):Num (k+c.plan.places.length*c.plan.places.length) (apply s ix c).1:=by
 have h1:Num k { s with index:=ix }:=h.Lu ⟨rfl,Ons.refl _⟩
 have h0:Num (k+c.plan.places.length*c.plan.places.length) { s with index:=ix }:=h1.more (by omega)
 unfold apply
 simp only
 split
 ·exact II h1 c hk
 split
 ·exact h0
 split
 ·split <;> exact h0
 exact (II h1 c hk).Lu ⟨rfl,Ons.refl _⟩
theorem QX:Num 0 new:=⟨by simp [new],by simp [new],by simp [new],by simp [new],by simp [new]⟩
end Fsm
end
section
open Go.RowKit
namespace Fsm
theorem NA (s:Ab) (i j:Int) (c:Bi) (hop:(c.op == 3 || c.op == 4 || c.op == 8)=true) (hc:(c.client == 0)=false) :
  apply (apply s i c).1 j c=({ (apply s i c).1 with index:=j },(apply s i c).2):=by
 unfold apply
 simp only [hop,hc,Bool.not_true,Bool.or_false,Bool.false_eq_true,if_false]
 split
 ·simp [no]
 cases hf:s.seen.find? (fun x=>x.client == c.client && decide (c.req≤x.req)) with
 | some x =>
  by_cases hlt:c.req < x.req <;> simp [no,hf,hlt]
 | none =>
  simp only
  generalize hz:command { s with index:=i } c=z
  have hfind:(Aj Cr.client ⟨c.client,c.req,z.2⟩ z.1.seen).find? (fun x=>x.client == c.client && decide (c.req≤x.req))=some ⟨c.client,c.req,z.2⟩:=by
   cases hq:(Aj Cr.client ⟨c.client,c.req,z.2⟩ z.1.seen).find? (fun x=>x.client == c.client && decide (c.req≤x.req)) with
   | none =>
    have h1:=Dx (key:=Cr.client) (x:=⟨c.client,c.req,z.2⟩) z.1.seen
    have h2:=List.mem_of_find?_eq_some h1
    have h3:=List.find?_eq_none.1 hq _ h2
    simp at h3
   | some y =>
    have h1:=List.mem_of_find?_eq_some hq
    have h2:=List.find?_some hq
    simp only [Bool.and_eq_true,beq_iff_eq,decide_eq_true_eq] at h2
    rcases putL_mem h1 with h3|⟨_,h3⟩
    ·rw [h3]
    exact absurd h2.1 h3
  rw [hfind]
  simp
end Fsm
end
section
open Go.RowKit
namespace Fsm
def Way (s t:Ab):Prop:=∀ a∈s.allocs,(∃ b∈t.allocs,On a b) ∨ (overB a=true)
def EP (s t:Ab):Prop:=s.next≤t.next∧∀ b∈t.allocs,(∃ a∈s.allocs,On a b) ∨ s.next≤b.id
theorem Ons.mem' : ∀ {l m:List Ac},Ons l m→∀ {a:Ac},a∈l→∃ b∈m,On a b
 | [],[],_,_,ha=>by cases ha
 | [],_ :: _,h,_,_=>h.elim
 | _ :: _,[],h,_,_=>h.elim
 | c :: l,b :: m,h,a,ha=>by
  rcases List.mem_cons.1 ha with rfl|ha
  ·exact ⟨_,List.mem_cons_self ..,h.1⟩
  obtain ⟨b',hb,k⟩:=Ons.mem' h.2 ha
  exact ⟨b',List.mem_cons_of_mem _ hb,k⟩
theorem BI.way {s t:Ab} (h:BI s t):Way s t:=fun a ha=>.inl (h.2.mem' ha)
theorem BI.news {s t:Ab} (h:BI s t):EP s t:=⟨by rw [h.1];exact Int.le_refl _,fun b hb=>.inl (h.2.mem hb)⟩
theorem Way.refl (s:Ab):Way s s:=fun a ha=>.inl ⟨a,ha,On.refl a⟩
theorem EP.refl (s:Ab):EP s s:=⟨Int.le_refl _,fun b hb=>.inl ⟨b,hb,On.refl b⟩⟩
theorem Way.trans {s t u:Ab} (h:Way s t) (k:Way t u) (hs:∀ a∈s.allocs,∀ b∈t.allocs,On a b→b.state=a.state ∨ ∃ c∈u.allocs,On b c):Way s u:=fun a ha=>by
 rcases h a ha with ⟨b,hb,ho⟩|ho
 ·rcases k b hb with ⟨c,hc,ho'⟩|hov
  ·exact .inl ⟨c,hc,ho.trans ho'⟩
  rcases hs a ha b hb ho with e|⟨c,hc,ho'⟩
  ·exact .inr (by simp only [overB] at hov ⊢;rwa [e] at hov)
  exact .inl ⟨c,hc,ho.trans ho'⟩
 exact .inr ho
theorem EP.trans {s t u:Ab} (h:EP s t) (k:EP t u):EP s u :=
 ⟨Int.le_trans h.1 k.1,fun c hc=>by
  rcases k.2 c hc with ⟨b,hb,ho⟩|hn
  ·rcases h.2 b hb with ⟨a,ha,ho'⟩|hn
   ·exact .inl ⟨a,ha,ho'.trans ho⟩
   exact .inr (by rw [(DJ ho.core).2.2.2.2.2.2.1];exact hn)
  exact .inr (Int.le_trans h.1 hn)⟩
def FB (s t:Ab):Prop:=s.next≤t.next∧(∀ a∈s.allocs,a∈t.allocs ∨ overB a=true)∧∀ b∈t.allocs,b∈s.allocs ∨ s.next≤b.id
theorem FB.refl (s:Ab):FB s s:=⟨Int.le_refl _,fun a ha=>.inl ha,fun b hb=>.inl hb⟩
theorem FB.trans {s t u:Ab} (h:FB s t) (k:FB t u):FB s u :=
 ⟨Int.le_trans h.1 k.1,fun a ha=>by
  rcases h.2.1 a ha with h1|h1
  ·exact k.2.1 a h1
  ·exact .inr h1,fun c hc=>by
  rcases k.2.2 c hc with h1|h1
  ·exact h.2.2 c h1
  exact .inr (Int.le_trans h.1 h1)⟩
theorem Gq (j:Ak) (n:NodD):∀ (l:List Ac) (k:Nat) (s t:Ab),Pw k s→k+l.length < 4611686018427387904→placeAll j n l s=some t→FB s t
 | [],k,s,t,h,_,e=>by cases e;exact FB.refl s
 | x :: r,k,s,t,h,hk,e=>by
  unfold placeAll at e
  rw [List.foldl_cons,show AZ j n (some s) x=if ED s j n x then some (placed s j n x) else none from rfl] at e
  rw [List.length_cons] at hk
  split at e
  ·have hx:=IE h (by omega) j n x
   have hp:=h.pos
   have hu:=h.up
   have hw:wrap64 (s.next+1)=s.next+1:=by unfold wrap64;omega
   refine FB.trans ?_ (Gq j n r (k+1) (placed s j n x) t hx (by omega) e)
   refine ⟨by rw [show (placed s j n x).next=wrap64 (s.next+1) from rfl,hw];omega,fun a ha=>.inl (List.mem_append_left _ ha),fun b hb=>?_⟩
   rcases List.mem_append.1 hb with hb|hb
   ·exact .inl hb
   rw [List.mem_singleton] at hb;subst hb;exact .inr (Int.le_refl _)
  rw [BO] at e;cases e
theorem Mo:∀ (l:List Ac) (k:Nat) {a b:Ac},a∈l→l[k]? = some b→a∈l.eraseIdx k ∨ a=b
 | [],_,_,_,h,_=>by cases h
 | c :: r,0,a,b,h,e=>by
  cases e
  rcases List.mem_cons.1 h with h|h
  ·exact .inr h
  exact .inl h
 | c :: r,k+1,a,b,h,e=>by
  rw [List.eraseIdx_cons_succ]
  rcases List.mem_cons.1 h with h|h
  ·subst h;exact .inl (List.mem_cons_self ..)
  rcases Mo r k h (by simpa using e) with h1|h1
  ·exact .inl (List.mem_cons_of_mem _ h1)
  exact .inr h1
theorem Kz (jobs:List Ak):∀ (n:Nat) (l m:List Ac),CX jobs n l=some m→∀ a∈l,a∈m ∨ overB a=true
 | 0,l,m,e,a,ha=>by
  unfold CX at e
  split at e
  ·cases e;exact .inl ha
  cases e
 | n+1,l,m,e,a,ha=>by
  unfold CX at e
  split at e
  ·cases e;exact .inl ha
  split at e
  ·cases e
  rename_i k hk
  obtain ⟨hkl,hp,_⟩:=List.findIdx?_eq_some_iff_getElem.1 hk
  rcases Mo l k ha (List.getElem?_eq_getElem hkl) with h1|h1
  ·exact Kz jobs n _ m e a h1
  refine .inr ?_
  rw [h1]
  cases ho:overB l[k] with
  | true=>rfl
  | false=>rw [Cg,ho] at hp;simp at hp
theorem places_stay {k:Nat} {s:Ab} (h:Num k s) (j:Ak) (node:Int) (l:List Ac) (hk:k+l.length < 4611686018427387904):FB s (places s j node l).1:=by
 unfold places
 split
 ·exact FB.refl s
 rename_i n hn
 split
 ·exact FB.refl s
 split
 ·exact FB.refl s
 rename_i t ht
 have hfl:(l.filter (fun x=>x.node == node)).length≤l.length:=List.length_filter_le _ _
 have h1:=Gq j n _ k s t ⟨h.ids,h.lt,h.pos,h.up⟩ (by omega) ht
 split
 ·exact FB.refl s
 rename_i m hm
 refine h1.trans ⟨Int.le_refl _,fun a ha=>Kz _ _ _ _ hm a ha,fun b hb=>.inl ((Hg _ _ _ _ hm).subset hb)⟩
theorem FB.news {s t:Ab} (h:FB s t):EP s t:=⟨h.1,fun b hb=>by
 rcases h.2.2 b hb with h1|h1
 ·exact .inl ⟨b,h1,On.refl b⟩
 exact .inr h1⟩
theorem P7 {k:Nat} {s:Ab} (h:Num k s) (c:Bi) (hk:k+c.plan.places.length*c.plan.places.length < 4611686018427387904):Way s (plan s c).1∧EP s (plan s c).1:=by
 unfold plan
 simp only
 split
 ·rename_i j e _ _
  split
  ·exact ⟨Way.refl s,EP.refl s⟩
  have hO:BI s { s with allocs:=stops c.plan.job s.allocs c.plan.stops }:=⟨rfl,Ga _ _ _⟩
  have h1:Num k { s with allocs:=stops c.plan.job s.allocs c.plan.stops }:=h.Lu hO
  have h2:∀ (l:List Int) (k:Nat) (z:Ab × Bool),Num k z.1→k+l.length*c.plan.places.length < 4611686018427387904→FB z.1 (l.foldl (fun z n=>((places z.1 j n c.plan.places).1,z.2 && (places z.1 j n c.plan.places).2)) z).1:=fun l=>by
   induction l with
   | nil=>intro k z hz _;exact FB.refl _
   | cons n r ih =>
    intro k z hz hk
    rw [List.length_cons,Nat.add_mul] at hk
    rw [List.foldl_cons]
    exact (places_stay hz j n _ (by omega)).trans (ih (k+c.plan.places.length) ((places z.1 j n c.plan.places).1,z.2 && (places z.1 j n c.plan.places).2) (places_num hz j n _ (by omega)) (by omega))
  have hle:=Nat.mul_le_mul_right c.plan.places.length (En c.plan.places)
  have h3:=h2 (Bw c.plan.places) k ({ s with allocs:=stops c.plan.job s.allocs c.plan.stops },true) h1 (by omega)
  -- stops turn no state
  have hst:∀ (ids:List Int) (l:List Ac),∀ a∈l,∃ b∈stops c.plan.job l ids,On a b∧b.state=a.state:=fun ids=>by
   have one:∀ (i:Int) (l:List Ac),∀ a∈l,∃ b∈turn1 (fun a=>a.id == i) (fun a=>if a.job == c.plan.job && !overB a then { a with stop:=true } else a) l,On a b∧b.state=a.state:=fun i l=>by
    induction l with
    | nil=>intro a ha;cases ha
    | cons y r ih =>
     intro a ha
     unfold turn1
     split
     ·rcases List.mem_cons.1 ha with rfl|ha
      ·refine ⟨_,List.mem_cons_self ..,?_⟩
       split
       ·exact ⟨⟨rfl,Int.le_refl _,fun _=>rfl,fun _=>rfl⟩,rfl⟩
       exact ⟨On.refl _,rfl⟩
      exact ⟨a,List.mem_cons_of_mem _ ha,On.refl a,rfl⟩
     rcases List.mem_cons.1 ha with rfl|ha
     ·exact ⟨_,List.mem_cons_self ..,On.refl _,rfl⟩
     obtain ⟨b,hb,h1,h2⟩:=ih a ha
     exact ⟨b,List.mem_cons_of_mem _ hb,h1,h2⟩
   induction ids with
   | nil=>intro l a ha;exact ⟨a,ha,On.refl a,rfl⟩
   | cons i r ih =>
    intro l a ha
    obtain ⟨b,hb,h1,h2⟩:=one i l a ha
    obtain ⟨d,hd,h3,h4⟩:=ih _ b hb
    exact ⟨d,hd,h1.trans h3,h4.trans h2⟩
  have h4:Way s ((Bw c.plan.places).foldl (fun z n=>((places z.1 j n c.plan.places).1,z.2 && (places z.1 j n c.plan.places).2)) (({ s with allocs:=stops c.plan.job s.allocs c.plan.stops }:Ab),true)).1:=fun a ha=>by
   obtain ⟨b,hb,g1,g2⟩:=hst c.plan.stops s.allocs a ha
   rcases h3.2.1 b hb with g3|g3
   ·exact .inl ⟨b,g3,g1⟩
   exact .inr (by simp only [overB] at g3 ⊢;rwa [g2] at g3)
  have h5:=hO.news.trans h3.news
  split
  ·exact ⟨h4,h5⟩
  exact ⟨h4,h5⟩
 exact ⟨Way.refl s,EP.refl s⟩
theorem LP {k:Nat} {s:Ab} (h:Num k s) (c:Bi) (hk:k+c.plan.places.length*c.plan.places.length < 4611686018427387904):Way s (command s c).1∧EP s (command s c).1:=by
 have h0:Way s s∧EP s s:=⟨Way.refl s,EP.refl s⟩
 have hn:∀ {t:Ab},BI s t→Way s t∧EP s t:=fun n=>⟨n.way,n.news⟩
 unfold command
 repeat' split
 ·exact h0
 ·unfold BK
  split
  ·exact h0
  split
  ·split
   ·exact h0
   exact hn (CY _ _)
  split
  ·exact h0
  exact hn (CY _ _)
 ·unfold cancel
  split
  ·exact h0
  exact hn (BI.trans ⟨rfl,Ons.refl _⟩ (BP _ _))
 ·unfold register
  split
  ·exact h0
  split
  ·exact hn (EW _ _)
  split
  ·exact h0
  split
  ·split <;> exact h0
  exact hn (EW _ _)
 ·unfold Dv
  split
  ·exact h0
  split
  ·exact h0
  split
  ·exact h0
  split
  ·exact h0
  simp only
  have h1:BI s (c.reports.foldl (report c.node) ({ s with nodes:=turn1 (fun n=>n.id == c.node.id) (fun n=>{ n with seq:=c.node.seq }) s.nodes },false)).1:=BI.trans ⟨rfl,Ons.refl _⟩ (EX c.node c.reports ({ s with nodes:=turn1 (fun n=>n.id == c.node.id) (fun n=>{ n with seq:=c.node.seq }) s.nodes },false))
  have h2:=h1.trans (FX _)
  split
  ·exact hn (h2.trans (EB _))
  exact hn h2
 ·unfold down
  split
  ·exact h0
  split
  ·exact h0
  split
  ·exact h0
  exact hn ((BI.trans (t:={ s with nodes:=turn1 (fun n=>n.id == c.node.id) (fun n=>{ n with up:=false,epoch:=wrap64 (n.epoch+1) }) s.nodes }) ⟨rfl,Ons.refl _⟩ (Ih _ _)).trans (DL _))
 ·unfold drain
  split
  ·exact h0
  simp only
  have h1:BI s (system (s.allocs.foldl (fun t a=>if a.node == c.node.id && !overB a then eval t a.job else t) { s with nodes:=turn1 (fun n=>n.id == c.node.id) (fun n=>{ n with drain:=c.node.drain }) s.nodes })) :=
   (BI.trans (t:={ s with nodes:=turn1 (fun n=>n.id == c.node.id) (fun n=>{ n with drain:=c.node.drain }) s.nodes }) ⟨rfl,Ons.refl _⟩ (EH (fun t a=>by split;exact BP t a.job;exact BI.refl t) _ _)).trans (DL _)
  split
  ·exact hn h1
  exact hn (h1.trans (EB _))
 ·exact P7 h c hk
 ·unfold revert
  split
  ·exact h0
  split
  ·exact h0
  split
  ·exact h0
  simp only
  split
  ·exact hn (BI.trans ⟨rfl,Ons.refl _⟩ (BP _ _))
  split
  ·exact hn (BI.trans ⟨rfl,Ons.refl _⟩ (BP _ _))
  split
  ·exact h0
  exact hn (BI.trans ⟨rfl,Ons.refl _⟩ (CY _ _))
 exact h0
theorem Ou {k:Nat} {s:Ab} (h:Num k s) (ix:Int) (c:Bi) (hk:k+c.plan.places.length*c.plan.places.length < 4611686018427387904):Way s (apply s ix c).1∧EP s (apply s ix c).1:=by
 have h1:Num k { s with index:=ix }:=h.Lu ⟨rfl,Ons.refl _⟩
 have h0:Way s { s with index:=ix }∧EP s { s with index:=ix }:=⟨Way.refl s,EP.refl s⟩
 obtain ⟨g1,g2⟩:=LP h1 c hk
 have h2:Way s (command { s with index:=ix } c).1∧EP s (command { s with index:=ix } c).1:=⟨g1,g2⟩
 unfold apply
 simp only
 split
 ·exact h2
 split
 ·exact h0
 split
 ·split <;> exact h0
 exact h2
end Fsm
end
section
open Go.RowKit
namespace Fsm
def IV (k:Int):List Int→List Int
 | []=>[k]
 | y :: r=>if k≤y then k :: (y :: r).filter (fun z=>!(z == k)) else y :: IV k r
theorem ET {α:Type} (key:α→Int) (x:α):∀ l:List α,(Aj key x l).map key=IV (key x) (l.map key)
 | []=>rfl
 | y :: r=>by
  unfold Aj
  rw [List.map_cons,IV]
  split
  ·rw [List.map_cons]
   congr 1
   rw [← List.map_cons]
   generalize y :: r=m
   induction m with
   | nil=>rfl
   | cons z t ih =>
    rw [List.filter_cons,List.map_cons,List.filter_cons]
    split <;> simp [ih]
  rw [List.map_cons,ET key x r]
theorem JD {k:Int}:∀ {l:List Int},(∀ y∈l,k < y)→l.filter (fun z=>!(z == k))=l
 | [],_=>rfl
 | y :: r,h=>by
  have h1:=h y (List.mem_cons_self ..)
  rw [List.filter_cons,show (!(y == k))=true by simp;omega,if_pos rfl,JD (fun z hz=>h z (List.mem_cons_of_mem _ hz))]
theorem Ol {k:Int}:∀ {l:List Int},l.Pairwise (· < ·)→k∈l→IV k l=l
 | [],_,h=>by cases h
 | y :: r,hs,h=>by
  rw [List.pairwise_cons] at hs
  unfold IV
  rcases List.mem_cons.1 h with rfl|h
  ·rw [if_pos (Int.le_refl _),List.filter_cons]
   simp only [beq_self_eq_true,Bool.not_true,Bool.false_eq_true,if_false]
   rw [JD hs.1]
  have:=hs.1 k h
  rw [if_neg (by omega),Ol hs.2 h]
theorem Mf {k x:Int}:∀ {l:List Int},x∈IV k l→x=k ∨ x∈l
 | [],h=>by simp [IV] at h;exact .inl h
 | y :: r,h=>by
  unfold IV at h
  split at h
  ·rcases List.mem_cons.1 h with h|h
   ·exact .inl h
   exact .inr (List.mem_filter.1 h).1
  rcases List.mem_cons.1 h with h|h
  ·exact .inr (h ▸ List.mem_cons_self ..)
  rcases Mf h with h|h
  ·exact .inl h
  exact .inr (List.mem_cons_of_mem _ h)
theorem FN {k:Int}:∀ {l:List Int},l.Pairwise (· < ·)→(IV k l).Pairwise (· < ·)
 | [],_=>by simp [IV]
 | y :: r,hs=>by
  rw [List.pairwise_cons] at hs
  unfold IV
  split
  ·rename_i hk
   rw [List.pairwise_cons]
   refine ⟨fun z hz=>?_,List.Pairwise.sublist List.filter_sublist (List.pairwise_cons.2 hs)⟩
   obtain ⟨h1,h2⟩:=List.mem_filter.1 hz
   have h2' : z ≠ k:=by simpa using h2
   rcases List.mem_cons.1 h1 with rfl|h1
   ·omega
   have:=hs.1 z h1;omega
  rename_i hk
  rw [List.pairwise_cons]
  refine ⟨fun z hz=>?_,FN hs.2⟩
  rcases Mf hz with rfl|hz
  ·omega
  exact hs.1 z hz
structure Evs (s:Ab):Prop where
 keys:s.evals.map EvalD.job=s.jobs.map Ak.id
 sorted:(s.jobs.map Ak.id).Pairwise (· < ·)
 bound:∀ e∈s.evals,1≤e.index∧e.index≤s.index
 own:∀ a∈s.allocs,a.job∈s.jobs.map Ak.id
def G8 (s:Ab) (job:Int):Prop:=∃ e∈s.evals,e.job=job∧e.state=1∧e.index=s.index
structure Part (s t:Ab):Prop where
 jobs:t.jobs.map Ak.id=s.jobs.map Ak.id
 index:t.index=s.index
 evals:s.evals.map EvalD.job=s.jobs.map Ak.id→(s.jobs.map Ak.id).Pairwise (· < ·)→t.evals.map EvalD.job=s.evals.map EvalD.job
 bound:1≤s.index→(∀ e∈s.evals,1≤e.index∧e.index≤s.index)→∀ e∈t.evals,1≤e.index∧e.index≤s.index
 fresh:∀ j,G8 s j→G8 t j
theorem Part.refl (s:Ab):Part s s:=⟨rfl,rfl,fun _ _=>rfl,fun _ h=>h,fun _ h=>h⟩
theorem Part.trans {s t u:Ab} (h:Part s t) (k:Part t u):Part s u :=
 ⟨k.jobs.trans h.jobs,k.index.trans h.index,fun a b=>(k.evals (by rw [h.evals a b,h.jobs];exact a) (by rw [h.jobs];exact b)).trans (h.evals a b),
  fun a b=>by have:=k.bound (by rw [h.index];exact a) (by rw [h.index];exact h.bound a b);rw [h.index] at this;exact this,fun j e=>k.fresh j (h.fresh j e)⟩
theorem Io {α:Type} {f:Ab→α→Ab} (h:∀ s a,Part s (f s a)):∀ (l:List α) (s:Ab),Part s (l.foldl f s)
 | [],s=>Part.refl s
 | a :: r,s=>(h s a).trans (Io h r (f s a))
theorem Part.same {s t:Ab} (h1:t.jobs.map Ak.id=s.jobs.map Ak.id) (h2:t.index=s.index) (h3:t.evals=s.evals):Part s t :=
 ⟨h1,h2,fun _ _=>by rw [h3],fun _ b=>by rw [h3];exact b,fun j ⟨e,a,b⟩=>⟨e,by rw [h3];exact a,by rw [h2];exact b⟩⟩
theorem Part.pre {s t u:Ab} (h1:t.jobs.map Ak.id=s.jobs.map Ak.id) (h2:t.index=s.index) (h3:t.evals=s.evals) (k:Part t u):Part s u:=(Part.same h1 h2 h3).trans k
theorem Part.post {s t u:Ab} (k:Part s t) (h1:u.jobs.map Ak.id=t.jobs.map Ak.id) (h2:u.index=t.index) (h3:u.evals=t.evals):Part s u:=k.trans (Part.same h1 h2 h3)
theorem D8 {s:Ab} {x:Int} {j:Ak} (h:AB s x=some j):j.id=x∧j∈s.jobs:=by
 have:=List.find?_some h
 exact ⟨by simpa using this,List.mem_of_find?_eq_some h⟩
theorem F3 {α:Type} (key:α→Int) (x:α):∀ l:List α,x∈Aj key x l
 | []=>by simp [Aj]
 | y :: r=>by
  unfold Aj
  split
  ·exact List.mem_cons_self ..
  exact List.mem_cons_of_mem _ (F3 key x r)
theorem H7 {α:Type} (key:α→Int) (x:α):∀ (l:List α) {y:α},y∈l→key y ≠ key x→y∈Aj key x l
 | [],_,h,_=>by cases h
 | z :: r,y,h,hk=>by
  unfold Aj
  split
  ·exact List.mem_cons_of_mem _ (List.mem_filter.2 ⟨h,by simpa using hk⟩)
  rcases List.mem_cons.1 h with rfl|h
  ·exact List.mem_cons_self ..
  exact List.mem_cons_of_mem _ (H7 key x r h hk)
theorem Ea (s:Ab) (job:Int):Part s (eval s job):=by
 unfold eval
 split
 ·exact Part.refl s
 rename_i j hj
 obtain ⟨hid,hm⟩:=D8 hj
 refine ⟨rfl,rfl,fun a b=>?_,fun a b e he=>?_,fun k ⟨e,h1,h2,h3,h4⟩=>?_⟩
 ·rw [ET,a,Ol b (List.mem_map.2 ⟨j,hm,hid⟩)]
 ·rcases putL_mem he with rfl|⟨he,_⟩
  ·exact ⟨a,Int.le_refl _⟩
  exact b e he
 by_cases hk:k=job
 ·subst hk
  exact ⟨_,F3 _ _ _,rfl,rfl,rfl⟩
 exact ⟨e,H7 _ _ _ h1 (by simp only;omega),h2,h3,h4⟩
theorem JK {s:Ab} {job:Int} (h:job∈s.jobs.map Ak.id):G8 (eval s job) job:=by
 unfold eval
 cases hj:AB s job with
 | none =>
  obtain ⟨j,hm,e⟩:=List.mem_map.1 h
  have:=List.find?_eq_none.1 hj j hm
  simp [e] at this
 | some j=>exact ⟨_,F3 _ _ _,rfl,rfl,rfl⟩
theorem O3 (s:Ab):Part s (came s):=by
 have hk:∀ e,(Br s.index e).job=e.job:=fun e=>by unfold Br;split <;> rfl
 refine ⟨rfl,rfl,fun _ _=>?_,fun a b e he=>?_,fun k ⟨e,h1,h2,h3,h4⟩=>?_⟩
 ·rw [came,List.map_map]
  exact List.map_congr_left (fun e _=>hk e)
 ·obtain ⟨d,hd,rfl⟩:=List.mem_map.1 he
  unfold Br
  split
  ·exact ⟨a,Int.le_refl _⟩
  exact b d hd
 refine ⟨Br s.index e,List.mem_map_of_mem h1,by rw [hk];exact h2,?_,?_⟩
 ·unfold Br;split;rfl;exact h3
 unfold Br;split;rfl;exact h4
theorem M3 (s:Ab):Part s (system s):=Io (fun t j=>by split;exact Ea t j.id;exact Part.refl t) s.jobs s
theorem Pm (s:Ab) (i:Nat):Part s (AQ s i):=by
 unfold AQ
 split
 ·exact Part.refl s
 split
 ·exact Part.refl s
 split <;> exact Part.same rfl rfl rfl
theorem Ma (s:Ab):Part s (looked s):=Io Pm _ s
theorem Mk (n:NodD) (z:Ab × Bool) (r:Int × Int):Part z.1 (report n z r).1:=by
 unfold report
 split
 ·exact Part.refl _
 split
 ·exact Part.refl _
 simp only
 split
 ·refine Part.pre ?_ ?_ ?_ (Ea _ _) <;> rfl
 split
 ·exact Part.same rfl rfl rfl
 split
 ·exact Part.same rfl rfl rfl
 refine Part.post (t:=eval { z.1 with allocs:=turn1 (fun a=>a.id == r.1) (fun a=>{ a with state:=r.2 }) z.1.allocs } _) ?_ rfl rfl rfl
 refine Part.pre ?_ ?_ ?_ (Ea _ _) <;> rfl
end Fsm
end
end Go.Proofs.YtccekmeifanipaaGreat
