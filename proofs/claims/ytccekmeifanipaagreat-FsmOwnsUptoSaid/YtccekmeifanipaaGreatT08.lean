/- Parts of the proof: FsmF FsmI FsmJ FsmK FsmN FsmL FsmE -/
import Derived.Test.YtccekmeifanipaaGreatT07
namespace Go.Proofs.YtccekmeifanipaaGreat
set_option linter.unusedVariables false
set_option linter.unusedSimpArgs false
set_option linter.unusedSectionVars false
section
open Go.RowKit
structure BV where
 op:Int
 client:Int
 req:Int
 job:Aq
 node:NodD
 reports:List (Int × Int)
 plan:Rp
deriving DecidableEq
namespace Fsm
def AU (s:Ab) (id:Int):Option Aq:=s.jobs.find? (fun j=>j.id == id)
def nodeAt (s:Ab) (id:Int):Option NodD:=s.nodes.find? (fun n=>n.id == id)
def JM (s:Ab) (job:Int):Option DepD:=s.deploys.find? (fun d=>d.job == job)
def Dp (s:Ab) (id:Int):Option Aq:=s.stable.find? (fun j=>j.id == id)
def II (s:Ab) (job:Int):Option EvalD:=s.evals.find? (fun e=>e.job == job)
def Ak {α:Type} (key:α→Int) (x:α):List α→List α
 | []=>[x]
 | y :: r=>if key x≤key y then x :: (y :: r).filter (fun z=>!(key z == key x)) else y :: Ak key x r
def Ap {α:Type} (p:α→Bool) (f:α→α):List α→List α
 | []=>[]
 | y :: r=>if p y then f y :: r else y :: Ap p f r
def no (s:Ab) (e:Int):Ab × AQ:=(s,⟨e,0,[]⟩)
def eval (s:Ab) (job:Int):Ab :=
 match AU s job with
 | none=>s
 | some j=>{ s with evals:=Ak EvalD.job ⟨job,j.prio,1,s.index⟩ s.evals }
def Br (ix:Int) (e:EvalD):EvalD:=if e.state == 2 || e.state == 1 then { e with state:=1,index:=ix } else e
def came (s:Ab):Ab:={ s with evals:=s.evals.map (Br s.index) }
def system (s:Ab):Ab:=s.jobs.foldl (fun t j=>if j.ty == 3 && !j.stopped then eval t j.id else t) s
def DX (j:Aq):List (Int × Int):=j.groups.zipIdx.flatMap (fun p=>(List.range (FO p.1)).map (fun i:Nat=>((p.2:Int),(i:Int))))
def Kk (l:List Ac) (j:Aq) (x:Int × Int):Bool :=
 match l.find? (Ce j.id x.1 x.2) with
 | none=>false
 | some a=>a.ver == j.ver && a.state == 2 && !a.stop
def EM (s:Ab) (j:Aq):Bool:=j.ty == 3 || (DX j).all (Kk s.allocs j)
def AF (s:Ab) (i:Nat):Ab :=
 match s.deploys[i]? with
 | none=>s
 | some d=>match AU s d.job with
  | none=>s
  | some j=>if d.state == 1 && j.ver == d.ver && EM s j then { s with deploys:=s.deploys.set i { d with state:=2 },stable:=Ak Aq.id j s.stable } else s
def looked (s:Ab):Ab:=(List.range s.deploys.length).foldl AF s
def begins (s:Ab) (j:Aq):Ab :=
 let s1:Ab:={ s with jobs:=Ak Aq.id j s.jobs }
 let s2:Ab:=if j.ty == 1 then looked { s1 with deploys:=Ak DepD.job ⟨j.id,j.ver,1,s1.index⟩ s1.deploys } else s1
 eval s2 j.id
def AR (node:Int) (s:Ab) (i:Nat):Ab :=
 match s.allocs[i]? with
 | none=>s
 | some a=>if a.node == node && !Bv a then eval { s with allocs:=s.allocs.set i { a with state:=6 } } a.job else s
def lost (s:Ab) (node:Int):Ab:=(List.range s.allocs.length).foldl (AR node) s
def BU:Int:=1099511627776
def BG (ty:Int) (g:Ao):Bool:=decide (0≤g.count) && decide (g.count≤4) && decide (0≤g.ask.cpu) && decide (g.ask.cpu≤BU) && decide (0≤g.ask.mem) && decide (g.ask.mem≤BU) && !(ty == 3 && !(g.count == 1))
def Dw (j:Aq):Bool:=decide (1≤j.id) && decide (j.id≤BU) && decide (1≤j.ty) && decide (j.ty≤3) && decide (1≤j.prio) && decide (j.prio≤100) && decide (1≤j.par) && decide (j.par≤8) && decide (1≤j.groups.length) && decide (j.groups.length≤2) && j.groups.all (BG j.ty)
def DL (n:NodD):Bool:=decide (1≤n.id) && decide (n.id≤4) && decide (0≤n.cap.cpu) && decide (n.cap.cpu≤BU) && decide (0≤n.cap.mem) && decide (n.cap.mem≤BU) && decide (1≤n.boot) && decide (n.boot≤BU)
def BZ (s:Ab) (c:BV):Ab × AQ :=
 if !Dw c.job then no s 30 else
 match AU s c.job.id with
 | some h=>if !(h.ty == c.job.ty) || decide (BU≤h.ver) then no s 30 else
   (begins s { c.job with stopped:=false,ver:=wrap64 (h.ver+1) },⟨0,wrap64 (h.ver+1),[]⟩)
 | none=>if 6≤s.jobs.length then no s 2 else (begins s { c.job with stopped:=false,ver:=1 },⟨0,1,[]⟩)
def cancel (s:Ab) (c:BV):Ab × AQ :=
 match AU s c.job.id with
 | none=>no s 36
 | some _=>(eval { s with jobs:=Ap (fun j=>j.id == c.job.id) (fun j=>{ j with stopped:=true }) s.jobs,deploys:=Ap (fun d=>d.job == c.job.id) (fun d=>if d.state == 1 then { d with state:=3 } else d) s.deploys } c.job.id,⟨0,0,[]⟩)
def joins (s:Ab) (n:NodD):Ab:=came (system (lost { s with nodes:=Ak NodD.id n s.nodes } n.id))
def register (s:Ab) (c:BV):Ab × AQ :=
 if !DL c.node then no s 31 else
 match nodeAt s c.node.id with
 | none=>(joins s ⟨c.node.id,c.node.cap,true,false,c.node.boot,1,0⟩,⟨0,1,[]⟩)
 | some h=>if c.node.boot < h.boot then no s 33 else
   if h.boot == c.node.boot then (if h.up then (s,⟨0,h.epoch,[]⟩) else no s 33) else
   (joins s ⟨c.node.id,c.node.cap,true,h.drain,c.node.boot,wrap64 (h.epoch+1),0⟩,⟨0,wrap64 (h.epoch+1),[]⟩)
def takes (n:NodD) (a:Ac) (st:Int):Bool:=a.node == n.id && a.epoch == n.epoch && !Bv a && decide (a.state < st) && decide (2≤st) && decide (st≤5) && !(st == 5 && !a.stop)
def report (n:NodD) (z:Ab × Bool) (r:Int × Int):Ab × Bool :=
 match z.1.allocs.find? (fun a=>a.id == r.1) with
 | none=>z
 | some a=>if !takes n a r.2 then z else
   let s:Ab:={ z.1 with allocs:=Ap (fun a=>a.id == r.1) (fun a=>{ a with state:=r.2 }) z.1.allocs }
   if 3≤r.2 then (eval s a.job,true) else
   match AU s a.job with
   | none=>(s,z.2)
   | some j=>if !(j.ty == 1) then (s,z.2) else
     let t:=eval s a.job
     ({ t with deploys:=Ap (fun d=>d.job == a.job) (fun d=>if d.state == 1 && d.ver == a.ver then { d with index:=t.index } else d) t.deploys },z.2)
def Ec (s:Ab) (c:BV):Ab × AQ :=
 if 64 < c.reports.length || decide (c.node.seq < 1) || decide (BU < c.node.seq) then no s 1 else
 match nodeAt s c.node.id with
 | none=>no s 31
 | some h=>if !h.up || !(h.epoch == c.node.epoch) then no s 32 else if c.node.seq≤h.seq then no s 33 else
   let s1:Ab:={ s with nodes:=Ap (fun n=>n.id == c.node.id) (fun n=>{ n with seq:=c.node.seq }) s.nodes }
   let z:=c.reports.foldl (report c.node) (s1,false)
   let s2:=looked z.1
   let s3:=if z.2 then came s2 else s2
   (s3,⟨0,c.node.epoch,s3.allocs.filter (fun a=>a.node == c.node.id && !Bv a)⟩)
def down (s:Ab) (c:BV):Ab × AQ :=
 match nodeAt s c.node.id with
 | none=>no s 31
 | some h=>if !h.up || !(h.epoch == c.node.epoch) then no s 32 else if !(h.seq == c.node.seq) then no s 33 else
   (system (lost { s with nodes:=Ap (fun n=>n.id == c.node.id) (fun n=>{ n with up:=false,epoch:=wrap64 (n.epoch+1) }) s.nodes } c.node.id),⟨0,0,[]⟩)
def drain (s:Ab) (c:BV):Ab × AQ :=
 match nodeAt s c.node.id with
 | none=>no s 31
 | some h =>
   let s1:Ab:={ s with nodes:=Ap (fun n=>n.id == c.node.id) (fun n=>{ n with drain:=c.node.drain }) s.nodes }
   let s2:=s1.allocs.foldl (fun t a=>if a.node == c.node.id && !Bv a then eval t a.job else t) s1
   let s3:=system s2
   (if c.node.drain then s3 else came s3,⟨0,0,[]⟩)
def EI (s:Ab) (j:Aq) (n:NodD) (x:Ac):Bool :=
 x.job == j.id && x.ver == j.ver && x.epoch == n.epoch && decide (0≤x.group) &&
 (match j.groups[x.group.toNat]? with
  | none=>false
  | some g=>decide (x.ask=g.ask) && (if j.ty == 3 then x.index == n.id else decide (0≤x.index) && decide (x.index < g.count))) &&
 !s.allocs.any (fun a=>a.job == j.id && a.group == x.group && a.index == x.index && (!Bv a || (j.ty == 2 && a.ver == j.ver && a.state == 3))) &&
 GY (Dv s.allocs n.id) x.ask n.cap
def placed (s:Ab) (j:Aq) (n:NodD) (x:Ac):Ab :=
 { s with allocs:=s.allocs ++ [⟨s.next,j.id,j.ver,x.group,x.index,n.id,n.epoch,x.ask,false,1⟩],next:=wrap64 (s.next+1) }
def Bc (j:Aq) (n:NodD) (o:Option Ab) (x:Ac):Option Ab:=match o with|none=>none|some t=>if EI t j n x then some (placed t j n x) else none
def Ck (j:Aq) (n:NodD) (l:List Ac) (s:Ab):Option Ab:=l.foldl (Bc j n) (some s)
def Cf (jobs:List Aq) (a:Ac):Bool:=!Bv a || (a.state == 3 && (match jobs.find? (fun j=>j.id == a.job) with|none=>false|some j=>j.ty == 2 && j.ver == a.ver))
def Di (jobs:List Aq):Nat→List Ac→Option (List Ac)
 | 0,l=>if l.length≤64 then some l else none
 | n+1,l=>if l.length≤64 then some l else
   match l.findIdx? (fun a=>!Cf jobs a) with
   | none=>none
   | some k=>Di jobs n (l.eraseIdx k)
def places (s:Ab) (j:Aq) (node:Int) (l:List Ac):Ab × Bool :=
 match nodeAt s node with
 | none=>(s,false)
 | some n=>if !n.up || n.drain || j.stopped then (s,false) else
   match Ck j n (l.filter (fun x=>x.node == node)) s with
   | none=>(s,false)
   | some t=>match Di t.jobs t.allocs.length t.allocs with
    | none=>(s,false)
    | some m=>({ t with allocs:=m },true)
def Hf (x:Int):List Int→List Int
 | []=>[x]
 | y :: r=>if x < y then x :: y :: r else if x=y then y :: r else y :: Hf x r
def BK (l:List Ac):List Int:=l.foldr (fun x r=>Hf x.node r) []
def stops (job:Int) (l:List Ac) (ids:List Int):List Ac :=
 ids.foldl (fun m id=>Ap (fun a=>a.id == id) (fun a=>if a.job == job && !Bv a then { a with stop:=true } else a) m) l
def plan (s:Ab) (c:BV):Ab × AQ :=
 let p:=c.plan
 match AU s p.job,II s p.job with
 | some j,some e=>if !(j.ver == p.ver) || !(e.state == 1) || !(e.index == p.index) then no s 34 else
   let z:=(BK p.places).foldl (fun z n=>let y:=places z.1 j n p.places;(y.1,z.2 && y.2)) (({ s with allocs:=stops p.job s.allocs p.stops }:Ab),true)
   if !z.2 then ({ z.1 with evals:=Ap (fun e=>e.job == p.job) (fun e=>{ e with index:=s.index }) z.1.evals },⟨35,s.index,[]⟩)
   else ({ z.1 with evals:=Ap (fun e=>e.job == p.job) (fun e=>{ e with state:=if p.blocked then 2 else 3 }) z.1.evals },⟨0,s.index,[]⟩)
 | _,_=>no s 34
def Ea (a b:Aq):Bool:=a.id == b.id && a.ty == b.ty && a.prio == b.prio && a.par == b.par && decide (a.groups=b.groups)
def revert (s:Ab) (c:BV):Ab × AQ :=
 match AU s c.job.id with
 | none=>no s 36
 | some j=>match JM s j.id with
  | none=>no s 33
  | some d=>if !(j.ver == c.job.ver) || !(d.state == 1) || !(d.ver == j.ver) then no s 33 else
    let f:Ab:={ s with deploys:=Ap (fun d=>d.job == j.id) (fun d=>{ d with state:=3 }) s.deploys }
    match Dp s j.id with
    | none=>(eval f j.id,⟨0,j.ver,[]⟩)
    | some x=>if Ea x j then (eval f j.id,⟨0,j.ver,[]⟩) else if BU≤j.ver then no s 33 else
      (begins f { x with ver:=wrap64 (j.ver+1),stopped:=false },⟨0,wrap64 (j.ver+1),[]⟩)
def command (s:Ab) (c:BV):Ab × AQ :=
 if c.op=1 ∨ c.op=2 then (s,⟨0,0,[]⟩) else
 if c.op=3 then BZ s c else if c.op=4 then cancel s c else if c.op=5 then register s c else
 if c.op=6 then Ec s c else if c.op=7 then down s c else if c.op=8 then drain s c else
 if c.op=9 then plan s c else if c.op=10 then revert s c else no s 50
def apply (s0:Ab) (index:Int) (c:BV):Ab × AQ :=
 let s:Ab:={ s0 with index:=index }
 if !(c.op == 3 || c.op == 4 || c.op == 8) || c.client == 0 then command s c else
 if c.client < 1 ∨ 4 < c.client ∨ c.req < 1 ∨ BU < c.req then no s 1 else
 match s.seen.find? (fun x=>x.client == c.client && decide (c.req≤x.req)) with
 | some x=>if c.req < x.req then no s 33 else (s,x.answer)
 | none =>
   let z:=command s c
   ({ z.1 with seen:=Ak Co.client ⟨c.client,c.req,z.2⟩ z.1.seen },z.2)
def new:Ab:=⟨0,1,[],[],[],[],[],[],[]⟩
def grown (l:List BV):Ab:=(l.zipIdx).foldl (fun s p=>(apply s ((p.2:Int)+1) p.1).1) new
end Fsm
end
section
open Go.RowKit
namespace Fsm
section
variable {α:Type} {key:α→Int} {x:α}
theorem putL_mem {l:List α} {y:α} (h:y∈Ak key x l):y=x ∨ (y∈l∧key y ≠ key x):=by
 induction l with
 | nil=>simp [Ak] at h;exact .inl h
 | cons z r ih =>
  unfold Ak at h
  split at h
  ·rcases List.mem_cons.1 h with h|h
   ·exact .inl h
   obtain ⟨h1,h2⟩:=List.mem_filter.1 h
   exact .inr ⟨h1,by simpa using h2⟩
  rename_i hk
  rcases List.mem_cons.1 h with h|h
  ·subst h;exact .inr ⟨List.mem_cons_self ..,by omega⟩
  rcases ih h with h|⟨h1,h2⟩
  ·exact .inl h
  exact .inr ⟨List.mem_cons_of_mem _ h1,h2⟩
theorem IA {l:List α} (h:(l.map key).Nodup):((Ak key x l).map key).Nodup:=by
 induction l with
 | nil=>simp [Ak]
 | cons z r ih =>
  unfold Ak
  split
  ·rw [List.map_cons,List.nodup_cons]
   refine ⟨fun hm=>?_,?_⟩
   ·obtain ⟨y,hy,e⟩:=List.mem_map.1 hm
    have:=(List.mem_filter.1 hy).2
    simp [e] at this
   exact h.sublist (List.Sublist.map _ List.filter_sublist)
  rename_i hk
  rw [List.map_cons,List.nodup_cons] at h ⊢
  refine ⟨fun hm=>?_,ih h.2⟩
  obtain ⟨y,hy,e⟩:=List.mem_map.1 hm
  rcases putL_mem hy with rfl|⟨h1,_⟩
  ·omega
  exact h.1 (List.mem_map.2 ⟨y,h1,e⟩)
theorem GJ (l:List α):(Ak key x l).find? (fun y=>key y == key x)=some x:=by
 induction l with
 | nil=>simp [Ak]
 | cons z r ih =>
  unfold Ak
  split
  ·simp
  rename_i hk
  rw [List.find?_cons,show (key z == key x)=false by simp;omega]
  exact ih
theorem Du {i:Int} (hi:i ≠ key x) (l:List α):(Ak key x l).find? (fun y=>key y == i)=l.find? (fun y=>key y == i):=by
 induction l with
 | nil=>simp [Ak,Ne.symm hi]
 | cons z r ih =>
  unfold Ak
  split
  ·rw [List.find?_cons,show (key x == i)=false by simp;exact Ne.symm hi]
   simp only
   generalize z :: r=m
   induction m with
   | nil=>rfl
   | cons y t ih =>
    rw [List.filter_cons]
    split
    ·rw [List.find?_cons,List.find?_cons,ih]
    rename_i hy
    rw [List.find?_cons,ih]
    have:key y=key x:=by simpa using hy
    rw [show (key y == i)=false by simp [this];exact Ne.symm hi]
  rw [List.find?_cons,List.find?_cons,ih]
theorem DF {β:Type} (p:α→Bool) (f:α→α) (g:α→β) (h:∀ a,g (f a)=g a) (l:List α):(Ap p f l).map g=l.map g:=by
 induction l with
 | nil=>rfl
 | cons y r ih =>
  unfold Ap
  split
  ·simp [h]
  simp [ih]
theorem Ml (p:α→Bool) (f:α→α) (h:∀ a,p (f a)=p a) (l:List α):(Ap p f l).find? p=(l.find? p).map f:=by
 induction l with
 | nil=>rfl
 | cons y r ih =>
  unfold Ap
  split
  ·rename_i hp
   simp [List.find?_cons,h,hp]
  rename_i hp
  have hp' : p y=false:=by simpa using hp
  simp [List.find?_cons,hp',ih]
theorem Gn (p q:α→Bool) (f:α→α) (h:∀ a,p a=true→q (f a)=false∧q a=false) (l:List α):(Ap p f l).find? q=l.find? q:=by
 induction l with
 | nil=>rfl
 | cons y r ih =>
  unfold Ap
  split
  ·rename_i hp
   obtain ⟨h1,h2⟩:=h y hp
   simp [List.find?_cons,h1,h2]
  simp [List.find?_cons,ih]
end
def core (a:Ac):Ac:={ a with stop:=false,state:=1 }
structure On (a b:Ac):Prop where
 core:core b=core a
 rise:a.state≤b.state
 past:Bv a=true→b.state=a.state
 stop:a.stop=true→b.stop=true
theorem On.over {a b:Ac} (h:On a b) (ha:Bv a=true):Bv b=true:=by
 have:=h.past ha
 simp only [Bv,decide_eq_true_eq] at ha ⊢
 omega
theorem On.refl (a:Ac):On a a:=⟨rfl,Int.le_refl _,fun _=>rfl,id⟩
theorem On.trans {a b c:Ac} (h:On a b) (k:On b c):On a c:=⟨k.core.trans h.core,Int.le_trans h.rise k.rise,fun e=>(k.past (h.over e)).trans (h.past e),fun e=>k.stop (h.stop e)⟩
def Ons:List Ac→List Ac→Prop
 | [],[]=>True
 | a :: l,b :: m=>On a b∧Ons l m
 | _,_=>False
theorem Ons.refl:∀ l:List Ac,Ons l l
 | []=>trivial
 | a :: r=>⟨On.refl a,Ons.refl r⟩
theorem Ons.trans:∀ {l m n:List Ac},Ons l m→Ons m n→Ons l n
 | [],[],[],_,_=>trivial
 | _ :: _,_ :: _,_ :: _,h,k=>⟨h.1.trans k.1,Ons.trans h.2 k.2⟩
 | [],[],_ :: _,_,k=>k.elim
 | [],_ :: _,_,h,_=>h.elim
 | _ :: _,[],_,h,_=>h.elim
 | _ :: _,_ :: _,[],_,k=>k.elim
theorem Ons.Ap (p:Ac→Bool) (f:Ac→Ac) (h:∀ a,p a=true→On a (f a)):∀ l,Ons l (Fsm.Ap p f l)
 | []=>trivial
 | a :: r=>by
  unfold Fsm.Ap
  split
  ·rename_i hp;exact ⟨h a hp,Ons.refl r⟩
  exact ⟨On.refl a,Ons.Ap p f h r⟩
theorem Ons.set:∀ (l:List Ac) (i:Nat) (b:Ac),(∀ a,l[i]? = some a→On a b)→Ons l (l.set i b)
 | [],_,_,_=>trivial
 | a :: r,0,b,h=>⟨h a rfl,Ons.refl r⟩
 | a :: r,i+1,b,h=>⟨On.refl a,Ons.set r i b (fun c hc=>h c (by simpa using hc))⟩
def DV (l:List Ac):List Ac:=(l.filter (fun a=>!Bv a)).map core
theorem Ons.mem:∀ {l m:List Ac},Ons l m→∀ {b:Ac},b∈m→∃ a∈l,On a b
 | [],[],_,_,hb=>by cases hb
 | [],_ :: _,h,_,_=>h.elim
 | _ :: _,[],h,_,_=>h.elim
 | a :: l,c :: m,h,b,hb=>by
  rcases List.mem_cons.1 hb with rfl|hb
  ·exact ⟨_,List.mem_cons_self ..,h.1⟩
  obtain ⟨a',ha,k⟩:=Ons.mem h.2 hb
  exact ⟨a',List.mem_cons_of_mem _ ha,k⟩
theorem DC {a b:Ac} (h:core b=core a):b.node=a.node∧b.epoch=a.epoch∧b.job=a.job∧b.group=a.group∧b.index=a.index∧b.ask=a.ask∧b.id=a.id∧b.ver=a.ver:=by
 simp only [core,Ac.mk.injEq] at h
 obtain ⟨h1,h2,h3,h4,h5,h6,h7,h8,_,_⟩:=h
 exact ⟨h6,h7,h2,h4,h5,h8,h1,h3⟩
theorem Nn {l:List Ac} {c:Ac} (h:c∈DV l):∃ a∈l,Bv a=false∧c=core a:=by
 obtain ⟨a,ha,e⟩:=List.mem_map.1 h
 obtain ⟨h1,h2⟩:=List.mem_filter.1 ha
 exact ⟨a,h1,by simpa using h2,e.symm⟩
def leR (a b:Cg):Prop:=a.cpu≤b.cpu∧a.mem≤b.mem
def useC (node:Int) (o:Option Cg) (c:Ac):Option Cg:=match o with|none=>none|some r=>if c.node == node then Dc r c.ask else some r
theorem En (node:Int):∀ l:List Ac,l.foldl (useC node) none=none
 | []=>rfl
 | a :: r=>En node r
theorem JE {a b s:Cg} (h:Dc a b=some s):s=⟨a.cpu+b.cpu,a.mem+b.mem⟩∧0≤b.cpu∧0≤b.mem∧0≤a.cpu∧0≤a.mem∧a.cpu+b.cpu≤1152921504606846976∧a.mem+b.mem≤1152921504606846976∧b.cpu≤1152921504606846976∧b.mem≤1152921504606846976:=by
 unfold Dc at h
 split at h
 ·rename_i hc
  simp only [Option.some.injEq] at h
  simp only [D5,inB,Bool.and_eq_true,decide_eq_true_eq] at hc
  have hm:(Go.Proofs.YtccekmeifanipaaGreat.most:Int)=1152921504606846976:=rfl
  exact ⟨h.symm,by omega,by omega,by omega,by omega,by omega,by omega,by omega,by omega⟩
 cases h
theorem Pp {a b a' : Cg} {s:Cg} (h:Dc a b=some s) (hl:leR a' a) (h0:0≤a'.cpu∧0≤a'.mem):∃ s',Dc a' b=some s'∧leR s' s∧0≤s'.cpu∧0≤s'.mem:=by
 obtain ⟨rfl,h1,h2,h3,h4,h5,h6,h7,h8⟩:=JE h
 obtain ⟨l1,l2⟩:=hl
 refine ⟨⟨a'.cpu+b.cpu,a'.mem+b.mem⟩,?_,⟨by simp only;omega,by simp only;omega⟩,by simp only;omega,by simp only;omega⟩
 unfold Dc
 have hm:(Go.Proofs.YtccekmeifanipaaGreat.most:Int)=1152921504606846976:=rfl
 rw [if_pos (by simp only [D5,inB,Bool.and_eq_true,decide_eq_true_eq];omega)]
theorem M0 (node:Int):∀ {m l:List Ac},m.Sublist l→∀ {r r' s:Cg},leR r' r→(0≤r'.cpu∧0≤r'.mem)→l.foldl (useC node) (some r)=some s→∃ s',m.foldl (useC node) (some r')=some s'∧leR s' s:=by
 intro m l h
 induction h with
 | slnil=>intro r r' s hl h0 hs;simp at hs;subst hs;exact ⟨r',rfl,hl⟩
 | cons a _ ih =>
  intro r r' s hl h0 hs
  rw [List.foldl_cons] at hs
  unfold useC at hs
  simp only at hs
  split at hs
  ·cases hq:Dc r a.ask with
   | none=>rw [hq] at hs;rw [show (fun o c=>match o with|none=>none|some r=>if (c.node == node)=true then Dc r c.ask else some r)=useC node from rfl,En] at hs;cases hs
   | some q =>
    rw [hq] at hs
    obtain ⟨e,h1,h2,_⟩:=JE hq
    exact ih (show leR r' q by subst e;exact ⟨by have:=hl.1;simp only;omega,by have:=hl.2;simp only;omega⟩) h0 hs
  exact ih hl h0 hs
 | cons_cons a _ ih =>
  intro r r' s hl h0 hs
  rw [List.foldl_cons] at hs ⊢
  unfold useC at hs ⊢
  simp only at hs ⊢
  split at hs
  ·rename_i hn
   rw [if_pos hn]
   cases hq:Dc r a.ask with
   | none=>rw [hq] at hs;rw [show (fun o c=>match o with|none=>none|some r=>if (c.node == node)=true then Dc r c.ask else some r)=useC node from rfl,En] at hs;cases hs
   | some q =>
    rw [hq] at hs
    obtain ⟨q',e1,e2,e3⟩:=Pp hq hl h0
    rw [e1]
    exact ih e2 e3 hs
  rename_i hn
  rw [if_neg hn]
  exact ih hl h0 hs
end Fsm
end
section
open Go.RowKit
namespace Fsm
def Kept (s t:Ab):Prop:=t.nodes=s.nodes∧t.allocs=s.allocs
theorem Kept.refl (s:Ab):Kept s s:=⟨rfl,rfl⟩
theorem Kept.trans {s t u:Ab} (h:Kept s t) (k:Kept t u):Kept s u:=⟨k.1.trans h.1,k.2.trans h.2⟩
theorem GK {α:Type} {f:Ab→α→Ab} (h:∀ s a,Kept s (f s a)):∀ (l:List α) (s:Ab),Kept s (l.foldl f s)
 | [],s=>Kept.refl s
 | a :: r,s=>(h s a).trans (GK h r (f s a))
theorem eval_kept (s:Ab) (j:Int):Kept s (eval s j):=by unfold eval;split <;> exact ⟨rfl,rfl⟩
theorem Lf (s:Ab):Kept s (system s):=GK (fun t j=>by split;exact eval_kept t j.id;exact Kept.refl t) s.jobs s
theorem Nr (s:Ab) (i:Nat):Kept s (AF s i):=by
 unfold AF
 split
 ·exact Kept.refl s
 split
 ·exact Kept.refl s
 split <;> exact ⟨rfl,rfl⟩
theorem G5 (s:Ab):Kept s (looked s):=GK Nr _ s
structure Inv (s:Ab):Prop where
 nd:(s.nodes.map NodD.id).Nodup
 fenced:∀ c∈DV s.allocs,∃ n,nodeAt s c.node=some n∧n.up=true∧n.epoch=c.epoch
 slots:((DV s.allocs).map (fun a=>(a.job,a.group,a.index))).Nodup
 room:∀ n∈s.nodes,∃ r,(DV s.allocs).foldl (useC n.id) (some ⟨0,0⟩)=some r∧leR r n.cap
theorem Inv.kept {s t:Ab} (h:Inv s) (k:Kept s t):Inv t:=by
 obtain ⟨k1,k2⟩:=k
 have hn:∀ x,nodeAt t x=nodeAt s x:=fun x=>by rw [nodeAt,nodeAt,k1]
 exact ⟨by rw [k1];exact h.nd,fun c hc=>by rw [k2] at hc;rw [hn];exact h.fenced c hc,by rw [k2];exact h.slots,fun n hn=>by rw [k1] at hn;rw [k2];exact h.room n hn⟩
theorem Inv.less {s t:Ab} (h:Inv s) (hn:t.nodes=s.nodes) (hs:(DV t.allocs).Sublist (DV s.allocs)):Inv t:=by
 have hna:∀ x,nodeAt t x=nodeAt s x:=fun x=>by rw [nodeAt,nodeAt,hn]
 refine ⟨by rw [hn];exact h.nd,fun c hc=>by rw [hna];exact h.fenced c (hs.subset hc),h.slots.sublist (hs.map _),fun n hm=>?_⟩
 rw [hn] at hm
 obtain ⟨r,h1,h2⟩:=h.room n hm
 obtain ⟨r',h3,h4⟩:=M0 n.id hs (r:=⟨0,0⟩) (r':=⟨0,0⟩) ⟨Int.le_refl _,Int.le_refl _⟩ ⟨Int.le_refl _,Int.le_refl _⟩ h1
 exact ⟨r',h3,by have:=h4.1;have:=h2.1;omega,by have:=h4.2;have:=h2.2;omega⟩
theorem JU (node:Int) (s:Ab) (i:Nat):(AR node s i).nodes=s.nodes∧Ons s.allocs (AR node s i).allocs∧(∀ j,j ≠ i→(AR node s i).allocs[j]? = s.allocs[j]?)∧(∀ b,(AR node s i).allocs[i]? = some b→b.node=node→Bv b=true)∧(AR node s i).allocs.length=s.allocs.length:=by
 unfold AR
 cases hi:s.allocs[i]? with
 | none=>exact ⟨rfl,Ons.refl _,fun _ _=>rfl,fun b hb=>(by have hb' : s.allocs[i]? = some b:=hb;rw [hi] at hb';cases hb'),rfl⟩
 | some a =>
  simp only
  split
  ·rename_i hc
   obtain ⟨k1,k2⟩:=eval_kept { s with allocs:=s.allocs.set i { a with state:=6 } } a.job
   rw [k1,k2]
   refine ⟨rfl,Ons.set _ _ _ (fun c hc'=>?_),fun j hj=>List.getElem?_set_ne (Ne.symm hj),fun b hb hbn=>?_,List.length_set ..⟩
   ·rw [hi] at hc';cases hc'
    simp only [Bool.and_eq_true,Bool.not_eq_true',Bv,decide_eq_false_iff_not] at hc
    exact ⟨rfl,by simp only;omega,fun e=>by simp only [Bv,decide_eq_true_eq] at e;omega,fun e=>e⟩
   simp only at hb
   rw [List.getElem?_set_self (List.getElem?_eq_some_iff.1 hi).1] at hb
   cases hb;rfl
  rename_i hc
  refine ⟨rfl,Ons.refl _,fun _ _=>rfl,fun b hb hbn=>?_,rfl⟩
  rw [hi] at hb;cases hb
  simp only [Bool.and_eq_true,beq_iff_eq,not_and,Bool.not_eq_true,Bool.not_eq_false'] at hc
  simpa using hc hbn
theorem NE (s:Ab) (node:Int):(lost s node).nodes=s.nodes∧Ons s.allocs (lost s node).allocs∧∀ b∈(lost s node).allocs,b.node=node→Bv b=true:=by
 have key:∀ k,k≤s.allocs.length→((List.range k).foldl (AR node) s).nodes=s.nodes∧Ons s.allocs ((List.range k).foldl (AR node) s).allocs∧(∀ (i:Nat) b,i < k→((List.range k).foldl (AR node) s).allocs[i]? = some b→b.node=node→Bv b=true)∧((List.range k).foldl (AR node) s).allocs.length=s.allocs.length:=fun k=>by
  induction k with
  | zero=>intro _;exact ⟨rfl,Ons.refl _,fun i b h=>absurd h (by omega),rfl⟩
  | succ k ih =>
   intro hk
   obtain ⟨h1,h2,h3,h4⟩:=ih (by omega)
   rw [List.range_succ,List.foldl_append,List.foldl_cons,List.foldl_nil]
   generalize (List.range k).foldl (AR node) s=t at h1 h2 h3 h4
   obtain ⟨g1,g2,g3,g4,g5⟩:=JU node t k
   refine ⟨g1.trans h1,h2.trans g2,fun i b hi hb hbn=>?_,g5.trans h4⟩
   by_cases hik:i=k
   ·subst hik;exact g4 b hb hbn
   rw [g3 i hik] at hb
   exact h3 i b (by omega) hb hbn
 obtain ⟨h1,h2,h3,h4⟩:=key s.allocs.length (Nat.le_refl _)
 refine ⟨h1,h2,fun b hb hbn=>?_⟩
 obtain ⟨i,hi⟩:=List.getElem?_of_mem hb
 exact h3 i b (by have:=(List.getElem?_eq_some_iff.1 hi).1;unfold lost at this;omega) hi hbn
theorem MH (x:Int):∀ (l:List Ac) (o:Option Cg),(∀ c∈l,c.node ≠ x)→l.foldl (useC x) o=o
 | [],o,_=>rfl
 | a :: r,o,h=>by
  rw [List.foldl_cons,show useC x o a=o by
   cases o with
   | none=>rfl
   | some r=>simp [useC,h a (List.mem_cons_self ..)]]
  exact MH x r o (fun c hc=>h c (List.mem_cons_of_mem _ hc))
theorem Inv.fresh {s t:Ab} (h:Inv s) {x:Int} (hl:(DV t.allocs).Sublist (DV s.allocs)) (ho:∀ b∈t.allocs,b.node=x→Bv b=true)
  (hnd:(t.nodes.map NodD.id).Nodup) (hf:∀ i,i ≠ x→nodeAt t i=nodeAt s i) (hr:∀ n∈t.nodes,n.id=x∧0≤n.cap.cpu∧0≤n.cap.mem ∨ ∃ m∈s.nodes,m.id=n.id∧m.cap=n.cap):Inv t:=by
 have hx:∀ c∈DV t.allocs,c.node ≠ x:=fun c hc=>by
  obtain ⟨a,ha,hoa,rfl⟩:=Nn hc
  intro e
  have:=ho a ha e
  rw [hoa] at this;cases this
 refine ⟨hnd,fun c hc=>?_,h.slots.sublist (hl.map _),fun n hm=>?_⟩
 ·rw [hf _ (hx c hc)];exact h.fenced c (hl.subset hc)
 rcases hr n hm with ⟨e,h1,h2⟩|⟨m,hm',e1,e2⟩
 ·rw [e,MH x _ _ hx];exact ⟨_,rfl,h1,h2⟩
 obtain ⟨r,h1,h2⟩:=h.room m hm'
 rw [e1] at h1
 rw [e2] at h2
 obtain ⟨r',h3,h4⟩:=M0 n.id hl (r:=⟨0,0⟩) (r':=⟨0,0⟩) ⟨Int.le_refl _,Int.le_refl _⟩ ⟨Int.le_refl _,Int.le_refl _⟩ h1
 exact ⟨r',h3,by have:=h4.1;have:=h2.1;omega,by have:=h4.2;have:=h2.2;omega⟩
end Fsm
end
section
open Go.RowKit
namespace Fsm
theorem Ons.OU (p:Ac→Bool) (f:Ac→Ac):∀ l,(∀ a,l.find? p=some a→On a (f a))→Ons l (Fsm.Ap p f l)
 | [],_=>trivial
 | a :: r,h=>by
  unfold Fsm.Ap
  split
  ·rename_i hp
   exact ⟨h a (by rw [List.find?_cons,hp]),Ons.refl r⟩
  rename_i hp
  have hp' : p a=false:=by simpa using hp
  exact ⟨On.refl a,Ons.OU p f r (fun b hb=>h b (by rw [List.find?_cons,hp'];exact hb))⟩
theorem He (n:NodD) (z:Ab × Bool) (r:Int × Int):(report n z r).1.nodes=z.1.nodes∧Ons z.1.allocs (report n z r).1.allocs:=by
 unfold report
 split
 ·exact ⟨rfl,Ons.refl _⟩
 rename_i a ha
 split
 ·exact ⟨rfl,Ons.refl _⟩
 rename_i ht
 have ht' : takes n a r.2=true:=by simpa using ht
 have hov:Bv a=false:=by
  simp only [takes,Bool.and_eq_true,Bool.not_eq_true'] at ht'
  exact ht'.1.1.1.1.2
 have hlt:a.state < r.2:=by
  simp only [takes,Bool.and_eq_true,decide_eq_true_eq] at ht'
  exact ht'.1.1.1.2
 have hO:Ons z.1.allocs (Ap (fun a=>a.id == r.1) (fun a=>{ a with state:=r.2 }) z.1.allocs):=Ons.OU _ _ _ (fun b hb=>by
  rw [ha] at hb
  cases hb
  exact ⟨rfl,by simp only;omega,fun e=>(by rw [hov] at e;cases e),fun e=>e⟩)
 simp only
 split
 ·obtain ⟨k1,k2⟩:=eval_kept { z.1 with allocs:=Ap (fun a=>a.id == r.1) (fun a=>{ a with state:=r.2 }) z.1.allocs } a.job
  exact ⟨k1,by rw [k2];exact hO⟩
 split
 ·exact ⟨rfl,hO⟩
 split
 ·exact ⟨rfl,hO⟩
 obtain ⟨k1,k2⟩:=eval_kept { z.1 with allocs:=Ap (fun a=>a.id == r.1) (fun a=>{ a with state:=r.2 }) z.1.allocs } a.job
 exact ⟨k1,by simp only;rw [k2];exact hO⟩
theorem Inv.plain {s t:Ab} (h:Inv s) (h1:t.nodes=s.nodes) (h2:t.allocs=s.allocs):Inv t:=h.kept ⟨h1,h2⟩
theorem Cm (j:Aq) (n:NodD):∀ l:List Ac,l.foldl (Bc j n) (none:Option Ab)=none
 | []=>rfl
 | x :: r=>Cm j n r
theorem IG:∀ (l:List Ac) (k:Nat),(∀ a,l[k]? = some a→Bv a=true)→DV (l.eraseIdx k)=DV l
 | [],_,_=>rfl
 | a :: r,0,h=>by simp [DV,h a rfl]
 | a :: r,k+1,h=>by
  have ih:=IG r k (fun b hb=>h b (by simpa using hb))
  unfold DV at ih ⊢
  rw [List.eraseIdx_cons_succ,List.filter_cons,List.filter_cons]
  split <;> simp [ih]
theorem JF (jobs:List Aq):∀ (n:Nat) (l m:List Ac),Di jobs n l=some m→DV m=DV l∧m.length≤64
 | 0,l,m,e=>by
  unfold Di at e
  split at e
  ·rename_i hle;cases e;exact ⟨rfl,hle⟩
  cases e
 | n+1,l,m,e=>by
  unfold Di at e
  split at e
  ·rename_i hle;cases e;exact ⟨rfl,hle⟩
  split at e
  ·cases e
  rename_i k hk
  obtain ⟨hkl,hp,_⟩:=List.findIdx?_eq_some_iff_getElem.1 hk
  obtain ⟨h1,h2⟩:=JF jobs n _ m e
  refine ⟨h1.trans (IG l k (fun a ha=>?_)),h2⟩
  obtain ⟨_,rfl⟩:=List.getElem?_eq_some_iff.1 ha
  cases ho:Bv l[k] with
  | true=>rfl
  | false=>rw [Cf,ho] at hp;simp at hp
theorem Gp (job:Int):∀ (ids:List Int) (l:List Ac),Ons l (stops job l ids)
 | [],l=>Ons.refl l
 | i :: r,l=>(Ons.Ap _ _ (fun a _=>by split;exact ⟨rfl,Int.le_refl _,fun _=>rfl,fun _=>rfl⟩;exact On.refl a) l).trans (Gp job r _)
end Fsm
end
section
open Go.RowKit
namespace Fsm
structure Num (k:Nat) (s:Ab):Prop where
 ids:(s.allocs.map Ac.id).Pairwise (· < ·)
 lt:∀ a∈s.allocs,a.id < s.next
 pos:1≤s.next
 up:s.next≤1+(k:Int)
 len:s.allocs.length≤64
def Cj (s t:Ab):Prop:=t.next=s.next∧Ons s.allocs t.allocs
theorem Cj.refl (s:Ab):Cj s s:=⟨rfl,Ons.refl _⟩
theorem Cj.trans {s t u:Ab} (h:Cj s t) (k:Cj t u):Cj s u:=⟨k.1.trans h.1,h.2.trans k.2⟩
theorem Ons.ids:∀ {l m:List Ac},Ons l m→m.map Ac.id=l.map Ac.id
 | [],[],_=>rfl
 | [],_ :: _,h=>h.elim
 | _ :: _,[],h=>h.elim
 | a :: l,b :: m,h=>by rw [List.map_cons,List.map_cons,Ons.ids h.2,(DC h.1.core).2.2.2.2.2.2.1]
theorem Num.NR {k:Nat} {s t:Ab} (h:Num k s) (n:Cj s t):Num k t:=by
 have hi:=n.2.ids
 refine ⟨by rw [hi];exact h.ids,fun b hb=>?_,by rw [n.1];exact h.pos,by rw [n.1];exact h.up,by have:=congrArg List.length hi;simp only [List.length_map] at this;have:=h.len;omega⟩
 obtain ⟨a,ha,ho⟩:=n.2.mem hb
 rw [n.1,(DC ho.core).2.2.2.2.2.2.1]
 exact h.lt a ha
theorem Num.more {k k' : Nat} {s:Ab} (h:Num k s) (hk:k≤k'):Num k' s:=⟨h.ids,h.lt,h.pos,by have:=h.up;omega,h.len⟩
theorem Fq {α:Type} {f:Ab→α→Ab} (h:∀ s a,Cj s (f s a)):∀ (l:List α) (s:Ab),Cj s (l.foldl f s)
 | [],s=>Cj.refl s
 | a :: r,s=>(h s a).trans (Fq h r (f s a))
theorem Cy (s:Ab) (j:Int):Cj s (eval s j):=by unfold eval;split <;> exact ⟨rfl,Ons.refl _⟩
theorem GH (s:Ab):Cj s (came s):=⟨rfl,Ons.refl _⟩
theorem Fa (s:Ab):Cj s (system s):=Fq (fun t j=>by split;exact Cy t j.id;exact Cj.refl t) s.jobs s
theorem M9 (s:Ab) (i:Nat):Cj s (AF s i):=by
 unfold AF
 split
 ·exact Cj.refl s
 split
 ·exact Cj.refl s
 split <;> exact ⟨rfl,Ons.refl _⟩
theorem G8 (s:Ab):Cj s (looked s):=Fq M9 _ s
theorem EP (s:Ab) (j:Aq):Cj s (begins s j):=by
 unfold begins
 simp only
 refine Cj.trans ?_ (Cy _ _)
 split
 ·exact Cj.trans ⟨rfl,Ons.refl _⟩ (G8 _)
 exact ⟨rfl,Ons.refl _⟩
theorem Jr (node:Int) (s:Ab) (i:Nat):(AR node s i).next=s.next:=by
 unfold AR
 split
 ·rfl
 split
 ·rename_i a _ _
  exact (Cy { s with allocs:=s.allocs.set i { a with state:=6 } } a.job).1
 rfl
theorem JB (s:Ab) (node:Int):Cj s (lost s node):=by
 refine ⟨?_,(NE s node).2.1⟩
 have:∀ (l:List Nat) (s:Ab),(l.foldl (AR node) s).next=s.next:=fun l=>by
  induction l with
  | nil=>intro s;rfl
  | cons i r ih=>intro s;rw [List.foldl_cons,ih,Jr]
 exact this _ s
theorem Io (s:Ab) (n:NodD):Cj s (joins s n):=by
 unfold joins
 exact ((Cj.trans (t:={ s with nodes:=Ak NodD.id n s.nodes }) ⟨rfl,Ons.refl _⟩ (JB _ _)).trans (Fa _)).trans (GH _)
theorem La (n:NodD) (z:Ab × Bool) (r:Int × Int):(report n z r).1.next=z.1.next:=by
 unfold report
 split
 ·rfl
 split
 ·rfl
 rename_i a _ _
 simp only
 split
 ·exact (Cy { z.1 with allocs:=Ap (fun a=>a.id == r.1) (fun a=>{ a with state:=r.2 }) z.1.allocs } a.job).1
 split
 ·rfl
 split
 ·rfl
 exact (Cy { z.1 with allocs:=Ap (fun a=>a.id == r.1) (fun a=>{ a with state:=r.2 }) z.1.allocs } a.job).1
theorem Gl (n:NodD):∀ (l:List (Int × Int)) (z:Ab × Bool),Cj z.1 (l.foldl (report n) z).1
 | [],z=>Cj.refl _
 | r :: l,z=>Cj.trans ⟨La n z r,(He n z r).2⟩ (Gl n l (report n z r))
structure P5 (k:Nat) (s:Ab):Prop where
 ids:(s.allocs.map Ac.id).Pairwise (· < ·)
 lt:∀ a∈s.allocs,a.id < s.next
 pos:1≤s.next
 up:s.next≤1+(k:Int)
theorem Ld {k:Nat} {s:Ab} (h:P5 k s) (hk:k < 4611686018427387904) (j:Aq) (n:NodD) (x:Ac):P5 (k+1) (placed s j n x):=by
 have hp:=h.pos
 have hu:=h.up
 have hw:wrap64 (s.next+1)=s.next+1:=by unfold wrap64;omega
 refine ⟨?_,fun a ha=>?_,?_,?_⟩
 ·rw [placed,List.map_append,List.pairwise_append]
  refine ⟨h.ids,by simp,fun a ha b hb=>?_⟩
  obtain ⟨c,hc,rfl⟩:=List.mem_map.1 ha
  rw [List.map_cons,List.map_nil,List.mem_singleton] at hb
  rw [hb]
  exact h.lt c hc
 ·rw [show (placed s j n x).next=wrap64 (s.next+1) from rfl,hw]
  rcases List.mem_append.1 ha with ha|ha
  ·have:=h.lt a ha;omega
  rw [List.mem_singleton] at ha;subst ha;simp only;omega
 ·rw [show (placed s j n x).next=wrap64 (s.next+1) from rfl,hw];omega
 rw [show (placed s j n x).next=wrap64 (s.next+1) from rfl,hw];omega
theorem Fy (j:Aq) (n:NodD):∀ (l:List Ac) (k:Nat) (s t:Ab),P5 k s→k+l.length < 4611686018427387904→Ck j n l s=some t→P5 (k+l.length) t
 | [],k,s,t,h,_,e=>by cases e;exact h
 | x :: r,k,s,t,h,hk,e=>by
  unfold Ck at e
  rw [List.foldl_cons,show Bc j n (some s) x=if EI s j n x then some (placed s j n x) else none from rfl] at e
  rw [List.length_cons] at hk
  split at e
  ·have:=Fy j n r (k+1) (placed s j n x) t (Ld h (by omega) j n x) (by omega) e
   rw [List.length_cons,show k+(r.length+1)=k+1+r.length by omega]
   exact this
  rw [Cm] at e;cases e
theorem IQ (jobs:List Aq):∀ (n:Nat) (l m:List Ac),Di jobs n l=some m→m.Sublist l
 | 0,l,m,e=>by
  unfold Di at e
  split at e
  ·cases e;exact List.Sublist.refl _
  cases e
 | n+1,l,m,e=>by
  unfold Di at e
  split at e
  ·cases e;exact List.Sublist.refl _
  split at e
  ·cases e
  rename_i k hk
  exact (IQ jobs n _ m e).trans (List.eraseIdx_sublist l k)
theorem Mt {k:Nat} {s:Ab} (h:Num k s) (j:Aq) (node:Int) (l:List Ac) (hk:k+l.length < 4611686018427387904):Num (k+l.length) (places s j node l).1:=by
 have h0:Num (k+l.length) s:=h.more (by omega)
 unfold places
 split
 ·exact h0
 rename_i n hn
 split
 ·exact h0
 split
 ·exact h0
 rename_i t ht
 have hfl:(l.filter (fun x=>x.node == node)).length≤l.length:=List.length_filter_le _ _
 have hx:=Fy j n _ k s t ⟨h.ids,h.lt,h.pos,h.up⟩ (by omega) ht
 split
 ·exact h0
 rename_i m hm
 have hs:=IQ _ _ _ _ hm
 refine ⟨hx.ids.sublist (hs.map _),fun a ha=>hx.lt a (hs.subset ha),hx.pos,by have:=hx.up;simp only;omega,(JF _ _ _ _ hm).2⟩
theorem K3 (x:Int):∀ l:List Int,(Hf x l).length≤l.length+1
 | []=>by simp [Hf]
 | y :: r=>by
  unfold Hf
  split
  ·simp
  split
  ·simp
  have:=K3 x r;simp only [List.length_cons];omega
theorem EL:∀ l:List Ac,(BK l).length≤l.length
 | []=>by simp [BK]
 | a :: r=>by
  have h1:=EL r
  have h2:=K3 a.node (BK r)
  have h3:BK (a :: r)=Hf a.node (BK r):=rfl
  rw [h3,List.length_cons];omega
theorem O7 {k:Nat} {s:Ab} (h:Num k s) (c:BV) (hk:k+c.plan.places.length*c.plan.places.length < 4611686018427387904):Num (k+c.plan.places.length*c.plan.places.length) (plan s c).1:=by
 have h0:Num (k+c.plan.places.length*c.plan.places.length) s:=h.more (by omega)
 unfold plan
 simp only
 split
 ·rename_i j e _ _
  split
  ·exact h0
  have h1:Num k { s with allocs:=stops c.plan.job s.allocs c.plan.stops }:=h.NR ⟨rfl,Gp _ _ _⟩
  have h2:∀ (l:List Int) (k:Nat) (z:Ab × Bool),Num k z.1→k+l.length*c.plan.places.length < 4611686018427387904→Num (k+l.length*c.plan.places.length) (l.foldl (fun z n=>((places z.1 j n c.plan.places).1,z.2 && (places z.1 j n c.plan.places).2)) z).1:=fun l=>by
   induction l with
   | nil=>intro k z hz _;simpa using hz
   | cons n r ih =>
    intro k z hz hk
    rw [List.length_cons,Nat.add_mul] at hk ⊢
    have h3:=ih (k+c.plan.places.length) ((places z.1 j n c.plan.places).1,z.2 && (places z.1 j n c.plan.places).2) (Mt hz j n _ (by omega)) (by omega)
    rw [List.foldl_cons]
    refine h3.more (by omega)
  have hle:=Nat.mul_le_mul_right c.plan.places.length (EL c.plan.places)
  have h3:=(h2 (BK c.plan.places) k ({ s with allocs:=stops c.plan.job s.allocs c.plan.stops },true) h1 (by omega)).more (k':=k+c.plan.places.length*c.plan.places.length) (by omega)
  split
  ·exact h3.NR ⟨rfl,Ons.refl _⟩
  exact h3.NR ⟨rfl,Ons.refl _⟩
 exact h0
theorem GV {k:Nat} {s:Ab} (h:Num k s) (c:BV) (hk:k+c.plan.places.length*c.plan.places.length < 4611686018427387904):Num (k+c.plan.places.length*c.plan.places.length) (command s c).1:=by
 have h0:Num (k+c.plan.places.length*c.plan.places.length) s:=h.more (by omega)
 have hn:∀ {t:Ab},Cj s t→Num (k+c.plan.places.length*c.plan.places.length) t:=fun n=>h0.NR n
 unfold command
 repeat' split
 ·exact h0
 ·unfold BZ
  split
  ·exact h0
  split
  ·split
   ·exact h0
   exact hn (EP _ _)
  split
  ·exact h0
  exact hn (EP _ _)
 ·unfold cancel
  split
  ·exact h0
  exact hn (Cj.trans ⟨rfl,Ons.refl _⟩ (Cy _ _))
 ·unfold register
  split
  ·exact h0
  split
  ·exact hn (Io _ _)
  split
  ·exact h0
  split
  ·split <;> exact h0
  exact hn (Io _ _)
 ·unfold Ec
  split
  ·exact h0
  split
  ·exact h0
  split
  ·exact h0
  split
  ·exact h0
  simp only
  have h1:Cj s (c.reports.foldl (report c.node) ({ s with nodes:=Ap (fun n=>n.id == c.node.id) (fun n=>{ n with seq:=c.node.seq }) s.nodes },false)).1:=Cj.trans ⟨rfl,Ons.refl _⟩ (Gl c.node c.reports ({ s with nodes:=Ap (fun n=>n.id == c.node.id) (fun n=>{ n with seq:=c.node.seq }) s.nodes },false))
  have h2:=h1.trans (G8 _)
  split
  ·exact hn (h2.trans (GH _))
  exact hn h2
 ·unfold down
  split
  ·exact h0
  split
  ·exact h0
  split
  ·exact h0
  exact hn ((Cj.trans (t:={ s with nodes:=Ap (fun n=>n.id == c.node.id) (fun n=>{ n with up:=false,epoch:=wrap64 (n.epoch+1) }) s.nodes }) ⟨rfl,Ons.refl _⟩ (JB _ _)).trans (Fa _))
 ·unfold drain
  split
  ·exact h0
  simp only
  have h1:Cj s (system (s.allocs.foldl (fun t a=>if a.node == c.node.id && !Bv a then eval t a.job else t) { s with nodes:=Ap (fun n=>n.id == c.node.id) (fun n=>{ n with drain:=c.node.drain }) s.nodes })) :=
   (Cj.trans (t:={ s with nodes:=Ap (fun n=>n.id == c.node.id) (fun n=>{ n with drain:=c.node.drain }) s.nodes }) ⟨rfl,Ons.refl _⟩ (Fq (fun t a=>by split;exact Cy t a.job;exact Cj.refl t) _ _)).trans (Fa _)
  split
  ·exact hn h1
  exact hn (h1.trans (GH _))
 ·exact O7 h c hk
 ·unfold revert
  split
  ·exact h0
  split
  ·exact h0
  split
  ·exact h0
  simp only
  split
  ·exact hn (Cj.trans ⟨rfl,Ons.refl _⟩ (Cy _ _))
  split
  ·exact hn (Cj.trans ⟨rfl,Ons.refl _⟩ (Cy _ _))
  split
  ·exact h0
  exact hn (Cj.trans ⟨rfl,Ons.refl _⟩ (EP _ _))
 exact h0
theorem ND {k:Nat} {s:Ab} (h:Num k s) (ix:Int) (c:BV) (hk:k+c.plan.places.length*c.plan.places.length < 4611686018427387904):Num (k+c.plan.places.length*c.plan.places.length) (apply s ix c).1:=by
 have h1:Num k { s with index:=ix }:=h.NR ⟨rfl,Ons.refl _⟩
 have h0:Num (k+c.plan.places.length*c.plan.places.length) { s with index:=ix }:=h1.more (by omega)
 unfold apply
 simp only
 split
 ·exact GV h1 c hk
 split
 ·exact h0
 split
 ·split <;> exact h0
 exact (GV h1 c hk).NR ⟨rfl,Ons.refl _⟩
theorem Qb:Num 0 new:=⟨by simp [new],by simp [new],by simp [new],by simp [new],by simp [new]⟩
end Fsm
end
section
open Go.RowKit
namespace Fsm
def Way (s t:Ab):Prop:=∀ a∈s.allocs,(∃ b∈t.allocs,On a b) ∨ (Bv a=true)
def K4 (s t:Ab):Prop:=s.next≤t.next∧∀ b∈t.allocs,(∃ a∈s.allocs,On a b) ∨ s.next≤b.id
theorem Cj.news {s t:Ab} (h:Cj s t):K4 s t:=⟨by rw [h.1];exact Int.le_refl _,fun b hb=>.inl (h.2.mem hb)⟩
theorem Way.refl (s:Ab):Way s s:=fun a ha=>.inl ⟨a,ha,On.refl a⟩
theorem K4.refl (s:Ab):K4 s s:=⟨Int.le_refl _,fun b hb=>.inl ⟨b,hb,On.refl b⟩⟩
theorem Way.trans {s t u:Ab} (h:Way s t) (k:Way t u) (hs:∀ a∈s.allocs,∀ b∈t.allocs,On a b→b.state=a.state ∨ ∃ c∈u.allocs,On b c):Way s u:=fun a ha=>by
 rcases h a ha with ⟨b,hb,ho⟩|ho
 ·rcases k b hb with ⟨c,hc,ho'⟩|hov
  ·exact .inl ⟨c,hc,ho.trans ho'⟩
  rcases hs a ha b hb ho with e|⟨c,hc,ho'⟩
  ·exact .inr (by simp only [Bv] at hov ⊢;rwa [e] at hov)
  exact .inl ⟨c,hc,ho.trans ho'⟩
 exact .inr ho
theorem K4.trans {s t u:Ab} (h:K4 s t) (k:K4 t u):K4 s u :=
 ⟨Int.le_trans h.1 k.1,fun c hc=>by
  rcases k.2 c hc with ⟨b,hb,ho⟩|hn
  ·rcases h.2 b hb with ⟨a,ha,ho'⟩|hn
   ·exact .inl ⟨a,ha,ho'.trans ho⟩
   exact .inr (by rw [(DC ho.core).2.2.2.2.2.2.1];exact hn)
  exact .inr (Int.le_trans h.1 hn)⟩
def Lt (s t:Ab):Prop:=s.next≤t.next∧(∀ a∈s.allocs,a∈t.allocs ∨ Bv a=true)∧∀ b∈t.allocs,b∈s.allocs ∨ s.next≤b.id
theorem Lt.refl (s:Ab):Lt s s:=⟨Int.le_refl _,fun a ha=>.inl ha,fun b hb=>.inl hb⟩
theorem Lt.trans {s t u:Ab} (h:Lt s t) (k:Lt t u):Lt s u :=
 ⟨Int.le_trans h.1 k.1,fun a ha=>by
  rcases h.2.1 a ha with h1|h1
  ·exact k.2.1 a h1
  ·exact .inr h1,fun c hc=>by
  rcases k.2.2 c hc with h1|h1
  ·exact h.2.2 c h1
  exact .inr (Int.le_trans h.1 h1)⟩
theorem Lt.news {s t:Ab} (h:Lt s t):K4 s t:=⟨h.1,fun b hb=>by
 rcases h.2.2 b hb with h1|h1
 ·exact .inl ⟨b,h1,On.refl b⟩
 exact .inr h1⟩
end Fsm
end
section
open Go.RowKit
namespace Fsm
def Hr (k:Int):List Int→List Int
 | []=>[k]
 | y :: r=>if k≤y then k :: (y :: r).filter (fun z=>!(z == k)) else y :: Hr k r
theorem Em {α:Type} (key:α→Int) (x:α):∀ l:List α,(Ak key x l).map key=Hr (key x) (l.map key)
 | []=>rfl
 | y :: r=>by
  unfold Ak
  rw [List.map_cons,Hr]
  split
  ·rw [List.map_cons]
   congr 1
   rw [← List.map_cons]
   generalize y :: r=m
   induction m with
   | nil=>rfl
   | cons z t ih =>
    rw [List.filter_cons,List.map_cons,List.filter_cons]
    split <;> simp [ih]
  rw [List.map_cons,Em key x r]
theorem IL {k:Int}:∀ {l:List Int},(∀ y∈l,k < y)→l.filter (fun z=>!(z == k))=l
 | [],_=>rfl
 | y :: r,h=>by
  have h1:=h y (List.mem_cons_self ..)
  rw [List.filter_cons,show (!(y == k))=true by simp;omega,if_pos rfl,IL (fun z hz=>h z (List.mem_cons_of_mem _ hz))]
theorem MC {k:Int}:∀ {l:List Int},l.Pairwise (· < ·)→k∈l→Hr k l=l
 | [],_,h=>by cases h
 | y :: r,hs,h=>by
  rw [List.pairwise_cons] at hs
  unfold Hr
  rcases List.mem_cons.1 h with rfl|h
  ·rw [if_pos (Int.le_refl _),List.filter_cons]
   simp only [beq_self_eq_true,Bool.not_true,Bool.false_eq_true,if_false]
   rw [IL hs.1]
  have:=hs.1 k h
  rw [if_neg (by omega),MC hs.2 h]
theorem KM {k x:Int}:∀ {l:List Int},x∈Hr k l→x=k ∨ x∈l
 | [],h=>by simp [Hr] at h;exact .inl h
 | y :: r,h=>by
  unfold Hr at h
  split at h
  ·rcases List.mem_cons.1 h with h|h
   ·exact .inl h
   exact .inr (List.mem_filter.1 h).1
  rcases List.mem_cons.1 h with h|h
  ·exact .inr (h ▸ List.mem_cons_self ..)
  rcases KM h with h|h
  ·exact .inl h
  exact .inr (List.mem_cons_of_mem _ h)
theorem EX {k:Int}:∀ {l:List Int},l.Pairwise (· < ·)→(Hr k l).Pairwise (· < ·)
 | [],_=>by simp [Hr]
 | y :: r,hs=>by
  rw [List.pairwise_cons] at hs
  unfold Hr
  split
  ·rename_i hk
   rw [List.pairwise_cons]
   refine ⟨fun z hz=>?_,List.Pairwise.sublist List.filter_sublist (List.pairwise_cons.2 hs)⟩
   obtain ⟨h1,h2⟩:=List.mem_filter.1 hz
   have h2' : z ≠ k:=by simpa using h2
   rcases List.mem_cons.1 h1 with rfl|h1
   ·omega
   have:=hs.1 z h1;omega
  rename_i hk
  rw [List.pairwise_cons]
  refine ⟨fun z hz=>?_,EX hs.2⟩
  rcases KM hz with rfl|hz
  ·omega
  exact hs.1 z hz
structure Evs (s:Ab):Prop where
 keys:s.evals.map EvalD.job=s.jobs.map Aq.id
 sorted:(s.jobs.map Aq.id).Pairwise (· < ·)
 bound:∀ e∈s.evals,1≤e.index∧e.index≤s.index
 own:∀ a∈s.allocs,a.job∈s.jobs.map Aq.id
def Gd (s:Ab) (job:Int):Prop:=∃ e∈s.evals,e.job=job∧e.state=1∧e.index=s.index
structure Part (s t:Ab):Prop where
 jobs:t.jobs.map Aq.id=s.jobs.map Aq.id
 index:t.index=s.index
 evals:s.evals.map EvalD.job=s.jobs.map Aq.id→(s.jobs.map Aq.id).Pairwise (· < ·)→t.evals.map EvalD.job=s.evals.map EvalD.job
 bound:1≤s.index→(∀ e∈s.evals,1≤e.index∧e.index≤s.index)→∀ e∈t.evals,1≤e.index∧e.index≤s.index
 fresh:∀ j,Gd s j→Gd t j
theorem Part.refl (s:Ab):Part s s:=⟨rfl,rfl,fun _ _=>rfl,fun _ h=>h,fun _ h=>h⟩
theorem Part.trans {s t u:Ab} (h:Part s t) (k:Part t u):Part s u :=
 ⟨k.jobs.trans h.jobs,k.index.trans h.index,fun a b=>(k.evals (by rw [h.evals a b,h.jobs];exact a) (by rw [h.jobs];exact b)).trans (h.evals a b),
  fun a b=>by have:=k.bound (by rw [h.index];exact a) (by rw [h.index];exact h.bound a b);rw [h.index] at this;exact this,fun j e=>k.fresh j (h.fresh j e)⟩
theorem Gz {α:Type} {f:Ab→α→Ab} (h:∀ s a,Part s (f s a)):∀ (l:List α) (s:Ab),Part s (l.foldl f s)
 | [],s=>Part.refl s
 | a :: r,s=>(h s a).trans (Gz h r (f s a))
theorem Part.same {s t:Ab} (h1:t.jobs.map Aq.id=s.jobs.map Aq.id) (h2:t.index=s.index) (h3:t.evals=s.evals):Part s t :=
 ⟨h1,h2,fun _ _=>by rw [h3],fun _ b=>by rw [h3];exact b,fun j ⟨e,a,b⟩=>⟨e,by rw [h3];exact a,by rw [h2];exact b⟩⟩
theorem Part.pre {s t u:Ab} (h1:t.jobs.map Aq.id=s.jobs.map Aq.id) (h2:t.index=s.index) (h3:t.evals=s.evals) (k:Part t u):Part s u:=(Part.same h1 h2 h3).trans k
theorem Part.post {s t u:Ab} (k:Part s t) (h1:u.jobs.map Aq.id=t.jobs.map Aq.id) (h2:u.index=t.index) (h3:u.evals=t.evals):Part s u:=k.trans (Part.same h1 h2 h3)
theorem Fj {s:Ab} {x:Int} {j:Aq} (h:AU s x=some j):j.id=x∧j∈s.jobs:=by
 have:=List.find?_some h
 exact ⟨by simpa using this,List.mem_of_find?_eq_some h⟩
theorem Fu {α:Type} (key:α→Int) (x:α):∀ l:List α,x∈Ak key x l
 | []=>by simp [Ak]
 | y :: r=>by
  unfold Ak
  split
  ·exact List.mem_cons_self ..
  exact List.mem_cons_of_mem _ (Fu key x r)
theorem Gu {α:Type} (key:α→Int) (x:α):∀ (l:List α) {y:α},y∈l→key y ≠ key x→y∈Ak key x l
 | [],_,h,_=>by cases h
 | z :: r,y,h,hk=>by
  unfold Ak
  split
  ·exact List.mem_cons_of_mem _ (List.mem_filter.2 ⟨h,by simpa using hk⟩)
  rcases List.mem_cons.1 h with rfl|h
  ·exact List.mem_cons_self ..
  exact List.mem_cons_of_mem _ (Gu key x r h hk)
theorem DI (s:Ab) (job:Int):Part s (eval s job):=by
 unfold eval
 split
 ·exact Part.refl s
 rename_i j hj
 obtain ⟨hid,hm⟩:=Fj hj
 refine ⟨rfl,rfl,fun a b=>?_,fun a b e he=>?_,fun k ⟨e,h1,h2,h3,h4⟩=>?_⟩
 ·rw [Em,a,MC b (List.mem_map.2 ⟨j,hm,hid⟩)]
 ·rcases putL_mem he with rfl|⟨he,_⟩
  ·exact ⟨a,Int.le_refl _⟩
  exact b e he
 by_cases hk:k=job
 ·subst hk
  exact ⟨_,Fu _ _ _,rfl,rfl,rfl⟩
 exact ⟨e,Gu _ _ _ h1 (by simp only;omega),h2,h3,h4⟩
theorem Iw {s:Ab} {job:Int} (h:job∈s.jobs.map Aq.id):Gd (eval s job) job:=by
 unfold eval
 cases hj:AU s job with
 | none =>
  obtain ⟨j,hm,e⟩:=List.mem_map.1 h
  have:=List.find?_eq_none.1 hj j hm
  simp [e] at this
 | some j=>exact ⟨_,Fu _ _ _,rfl,rfl,rfl⟩
theorem Nk (s:Ab):Part s (came s):=by
 have hk:∀ e,(Br s.index e).job=e.job:=fun e=>by unfold Br;split <;> rfl
 refine ⟨rfl,rfl,fun _ _=>?_,fun a b e he=>?_,fun k ⟨e,h1,h2,h3,h4⟩=>?_⟩
 ·rw [came,List.map_map]
  exact List.map_congr_left (fun e _=>hk e)
 ·obtain ⟨d,hd,rfl⟩:=List.mem_map.1 he
  unfold Br
  split
  ·exact ⟨a,Int.le_refl _⟩
  exact b d hd
 refine ⟨Br s.index e,List.mem_map_of_mem h1,by rw [hk];exact h2,?_,?_⟩
 ·unfold Br;split;rfl;exact h3
 unfold Br;split;rfl;exact h4
theorem KH (s:Ab):Part s (system s):=Gz (fun t j=>by split;exact DI t j.id;exact Part.refl t) s.jobs s
theorem NK (s:Ab) (i:Nat):Part s (AF s i):=by
 unfold AF
 split
 ·exact Part.refl s
 split
 ·exact Part.refl s
 split <;> exact Part.same rfl rfl rfl
theorem LC (s:Ab):Part s (looked s):=Gz NK _ s
theorem Lj (n:NodD) (z:Ab × Bool) (r:Int × Int):Part z.1 (report n z r).1:=by
 unfold report
 split
 ·exact Part.refl _
 split
 ·exact Part.refl _
 simp only
 split
 ·refine Part.pre ?_ ?_ ?_ (DI _ _) <;> rfl
 split
 ·exact Part.same rfl rfl rfl
 split
 ·exact Part.same rfl rfl rfl
 refine Part.post (t:=eval { z.1 with allocs:=Ap (fun a=>a.id == r.1) (fun a=>{ a with state:=r.2 }) z.1.allocs } _) ?_ rfl rfl rfl
 refine Part.pre ?_ ?_ ?_ (DI _ _) <;> rfl
end Fsm
end
end Go.Proofs.YtccekmeifanipaaGreat
