/- Parts of the proof: FsmF FsmI FsmJ FsmK FsmN -/
import Derived.Test.YtlpfcmnnmdhaoaaGreatQ02
namespace Go.Proofs.YtlpfcmnnmdhaoaaGreat
set_option linter.unusedVariables false
set_option linter.unusedSimpArgs false
set_option linter.unusedSectionVars false
section
open Go.RowKit
structure CmdD where
 op : Int
 client : Int
 req : Int
 job : JobD
 node : NodD
 reports : List (Int × Int)
 plan : PlanD
deriving DecidableEq
namespace Fsm
def jobAt (s : StoreD) (id : Int) : Option JobD := s.jobs.find? (fun j => j.id == id)
def nodeAt (s : StoreD) (id : Int) : Option NodD := s.nodes.find? (fun n => n.id == id)
def depAt (s : StoreD) (job : Int) : Option DepD := s.deploys.find? (fun d => d.job == job)
def stableAt (s : StoreD) (id : Int) : Option JobD := s.stable.find? (fun j => j.id == id)
def evalAt (s : StoreD) (job : Int) : Option EvalD := s.evals.find? (fun e => e.job == job)
def putL {α : Type} (key : α → Int) (x : α) : List α → List α
 | [] => [x]
 | y :: r => if key x ≤ key y then x :: (y :: r).filter (fun z => !(key z == key x)) else y :: putL key x r
def turn1 {α : Type} (p : α → Bool) (f : α → α) : List α → List α
 | [] => []
 | y :: r => if p y then f y :: r else y :: turn1 p f r
def no (s : StoreD) (e : Int) : StoreD × ResultD := (s, ⟨e, 0, []⟩)
def eval (s : StoreD) (job : Int) : StoreD :=
 match jobAt s job with
 | none => s
 | some j => { s with evals := putL EvalD.job ⟨job, j.prio, 1, s.index⟩ s.evals }
def cameE (ix : Int) (e : EvalD) : EvalD := if e.state == 2 || e.state == 1 then { e with state := 1, index := ix } else e
def came (s : StoreD) : StoreD := { s with evals := s.evals.map (cameE s.index) }
def system (s : StoreD) : StoreD := s.jobs.foldl (fun t j => if j.ty == 3 && !j.stopped then eval t j.id else t) s
def slotList (j : JobD) : List (Int × Int) := j.groups.zipIdx.flatMap (fun p => (List.range (countF p.1)).map (fun i : Nat => ((p.2 : Int), (i : Int))))
def runB (l : List AllocD) (j : JobD) (x : Int × Int) : Bool :=
 match l.find? (slotB j.id x.1 x.2) with
 | none => false
 | some a => a.ver == j.ver && a.state == 2 && !a.stop
def allRun (s : StoreD) (j : JobD) : Bool := j.ty == 3 || (slotList j).all (runB s.allocs j)
def lookStep (s : StoreD) (i : Nat) : StoreD :=
 match s.deploys[i]? with
 | none => s
 | some d => match jobAt s d.job with
  | none => s
  | some j => if d.state == 1 && j.ver == d.ver && allRun s j then { s with deploys := s.deploys.set i { d with state := 2 }, stable := putL JobD.id j s.stable } else s
def looked (s : StoreD) : StoreD := (List.range s.deploys.length).foldl lookStep s
def begins (s : StoreD) (j : JobD) : StoreD :=
 let s1 : StoreD := { s with jobs := putL JobD.id j s.jobs }
 let s2 : StoreD := if j.ty == 1 then looked { s1 with deploys := putL DepD.job ⟨j.id, j.ver, 1, s1.index⟩ s1.deploys } else s1
 eval s2 j.id
def lostStep (node : Int) (s : StoreD) (i : Nat) : StoreD :=
 match s.allocs[i]? with
 | none => s
 | some a => if a.node == node && !overB a then eval { s with allocs := s.allocs.set i { a with state := 6 } } a.job else s
def lost (s : StoreD) (node : Int) : StoreD := (List.range s.allocs.length).foldl (lostStep node) s
def big40 : Int := 1099511627776
def groupOk (ty : Int) (g : GroupD) : Bool := decide (0 ≤ g.count) && decide (g.count ≤ 4) && decide (0 ≤ g.ask.cpu) && decide (g.ask.cpu ≤ big40) && decide (0 ≤ g.ask.mem) && decide (g.ask.mem ≤ big40) && !(ty == 3 && !(g.count == 1))
def jobOk (j : JobD) : Bool := decide (1 ≤ j.id) && decide (j.id ≤ big40) && decide (1 ≤ j.ty) && decide (j.ty ≤ 3) && decide (1 ≤ j.prio) && decide (j.prio ≤ 100) && decide (1 ≤ j.par) && decide (j.par ≤ 8) && decide (1 ≤ j.groups.length) && decide (j.groups.length ≤ 2) && j.groups.all (groupOk j.ty)
def nodeOk (n : NodD) : Bool := decide (1 ≤ n.id) && decide (n.id ≤ 4) && decide (0 ≤ n.cap.cpu) && decide (n.cap.cpu ≤ big40) && decide (0 ≤ n.cap.mem) && decide (n.cap.mem ≤ big40) && decide (1 ≤ n.boot) && decide (n.boot ≤ big40)
def submit (s : StoreD) (c : CmdD) : StoreD × ResultD :=
 if !jobOk c.job then no s 30 else
 match jobAt s c.job.id with
 | some h => if !(h.ty == c.job.ty) || decide (big40 ≤ h.ver) then no s 30 else
   (begins s { c.job with stopped := false, ver := wrap64 (h.ver + 1) }, ⟨0, wrap64 (h.ver + 1), []⟩)
 | none => if 6 ≤ s.jobs.length then no s 2 else (begins s { c.job with stopped := false, ver := 1 }, ⟨0, 1, []⟩)
def cancel (s : StoreD) (c : CmdD) : StoreD × ResultD :=
 match jobAt s c.job.id with
 | none => no s 36
 | some _ => (eval { s with jobs := turn1 (fun j => j.id == c.job.id) (fun j => { j with stopped := true }) s.jobs, deploys := turn1 (fun d => d.job == c.job.id) (fun d => if d.state == 1 then { d with state := 3 } else d) s.deploys } c.job.id, ⟨0, 0, []⟩)
def joins (s : StoreD) (n : NodD) : StoreD := came (system (lost { s with nodes := putL NodD.id n s.nodes } n.id))
def register (s : StoreD) (c : CmdD) : StoreD × ResultD :=
 if !nodeOk c.node then no s 31 else
 match nodeAt s c.node.id with
 | none => (joins s ⟨c.node.id, c.node.cap, true, false, c.node.boot, 1, 0⟩, ⟨0, 1, []⟩)
 | some h => if c.node.boot < h.boot then no s 33 else
   if h.boot == c.node.boot then (if h.up then (s, ⟨0, h.epoch, []⟩) else no s 33) else
   (joins s ⟨c.node.id, c.node.cap, true, h.drain, c.node.boot, wrap64 (h.epoch + 1), 0⟩, ⟨0, wrap64 (h.epoch + 1), []⟩)
def takes (n : NodD) (a : AllocD) (st : Int) : Bool := a.node == n.id && a.epoch == n.epoch && !overB a && decide (a.state < st) && decide (2 ≤ st) && decide (st ≤ 5) && !(st == 5 && !a.stop)
def report (n : NodD) (z : StoreD × Bool) (r : Int × Int) : StoreD × Bool :=
 match z.1.allocs.find? (fun a => a.id == r.1) with
 | none => z
 | some a => if !takes n a r.2 then z else
   let s : StoreD := { z.1 with allocs := turn1 (fun a => a.id == r.1) (fun a => { a with state := r.2 }) z.1.allocs }
   if 3 ≤ r.2 then (eval s a.job, true) else
   match jobAt s a.job with
   | none => (s, z.2)
   | some j => if !(j.ty == 1) then (s, z.2) else
     let t := eval s a.job
     ({ t with deploys := turn1 (fun d => d.job == a.job) (fun d => if d.state == 1 && d.ver == a.ver then { d with index := t.index } else d) t.deploys }, z.2)
def beat (s : StoreD) (c : CmdD) : StoreD × ResultD :=
 if 64 < c.reports.length || decide (c.node.seq < 1) || decide (big40 < c.node.seq) then no s 1 else
 match nodeAt s c.node.id with
 | none => no s 31
 | some h => if !h.up || !(h.epoch == c.node.epoch) then no s 32 else if c.node.seq ≤ h.seq then no s 33 else
   let s1 : StoreD := { s with nodes := turn1 (fun n => n.id == c.node.id) (fun n => { n with seq := c.node.seq }) s.nodes }
   let z := c.reports.foldl (report c.node) (s1, false)
   let s2 := looked z.1
   let s3 := if z.2 then came s2 else s2
   (s3, ⟨0, c.node.epoch, s3.allocs.filter (fun a => a.node == c.node.id && !overB a)⟩)
def down (s : StoreD) (c : CmdD) : StoreD × ResultD :=
 match nodeAt s c.node.id with
 | none => no s 31
 | some h => if !h.up || !(h.epoch == c.node.epoch) then no s 32 else if !(h.seq == c.node.seq) then no s 33 else
   (system (lost { s with nodes := turn1 (fun n => n.id == c.node.id) (fun n => { n with up := false, epoch := wrap64 (n.epoch + 1) }) s.nodes } c.node.id), ⟨0, 0, []⟩)
def drain (s : StoreD) (c : CmdD) : StoreD × ResultD :=
 match nodeAt s c.node.id with
 | none => no s 31
 | some h =>
   let s1 : StoreD := { s with nodes := turn1 (fun n => n.id == c.node.id) (fun n => { n with drain := c.node.drain }) s.nodes }
   let s2 := s1.allocs.foldl (fun t a => if a.node == c.node.id && !overB a then eval t a.job else t) s1
   let s3 := system s2
   (if c.node.drain then s3 else came s3, ⟨0, 0, []⟩)
def mayP (s : StoreD) (j : JobD) (n : NodD) (x : AllocD) : Bool :=
 x.job == j.id && x.ver == j.ver && x.epoch == n.epoch && decide (0 ≤ x.group) &&
 (match j.groups[x.group.toNat]? with
  | none => false
  | some g => decide (x.ask = g.ask) && (if j.ty == 3 then x.index == n.id else decide (0 ≤ x.index) && decide (x.index < g.count))) &&
 !s.allocs.any (fun a => a.job == j.id && a.group == x.group && a.index == x.index && (!overB a || (j.ty == 2 && a.ver == j.ver && a.state == 3))) &&
 fitsF (usedS s.allocs n.id) x.ask n.cap
def placed (s : StoreD) (j : JobD) (n : NodD) (x : AllocD) : StoreD :=
 { s with allocs := s.allocs ++ [⟨s.next, j.id, j.ver, x.group, x.index, n.id, n.epoch, x.ask, false, 1⟩], next := wrap64 (s.next + 1) }
def placeStep (j : JobD) (n : NodD) (o : Option StoreD) (x : AllocD) : Option StoreD := match o with | none => none | some t => if mayP t j n x then some (placed t j n x) else none
def placeAll (j : JobD) (n : NodD) (l : List AllocD) (s : StoreD) : Option StoreD := l.foldl (placeStep j n) (some s)
def keptB (jobs : List JobD) (a : AllocD) : Bool := !overB a || (a.state == 3 && (match jobs.find? (fun j => j.id == a.job) with | none => false | some j => j.ty == 2 && j.ver == a.ver))
def trim (jobs : List JobD) : Nat → List AllocD → Option (List AllocD)
 | 0, l => if l.length ≤ 64 then some l else none
 | n + 1, l => if l.length ≤ 64 then some l else
   match l.findIdx? (fun a => !keptB jobs a) with
   | none => none
   | some k => trim jobs n (l.eraseIdx k)
def places (s : StoreD) (j : JobD) (node : Int) (l : List AllocD) : StoreD × Bool :=
 match nodeAt s node with
 | none => (s, false)
 | some n => if !n.up || n.drain || j.stopped then (s, false) else
   match placeAll j n (l.filter (fun x => x.node == node)) s with
   | none => (s, false)
   | some t => match trim t.jobs t.allocs.length t.allocs with
    | none => (s, false)
    | some m => ({ t with allocs := m }, true)
def insD (x : Int) : List Int → List Int
 | [] => [x]
 | y :: r => if x < y then x :: y :: r else if x = y then y :: r else y :: insD x r
def nodesUp (l : List AllocD) : List Int := l.foldr (fun x r => insD x.node r) []
def stops (job : Int) (l : List AllocD) (ids : List Int) : List AllocD :=
 ids.foldl (fun m id => turn1 (fun a => a.id == id) (fun a => if a.job == job && !overB a then { a with stop := true } else a) m) l
def plan (s : StoreD) (c : CmdD) : StoreD × ResultD :=
 let p := c.plan
 match jobAt s p.job, evalAt s p.job with
 | some j, some e => if !(j.ver == p.ver) || !(e.state == 1) || !(e.index == p.index) then no s 34 else
   let z := (nodesUp p.places).foldl (fun z n => let y := places z.1 j n p.places; (y.1, z.2 && y.2)) (({ s with allocs := stops p.job s.allocs p.stops } : StoreD), true)
   if !z.2 then ({ z.1 with evals := turn1 (fun e => e.job == p.job) (fun e => { e with index := s.index }) z.1.evals }, ⟨35, s.index, []⟩)
   else ({ z.1 with evals := turn1 (fun e => e.job == p.job) (fun e => { e with state := if p.blocked then 2 else 3 }) z.1.evals }, ⟨0, s.index, []⟩)
 | _, _ => no s 34
def sameJob (a b : JobD) : Bool := a.id == b.id && a.ty == b.ty && a.prio == b.prio && a.par == b.par && decide (a.groups = b.groups)
def revert (s : StoreD) (c : CmdD) : StoreD × ResultD :=
 match jobAt s c.job.id with
 | none => no s 36
 | some j => match depAt s j.id with
  | none => no s 33
  | some d => if !(j.ver == c.job.ver) || !(d.state == 1) || !(d.ver == j.ver) then no s 33 else
    let f : StoreD := { s with deploys := turn1 (fun d => d.job == j.id) (fun d => { d with state := 3 }) s.deploys }
    match stableAt s j.id with
    | none => (eval f j.id, ⟨0, j.ver, []⟩)
    | some x => if sameJob x j then (eval f j.id, ⟨0, j.ver, []⟩) else if big40 ≤ j.ver then no s 33 else
      (begins f { x with ver := wrap64 (j.ver + 1), stopped := false }, ⟨0, wrap64 (j.ver + 1), []⟩)
def command (s : StoreD) (c : CmdD) : StoreD × ResultD :=
 if c.op = 1 ∨ c.op = 2 then (s, ⟨0, 0, []⟩) else
 if c.op = 3 then submit s c else if c.op = 4 then cancel s c else if c.op = 5 then register s c else
 if c.op = 6 then beat s c else if c.op = 7 then down s c else if c.op = 8 then drain s c else
 if c.op = 9 then plan s c else if c.op = 10 then revert s c else no s 50
def apply (s0 : StoreD) (index : Int) (c : CmdD) : StoreD × ResultD :=
 let s : StoreD := { s0 with index := index }
 if !(c.op == 3 || c.op == 4 || c.op == 8) || c.client == 0 then command s c else
 if c.client < 1 ∨ 4 < c.client ∨ c.req < 1 ∨ big40 < c.req then no s 1 else
 match s.seen.find? (fun x => x.client == c.client && decide (c.req ≤ x.req)) with
 | some x => if c.req < x.req then no s 33 else (s, x.answer)
 | none =>
   let z := command s c
   ({ z.1 with seen := putL SeenD.client ⟨c.client, c.req, z.2⟩ z.1.seen }, z.2)
def new : StoreD := ⟨0, 1, [], [], [], [], [], [], []⟩
def grown (l : List CmdD) : StoreD := (l.zipIdx).foldl (fun s p => (apply s ((p.2 : Int) + 1) p.1).1) new
end Fsm
end
section
open Go.RowKit
namespace Fsm
section
variable {α : Type} {key : α → Int} {x : α}
theorem putL_mem {l : List α} {y : α} (h : y ∈ putL key x l) : y = x ∨ (y ∈ l ∧ key y ≠ key x) := by
 induction l with
 | nil => simp [putL] at h; exact .inl h
 | cons z r ih =>
  unfold putL at h
  split at h
  ·rcases List.mem_cons.1 h with h | h
   ·exact .inl h
   ·obtain ⟨h1, h2⟩ := List.mem_filter.1 h
    exact .inr ⟨h1, by simpa using h2⟩
  ·rename_i hk
   rcases List.mem_cons.1 h with h | h
   ·subst h; exact .inr ⟨List.mem_cons_self .., by omega⟩
   ·rcases ih h with h | ⟨h1, h2⟩
    ·exact .inl h
    ·exact .inr ⟨List.mem_cons_of_mem _ h1, h2⟩
theorem putL_nodup {l : List α} (h : (l.map key).Nodup) : ((putL key x l).map key).Nodup := by
 induction l with
 | nil => simp [putL]
 | cons z r ih =>
  unfold putL
  split
  ·rw [List.map_cons, List.nodup_cons]
   refine ⟨fun hm => ?_, ?_⟩
   ·obtain ⟨y, hy, e⟩ := List.mem_map.1 hm
    have := (List.mem_filter.1 hy).2
    simp [e] at this
   ·exact h.sublist (List.Sublist.map _ List.filter_sublist)
  ·rename_i hk
   rw [List.map_cons, List.nodup_cons] at h ⊢
   refine ⟨fun hm => ?_, ih h.2⟩
   obtain ⟨y, hy, e⟩ := List.mem_map.1 hm
   rcases putL_mem hy with rfl | ⟨h1, _⟩
   ·omega
   ·exact h.1 (List.mem_map.2 ⟨y, h1, e⟩)
theorem putL_find (l : List α) : (putL key x l).find? (fun y => key y == key x) = some x := by
 induction l with
 | nil => simp [putL]
 | cons z r ih =>
  unfold putL
  split
  ·simp
  ·rename_i hk
   rw [List.find?_cons, show (key z == key x) = false by simp; omega]
   exact ih
theorem putL_find_other {i : Int} (hi : i ≠ key x) (l : List α) : (putL key x l).find? (fun y => key y == i) = l.find? (fun y => key y == i) := by
 induction l with
 | nil => simp [putL, Ne.symm hi]
 | cons z r ih =>
  unfold putL
  split
  ·rw [List.find?_cons, show (key x == i) = false by simp; exact Ne.symm hi]
   simp only
   generalize z :: r = m
   induction m with
   | nil => rfl
   | cons y t ih =>
    rw [List.filter_cons]
    split
    ·rw [List.find?_cons, List.find?_cons, ih]
    ·rename_i hy
     rw [List.find?_cons, ih]
     have : key y = key x := by simpa using hy
     rw [show (key y == i) = false by simp [this]; exact Ne.symm hi]
  ·rw [List.find?_cons, List.find?_cons, ih]
theorem turn1_map {β : Type} (p : α → Bool) (f : α → α) (g : α → β) (h : ∀ a, g (f a) = g a) (l : List α) : (turn1 p f l).map g = l.map g := by
 induction l with
 | nil => rfl
 | cons y r ih =>
  unfold turn1
  split
  ·simp [h]
  ·simp [ih]
theorem turn1_find (p : α → Bool) (f : α → α) (h : ∀ a, p (f a) = p a) (l : List α) : (turn1 p f l).find? p = (l.find? p).map f := by
 induction l with
 | nil => rfl
 | cons y r ih =>
  unfold turn1
  split
  ·rename_i hp
   simp [List.find?_cons, h, hp]
  ·rename_i hp
   have hp' : p y = false := by simpa using hp
   simp [List.find?_cons, hp', ih]
theorem turn1_find_other (p q : α → Bool) (f : α → α) (h : ∀ a, p a = true → q (f a) = false ∧ q a = false) (l : List α) : (turn1 p f l).find? q = l.find? q := by
 induction l with
 | nil => rfl
 | cons y r ih =>
  unfold turn1
  split
  ·rename_i hp
   obtain ⟨h1, h2⟩ := h y hp
   simp [List.find?_cons, h1, h2]
  ·simp [List.find?_cons, ih]
end
def core (a : AllocD) : AllocD := { a with stop := false, state := 1 }
structure On (a b : AllocD) : Prop where
 core : core b = core a
 rise : a.state ≤ b.state
 past : overB a = true → b.state = a.state
 stop : a.stop = true → b.stop = true
theorem On.over {a b : AllocD} (h : On a b) (ha : overB a = true) : overB b = true := by
 have := h.past ha
 simp only [overB, decide_eq_true_eq] at ha ⊢
 omega
theorem On.refl (a : AllocD) : On a a := ⟨rfl, Int.le_refl _, fun _ => rfl, id⟩
theorem On.trans {a b c : AllocD} (h : On a b) (k : On b c) : On a c := ⟨k.core.trans h.core, Int.le_trans h.rise k.rise, fun e => (k.past (h.over e)).trans (h.past e), fun e => k.stop (h.stop e)⟩
def Ons : List AllocD → List AllocD → Prop
 | [], [] => True
 | a :: l, b :: m => On a b ∧ Ons l m
 | _, _ => False
theorem Ons.refl : ∀ l : List AllocD, Ons l l
 | [] => trivial
 | a :: r => ⟨On.refl a, Ons.refl r⟩
theorem Ons.trans : ∀ {l m n : List AllocD}, Ons l m → Ons m n → Ons l n
 | [], [], [], _, _ => trivial
 | _ :: _, _ :: _, _ :: _, h, k => ⟨h.1.trans k.1, Ons.trans h.2 k.2⟩
 | [], [], _ :: _, _, k => k.elim
 | [], _ :: _, _, h, _ => h.elim
 | _ :: _, [], _, h, _ => h.elim
 | _ :: _, _ :: _, [], _, k => k.elim
theorem Ons.turn1 (p : AllocD → Bool) (f : AllocD → AllocD) (h : ∀ a, p a = true → On a (f a)) : ∀ l, Ons l (Fsm.turn1 p f l)
 | [] => trivial
 | a :: r => by
  unfold Fsm.turn1
  split
  ·rename_i hp; exact ⟨h a hp, Ons.refl r⟩
  ·exact ⟨On.refl a, Ons.turn1 p f h r⟩
theorem Ons.set : ∀ (l : List AllocD) (i : Nat) (b : AllocD), (∀ a, l[i]? = some a → On a b) → Ons l (l.set i b)
 | [], _, _, _ => trivial
 | a :: r, 0, b, h => ⟨h a rfl, Ons.refl r⟩
 | a :: r, i + 1, b, h => ⟨On.refl a, Ons.set r i b (fun c hc => h c (by simpa using hc))⟩
def liveL (l : List AllocD) : List AllocD := (l.filter (fun a => !overB a)).map core
theorem Ons.live : ∀ {l m : List AllocD}, Ons l m → (liveL m).Sublist (liveL l)
 | [], [], _ => List.Sublist.refl _
 | [], _ :: _, h => h.elim
 | _ :: _, [], h => h.elim
 | a :: l, b :: m, h => by
  have ih := Ons.live h.2
  unfold liveL at ih ⊢
  rw [List.filter_cons, List.filter_cons]
  cases ha : overB a with
  | true =>
   rw [h.1.over ha]
   simpa using ih
  | false =>
   cases hb : overB b with
   | true => simpa using ih.cons (core a)
   | false => simp only [Bool.not_false, if_true, List.map_cons, h.1.core]; exact ih.cons_cons _
theorem Ons.mem : ∀ {l m : List AllocD}, Ons l m → ∀ {b : AllocD}, b ∈ m → ∃ a ∈ l, On a b
 | [], [], _, _, hb => by cases hb
 | [], _ :: _, h, _, _ => h.elim
 | _ :: _, [], h, _, _ => h.elim
 | a :: l, c :: m, h, b, hb => by
  rcases List.mem_cons.1 hb with rfl | hb
  ·exact ⟨_, List.mem_cons_self .., h.1⟩
  ·obtain ⟨a', ha, k⟩ := Ons.mem h.2 hb
   exact ⟨a', List.mem_cons_of_mem _ ha, k⟩
theorem core_node {a b : AllocD} (h : core b = core a) : b.node = a.node ∧ b.epoch = a.epoch ∧ b.job = a.job ∧ b.group = a.group ∧ b.index = a.index ∧ b.ask = a.ask ∧ b.id = a.id ∧ b.ver = a.ver := by
 simp only [core, AllocD.mk.injEq] at h
 obtain ⟨h1, h2, h3, h4, h5, h6, h7, h8, _, _⟩ := h
 exact ⟨h6, h7, h2, h4, h5, h8, h1, h3⟩
theorem liveL_append (l m : List AllocD) : liveL (l ++ m) = liveL l ++ liveL m := by simp [liveL]
theorem liveL_mem {l : List AllocD} {c : AllocD} (h : c ∈ liveL l) : ∃ a ∈ l, overB a = false ∧ c = core a := by
 obtain ⟨a, ha, e⟩ := List.mem_map.1 h
 obtain ⟨h1, h2⟩ := List.mem_filter.1 ha
 exact ⟨a, h1, by simpa using h2, e.symm⟩
def leR (a b : ResD) : Prop := a.cpu ≤ b.cpu ∧ a.mem ≤ b.mem
def useC (node : Int) (o : Option ResD) (c : AllocD) : Option ResD := match o with | none => none | some r => if c.node == node then addF r c.ask else some r
theorem use_none (node : Int) : ∀ l : List AllocD, l.foldl (useC node) none = none
 | [] => rfl
 | a :: r => use_none node r
theorem use_live (node : Int) : ∀ (l : List AllocD) (o : Option ResD), l.foldl (useStep node) o = (liveL l).foldl (useC node) o
 | [], o => rfl
 | a :: r, o => by
  rw [List.foldl_cons, use_live node r]
  unfold liveL
  rw [List.filter_cons]
  cases ho : overB a with
  | true =>
   have : useStep node o a = o := by cases o with
    | none => rfl
    | some r => simp [useStep, ho]
   simp [this]
  | false =>
   have : useStep node o a = useC node o (core a) := by cases o with
    | none => rfl
    | some r => simp [useStep, useC, ho, core]
   simp [this]
theorem addF_some {a b s : ResD} (h : addF a b = some s) : s = ⟨a.cpu + b.cpu, a.mem + b.mem⟩ ∧ 0 ≤ b.cpu ∧ 0 ≤ b.mem ∧ 0 ≤ a.cpu ∧ 0 ≤ a.mem ∧ a.cpu + b.cpu ≤ 1152921504606846976 ∧ a.mem + b.mem ≤ 1152921504606846976 ∧ b.cpu ≤ 1152921504606846976 ∧ b.mem ≤ 1152921504606846976 := by
 unfold addF at h
 split at h
 ·rename_i hc
  simp only [Option.some.injEq] at h
  simp only [resB, inB, Bool.and_eq_true, decide_eq_true_eq] at hc
  have hm : (Go.Proofs.YtlpfcmnnmdhaoaaGreat.most : Int) = 1152921504606846976 := rfl
  exact ⟨h.symm, by omega, by omega, by omega, by omega, by omega, by omega, by omega, by omega⟩
 ·cases h
theorem addF_le {a b a' : ResD} {s : ResD} (h : addF a b = some s) (hl : leR a' a) (h0 : 0 ≤ a'.cpu ∧ 0 ≤ a'.mem) : ∃ s', addF a' b = some s' ∧ leR s' s ∧ 0 ≤ s'.cpu ∧ 0 ≤ s'.mem := by
 obtain ⟨rfl, h1, h2, h3, h4, h5, h6, h7, h8⟩ := addF_some h
 obtain ⟨l1, l2⟩ := hl
 refine ⟨⟨a'.cpu + b.cpu, a'.mem + b.mem⟩, ?_, ⟨by simp only; omega, by simp only; omega⟩, by simp only; omega, by simp only; omega⟩
 unfold addF
 have hm : (Go.Proofs.YtlpfcmnnmdhaoaaGreat.most : Int) = 1152921504606846976 := rfl
 rw [if_pos (by simp only [resB, inB, Bool.and_eq_true, decide_eq_true_eq]; omega)]
theorem use_sub (node : Int) : ∀ {m l : List AllocD}, m.Sublist l → ∀ {r r' s : ResD}, leR r' r → (0 ≤ r'.cpu ∧ 0 ≤ r'.mem) → l.foldl (useC node) (some r) = some s → ∃ s', m.foldl (useC node) (some r') = some s' ∧ leR s' s := by
 intro m l h
 induction h with
 | slnil => intro r r' s hl h0 hs; simp at hs; subst hs; exact ⟨r', rfl, hl⟩
 | cons a _ ih =>
  intro r r' s hl h0 hs
  rw [List.foldl_cons] at hs
  unfold useC at hs
  simp only at hs
  split at hs
  ·cases hq : addF r a.ask with
   | none => rw [hq] at hs; rw [show (fun o c => match o with | none => none | some r => if (c.node == node) = true then addF r c.ask else some r) = useC node from rfl, use_none] at hs; cases hs
   | some q =>
    rw [hq] at hs
    obtain ⟨e, h1, h2, _⟩ := addF_some hq
    exact ih (show leR r' q by subst e; exact ⟨by have := hl.1; simp only; omega, by have := hl.2; simp only; omega⟩) h0 hs
  ·exact ih hl h0 hs
 | cons_cons a _ ih =>
  intro r r' s hl h0 hs
  rw [List.foldl_cons] at hs ⊢
  unfold useC at hs ⊢
  simp only at hs ⊢
  split at hs
  ·rename_i hn
   rw [if_pos hn]
   cases hq : addF r a.ask with
   | none => rw [hq] at hs; rw [show (fun o c => match o with | none => none | some r => if (c.node == node) = true then addF r c.ask else some r) = useC node from rfl, use_none] at hs; cases hs
   | some q =>
    rw [hq] at hs
    obtain ⟨q', e1, e2, e3⟩ := addF_le hq hl h0
    rw [e1]
    exact ih e2 e3 hs
  ·rename_i hn
   rw [if_neg hn]
   exact ih hl h0 hs
end Fsm
end
section
open Go.RowKit
namespace Fsm
def Kept (s t : StoreD) : Prop := t.nodes = s.nodes ∧ t.allocs = s.allocs
theorem Kept.refl (s : StoreD) : Kept s s := ⟨rfl, rfl⟩
theorem Kept.trans {s t u : StoreD} (h : Kept s t) (k : Kept t u) : Kept s u := ⟨k.1.trans h.1, k.2.trans h.2⟩
theorem fold_kept {α : Type} {f : StoreD → α → StoreD} (h : ∀ s a, Kept s (f s a)) : ∀ (l : List α) (s : StoreD), Kept s (l.foldl f s)
 | [], s => Kept.refl s
 | a :: r, s => (h s a).trans (fold_kept h r (f s a))
theorem eval_kept (s : StoreD) (j : Int) : Kept s (eval s j) := by unfold eval; split <;> exact ⟨rfl, rfl⟩
theorem came_kept (s : StoreD) : Kept s (came s) := ⟨rfl, rfl⟩
theorem system_kept (s : StoreD) : Kept s (system s) := fold_kept (fun t j => by split; exact eval_kept t j.id; exact Kept.refl t) s.jobs s
theorem look_kept (s : StoreD) (i : Nat) : Kept s (lookStep s i) := by
 unfold lookStep
 split
 ·exact Kept.refl s
 ·split
  ·exact Kept.refl s
  ·split <;> exact ⟨rfl, rfl⟩
theorem looked_kept (s : StoreD) : Kept s (looked s) := fold_kept look_kept _ s
theorem begins_kept (s : StoreD) (j : JobD) : Kept s (begins s j) := by
 unfold begins
 simp only
 refine Kept.trans ?_ (eval_kept _ _)
 split
 ·exact Kept.trans ⟨rfl, rfl⟩ (looked_kept _)
 ·exact ⟨rfl, rfl⟩
structure Inv (s : StoreD) : Prop where
 nd : (s.nodes.map NodD.id).Nodup
 fenced : ∀ c ∈ liveL s.allocs, ∃ n, nodeAt s c.node = some n ∧ n.up = true ∧ n.epoch = c.epoch
 slots : ((liveL s.allocs).map (fun a => (a.job, a.group, a.index))).Nodup
 room : ∀ n ∈ s.nodes, ∃ r, (liveL s.allocs).foldl (useC n.id) (some ⟨0, 0⟩) = some r ∧ leR r n.cap
theorem Inv.kept {s t : StoreD} (h : Inv s) (k : Kept s t) : Inv t := by
 obtain ⟨k1, k2⟩ := k
 have hn : ∀ x, nodeAt t x = nodeAt s x := fun x => by rw [nodeAt, nodeAt, k1]
 exact ⟨by rw [k1]; exact h.nd, fun c hc => by rw [k2] at hc; rw [hn]; exact h.fenced c hc, by rw [k2]; exact h.slots, fun n hn => by rw [k1] at hn; rw [k2]; exact h.room n hn⟩
theorem Inv.less {s t : StoreD} (h : Inv s) (hn : t.nodes = s.nodes) (hs : (liveL t.allocs).Sublist (liveL s.allocs)) : Inv t := by
 have hna : ∀ x, nodeAt t x = nodeAt s x := fun x => by rw [nodeAt, nodeAt, hn]
 refine ⟨by rw [hn]; exact h.nd, fun c hc => by rw [hna]; exact h.fenced c (hs.subset hc), h.slots.sublist (hs.map _), fun n hm => ?_⟩
 rw [hn] at hm
 obtain ⟨r, h1, h2⟩ := h.room n hm
 obtain ⟨r', h3, h4⟩ := use_sub n.id hs (r := ⟨0, 0⟩) (r' := ⟨0, 0⟩) ⟨Int.le_refl _, Int.le_refl _⟩ ⟨Int.le_refl _, Int.le_refl _⟩ h1
 exact ⟨r', h3, by have := h4.1; have := h2.1; omega, by have := h4.2; have := h2.2; omega⟩
theorem nodeAt_id {s : StoreD} {x : Int} {n : NodD} (h : nodeAt s x = some n) : n.id = x ∧ n ∈ s.nodes := by
 have := List.find?_some h
 exact ⟨by simpa using this, List.mem_of_find?_eq_some h⟩
theorem Inv.turn {s : StoreD} (h : Inv s) (x : Int) (f : NodD → NodD) (hf : ∀ n, (f n).id = n.id ∧ (f n).cap = n.cap ∧ (f n).up = n.up ∧ (f n).epoch = n.epoch) : Inv { s with nodes := turn1 (fun n => n.id == x) f s.nodes } := by
 refine ⟨by rw [turn1_map _ _ _ (fun n => (hf n).1)]; exact h.nd, fun c hc => ?_, h.slots, fun n hm => ?_⟩
 ·obtain ⟨n, h1, h2, h3⟩ := h.fenced c hc
  by_cases hx : c.node = x
  ·refine ⟨f n, ?_, by rw [(hf n).2.2.1]; exact h2, by rw [(hf n).2.2.2]; exact h3⟩
   unfold nodeAt at h1 ⊢
   rw [hx] at h1 ⊢
   rw [turn1_find _ _ (fun a => by rw [(hf a).1]), h1]; rfl
  ·refine ⟨n, ?_, h2, h3⟩
   unfold nodeAt at h1 ⊢
   rw [turn1_find_other _ _ _ (fun a ha => ?_), h1]
   have ha' : a.id = x := by simpa using ha
   exact ⟨by rw [(hf a).1]; simp [ha', Ne.symm hx], by simp [ha', Ne.symm hx]⟩
 ·have : ∀ l : List NodD, n ∈ turn1 (fun n => n.id == x) f l → ∃ m ∈ l, n.id = m.id ∧ n.cap = m.cap := fun l => by
   induction l with
   | nil => intro h; cases h
   | cons y r ih =>
    intro hh
    unfold turn1 at hh
    split at hh
    ·rcases List.mem_cons.1 hh with hh | hh
     ·subst hh; exact ⟨y, List.mem_cons_self .., (hf y).1, (hf y).2.1⟩
     ·exact ⟨n, List.mem_cons_of_mem _ hh, rfl, rfl⟩
    ·rcases List.mem_cons.1 hh with hh | hh
     ·subst hh; exact ⟨n, List.mem_cons_self .., rfl, rfl⟩
     ·obtain ⟨m, h1, h2⟩ := ih hh
      exact ⟨m, List.mem_cons_of_mem _ h1, h2⟩
  obtain ⟨m, h1, h2, h3⟩ := this _ hm
  rw [h2, h3]
  exact h.room m h1
theorem lost_step (node : Int) (s : StoreD) (i : Nat) : (lostStep node s i).nodes = s.nodes ∧ Ons s.allocs (lostStep node s i).allocs ∧ (∀ j, j ≠ i → (lostStep node s i).allocs[j]? = s.allocs[j]?) ∧ (∀ b, (lostStep node s i).allocs[i]? = some b → b.node = node → overB b = true) ∧ (lostStep node s i).allocs.length = s.allocs.length := by
 unfold lostStep
 cases hi : s.allocs[i]? with
 | none => exact ⟨rfl, Ons.refl _, fun _ _ => rfl, fun b hb => (by have hb' : s.allocs[i]? = some b := hb; rw [hi] at hb'; cases hb'), rfl⟩
 | some a =>
  simp only
  split
  ·rename_i hc
   obtain ⟨k1, k2⟩ := eval_kept { s with allocs := s.allocs.set i { a with state := 6 } } a.job
   rw [k1, k2]
   refine ⟨rfl, Ons.set _ _ _ (fun c hc' => ?_), fun j hj => List.getElem?_set_ne (Ne.symm hj), fun b hb hbn => ?_, List.length_set ..⟩
   ·rw [hi] at hc'; cases hc'
    simp only [Bool.and_eq_true, Bool.not_eq_true', overB, decide_eq_false_iff_not] at hc
    exact ⟨rfl, by simp only; omega, fun e => by simp only [overB, decide_eq_true_eq] at e; omega, fun e => e⟩
   ·simp only at hb
    rw [List.getElem?_set_self (List.getElem?_eq_some_iff.1 hi).1] at hb
    cases hb; rfl
  ·rename_i hc
   refine ⟨rfl, Ons.refl _, fun _ _ => rfl, fun b hb hbn => ?_, rfl⟩
   rw [hi] at hb; cases hb
   simp only [Bool.and_eq_true, beq_iff_eq, not_and, Bool.not_eq_true, Bool.not_eq_false'] at hc
   simpa using hc hbn
theorem lost_spec (s : StoreD) (node : Int) : (lost s node).nodes = s.nodes ∧ Ons s.allocs (lost s node).allocs ∧ ∀ b ∈ (lost s node).allocs, b.node = node → overB b = true := by
 have key : ∀ k, k ≤ s.allocs.length → ((List.range k).foldl (lostStep node) s).nodes = s.nodes ∧ Ons s.allocs ((List.range k).foldl (lostStep node) s).allocs ∧ (∀ (i : Nat) b, i < k → ((List.range k).foldl (lostStep node) s).allocs[i]? = some b → b.node = node → overB b = true) ∧ ((List.range k).foldl (lostStep node) s).allocs.length = s.allocs.length := fun k => by
  induction k with
  | zero => intro _; exact ⟨rfl, Ons.refl _, fun i b h => absurd h (by omega), rfl⟩
  | succ k ih =>
   intro hk
   obtain ⟨h1, h2, h3, h4⟩ := ih (by omega)
   rw [List.range_succ, List.foldl_append, List.foldl_cons, List.foldl_nil]
   generalize (List.range k).foldl (lostStep node) s = t at h1 h2 h3 h4
   obtain ⟨g1, g2, g3, g4, g5⟩ := lost_step node t k
   refine ⟨g1.trans h1, h2.trans g2, fun i b hi hb hbn => ?_, g5.trans h4⟩
   by_cases hik : i = k
   ·subst hik; exact g4 b hb hbn
   ·rw [g3 i hik] at hb
    exact h3 i b (by omega) hb hbn
 obtain ⟨h1, h2, h3, h4⟩ := key s.allocs.length (Nat.le_refl _)
 refine ⟨h1, h2, fun b hb hbn => ?_⟩
 obtain ⟨i, hi⟩ := List.getElem?_of_mem hb
 exact h3 i b (by have := (List.getElem?_eq_some_iff.1 hi).1; unfold lost at this; omega) hi hbn
theorem use_off (x : Int) : ∀ (l : List AllocD) (o : Option ResD), (∀ c ∈ l, c.node ≠ x) → l.foldl (useC x) o = o
 | [], o, _ => rfl
 | a :: r, o, h => by
  rw [List.foldl_cons, show useC x o a = o by
   cases o with
   | none => rfl
   | some r => simp [useC, h a (List.mem_cons_self ..)]]
  exact use_off x r o (fun c hc => h c (List.mem_cons_of_mem _ hc))
theorem Inv.fresh {s t : StoreD} (h : Inv s) {x : Int} (hl : (liveL t.allocs).Sublist (liveL s.allocs)) (ho : ∀ b ∈ t.allocs, b.node = x → overB b = true)
  (hnd : (t.nodes.map NodD.id).Nodup) (hf : ∀ i, i ≠ x → nodeAt t i = nodeAt s i) (hr : ∀ n ∈ t.nodes, n.id = x ∧ 0 ≤ n.cap.cpu ∧ 0 ≤ n.cap.mem ∨ ∃ m ∈ s.nodes, m.id = n.id ∧ m.cap = n.cap) : Inv t := by
 have hx : ∀ c ∈ liveL t.allocs, c.node ≠ x := fun c hc => by
  obtain ⟨a, ha, hoa, rfl⟩ := liveL_mem hc
  intro e
  have := ho a ha e
  rw [hoa] at this; cases this
 refine ⟨hnd, fun c hc => ?_, h.slots.sublist (hl.map _), fun n hm => ?_⟩
 ·rw [hf _ (hx c hc)]; exact h.fenced c (hl.subset hc)
 ·rcases hr n hm with ⟨e, h1, h2⟩ | ⟨m, hm', e1, e2⟩
  ·rw [e, use_off x _ _ hx]; exact ⟨_, rfl, h1, h2⟩
  ·obtain ⟨r, h1, h2⟩ := h.room m hm'
   rw [e1] at h1
   rw [e2] at h2
   obtain ⟨r', h3, h4⟩ := use_sub n.id hl (r := ⟨0, 0⟩) (r' := ⟨0, 0⟩) ⟨Int.le_refl _, Int.le_refl _⟩ ⟨Int.le_refl _, Int.le_refl _⟩ h1
   exact ⟨r', h3, by have := h4.1; have := h2.1; omega, by have := h4.2; have := h2.2; omega⟩
theorem joins_inv {s : StoreD} (h : Inv s) (n : NodD) (h1 : 0 ≤ n.cap.cpu) (h2 : 0 ≤ n.cap.mem) : Inv (joins s n) := by
 unfold joins
 refine Inv.kept (Inv.kept ?_ (system_kept _)) (came_kept _)
 obtain ⟨l1, l2, l3⟩ := lost_spec { s with nodes := putL NodD.id n s.nodes } n.id
 refine h.fresh (x := n.id) l2.live l3 (by rw [l1]; exact putL_nodup h.nd) (fun i hi => by rw [nodeAt, l1]; exact putL_find_other hi _) (fun m hm => ?_)
 rw [l1] at hm
 rcases putL_mem hm with rfl | ⟨hm, _⟩
 ·exact .inl ⟨rfl, h1, h2⟩
 ·exact .inr ⟨m, hm, rfl, rfl⟩
end Fsm
end
section
open Go.RowKit
namespace Fsm
theorem Ons.turn1f (p : AllocD → Bool) (f : AllocD → AllocD) : ∀ l, (∀ a, l.find? p = some a → On a (f a)) → Ons l (Fsm.turn1 p f l)
 | [], _ => trivial
 | a :: r, h => by
  unfold Fsm.turn1
  split
  ·rename_i hp
   exact ⟨h a (by rw [List.find?_cons, hp]), Ons.refl r⟩
  ·rename_i hp
   have hp' : p a = false := by simpa using hp
   exact ⟨On.refl a, Ons.turn1f p f r (fun b hb => h b (by rw [List.find?_cons, hp']; exact hb))⟩
theorem report_spec (n : NodD) (z : StoreD × Bool) (r : Int × Int) : (report n z r).1.nodes = z.1.nodes ∧ Ons z.1.allocs (report n z r).1.allocs := by
 unfold report
 split
 ·exact ⟨rfl, Ons.refl _⟩
 ·rename_i a ha
  split
  ·exact ⟨rfl, Ons.refl _⟩
  ·rename_i ht
   have ht' : takes n a r.2 = true := by simpa using ht
   have hov : overB a = false := by
    simp only [takes, Bool.and_eq_true, Bool.not_eq_true'] at ht'
    exact ht'.1.1.1.1.2
   have hlt : a.state < r.2 := by
    simp only [takes, Bool.and_eq_true, decide_eq_true_eq] at ht'
    exact ht'.1.1.1.2
   have hO : Ons z.1.allocs (turn1 (fun a => a.id == r.1) (fun a => { a with state := r.2 }) z.1.allocs) := Ons.turn1f _ _ _ (fun b hb => by
    rw [ha] at hb
    cases hb
    exact ⟨rfl, by simp only; omega, fun e => (by rw [hov] at e; cases e), fun e => e⟩)
   simp only
   split
   ·obtain ⟨k1, k2⟩ := eval_kept { z.1 with allocs := turn1 (fun a => a.id == r.1) (fun a => { a with state := r.2 }) z.1.allocs } a.job
    exact ⟨k1, by rw [k2]; exact hO⟩
   ·split
    ·exact ⟨rfl, hO⟩
    ·split
     ·exact ⟨rfl, hO⟩
     ·obtain ⟨k1, k2⟩ := eval_kept { z.1 with allocs := turn1 (fun a => a.id == r.1) (fun a => { a with state := r.2 }) z.1.allocs } a.job
      exact ⟨k1, by simp only; rw [k2]; exact hO⟩
theorem reports_spec (n : NodD) : ∀ (l : List (Int × Int)) (z : StoreD × Bool), (l.foldl (report n) z).1.nodes = z.1.nodes ∧ Ons z.1.allocs (l.foldl (report n) z).1.allocs
 | [], z => ⟨rfl, Ons.refl _⟩
 | r :: l, z => by
  obtain ⟨h1, h2⟩ := report_spec n z r
  obtain ⟨k1, k2⟩ := reports_spec n l (report n z r)
  exact ⟨k1.trans h1, h2.trans k2⟩
theorem Inv.plain {s t : StoreD} (h : Inv s) (h1 : t.nodes = s.nodes) (h2 : t.allocs = s.allocs) : Inv t := h.kept ⟨h1, h2⟩
theorem submit_inv {s : StoreD} (h : Inv s) (c : CmdD) : Inv (submit s c).1 := by
 unfold submit
 split
 ·exact h
 ·split
  ·split
   ·exact h
   ·exact h.kept (begins_kept _ _)
  ·split
   ·exact h
   ·exact h.kept (begins_kept _ _)
theorem cancel_inv {s : StoreD} (h : Inv s) (c : CmdD) : Inv (cancel s c).1 := by
 unfold cancel
 split
 ·exact h
 ·exact Inv.kept (h.plain rfl rfl) (eval_kept _ _)
theorem register_inv {s : StoreD} (h : Inv s) (c : CmdD) : Inv (register s c).1 := by
 unfold register
 split
 ·exact h
 ·rename_i hok
  have hok' : nodeOk c.node = true := by simpa using hok
  simp only [nodeOk, Bool.and_eq_true, decide_eq_true_eq] at hok'
  split
  ·exact joins_inv h _ (by simp only; omega) (by simp only; omega)
  ·split
   ·exact h
   ·split
    ·split <;> exact h
    ·exact joins_inv h _ (by simp only; omega) (by simp only; omega)
theorem beat_inv {s : StoreD} (h : Inv s) (c : CmdD) : Inv (beat s c).1 := by
 unfold beat
 split
 ·exact h
 ·split
  ·exact h
  ·split
   ·exact h
   ·split
    ·exact h
    ·simp only
     have h1 := h.turn c.node.id (fun n => { n with seq := c.node.seq }) (fun n => ⟨rfl, rfl, rfl, rfl⟩)
     obtain ⟨k1, k2⟩ := reports_spec c.node c.reports ({ s with nodes := turn1 (fun n => n.id == c.node.id) (fun n => { n with seq := c.node.seq }) s.nodes }, false)
     have h2 := h1.less k1 k2.live
     have h3 := h2.kept (looked_kept _)
     split
     ·exact h3.kept (came_kept _)
     ·exact h3
theorem down_inv {s : StoreD} (h : Inv s) (c : CmdD) : Inv (down s c).1 := by
 unfold down
 split
 ·exact h
 ·split
  ·exact h
  ·split
   ·exact h
   ·refine Inv.kept ?_ (system_kept _)
    obtain ⟨l1, l2, l3⟩ := lost_spec { s with nodes := turn1 (fun n => n.id == c.node.id) (fun n => { n with up := false, epoch := wrap64 (n.epoch + 1) }) s.nodes } c.node.id
    refine h.fresh (x := c.node.id) l2.live l3 (by rw [l1]; have hh := turn1_map (fun n : NodD => n.id == c.node.id) (fun n => { n with up := false, epoch := wrap64 (n.epoch + 1) }) NodD.id (fun n => rfl) s.nodes; show (List.map NodD.id (turn1 _ _ s.nodes)).Nodup; rw [hh]; exact h.nd) (fun i hi => ?_) (fun m hm => ?_)
    ·rw [nodeAt, l1]
     have ho : ∀ a : NodD, (a.id == c.node.id) = true → (a.id == i) = false ∧ (a.id == i) = false := fun a ha => by
      have ha' : a.id = c.node.id := by simpa using ha
      exact ⟨by simp [ha', Ne.symm hi], by simp [ha', Ne.symm hi]⟩
     exact turn1_find_other _ _ _ ho _
    ·rw [l1] at hm
     have : ∀ l : List NodD, m ∈ turn1 (fun n => n.id == c.node.id) (fun n => { n with up := false, epoch := wrap64 (n.epoch + 1) }) l → ∃ q ∈ l, q.id = m.id ∧ q.cap = m.cap := fun l => by
      induction l with
      | nil => intro h; cases h
      | cons y r ih =>
       intro hh
       unfold turn1 at hh
       split at hh
       ·rcases List.mem_cons.1 hh with hh | hh
        ·subst hh; exact ⟨y, List.mem_cons_self .., rfl, rfl⟩
        ·exact ⟨m, List.mem_cons_of_mem _ hh, rfl, rfl⟩
       ·rcases List.mem_cons.1 hh with hh | hh
        ·subst hh; exact ⟨m, List.mem_cons_self .., rfl, rfl⟩
        ·obtain ⟨q, h1, h2⟩ := ih hh
         exact ⟨q, List.mem_cons_of_mem _ h1, h2⟩
     obtain ⟨q, h1, h2, h3⟩ := this _ hm
     exact .inr ⟨q, h1, h2, h3⟩
theorem drain_inv {s : StoreD} (h : Inv s) (c : CmdD) : Inv (drain s c).1 := by
 unfold drain
 split
 ·exact h
 ·simp only
  have h1 := h.turn c.node.id (fun n => { n with drain := c.node.drain }) (fun n => ⟨rfl, rfl, rfl, rfl⟩)
  have h2 : Inv ((s.allocs.foldl (fun t a => if a.node == c.node.id && !overB a then eval t a.job else t) { s with nodes := turn1 (fun n => n.id == c.node.id) (fun n => { n with drain := c.node.drain }) s.nodes })) :=
   h1.kept (fold_kept (fun t a => by split; exact eval_kept t a.job; exact Kept.refl t) _ _)
  have h3 := h2.kept (system_kept _)
  split
  ·exact h3
  ·exact h3.kept (came_kept _)
theorem revert_inv {s : StoreD} (h : Inv s) (c : CmdD) : Inv (revert s c).1 := by
 unfold revert
 split
 ·exact h
 ·split
  ·exact h
  ·split
   ·exact h
   ·simp only
    split
    ·exact Inv.kept (h.plain rfl rfl) (eval_kept _ _)
    ·split
     ·exact Inv.kept (h.plain rfl rfl) (eval_kept _ _)
     ·split
      ·exact h
      ·exact Inv.kept (h.plain rfl rfl) (begins_kept _ _)
theorem usedS_live (l : List AllocD) (x : Int) : usedS l x = ((liveL l).foldl (useC x) (some ⟨0, 0⟩)).getD Go.Proofs.YtlpfcmnnmdhaoaaGreat.big := by
 rw [usedS, use_live]
theorem placed_inv {s : StoreD} (h : Inv s) {j : JobD} {n : NodD} {x : AllocD} (hn : nodeAt s n.id = some n) (hu : n.up = true) (hm : mayP s j n x = true) : Inv (placed s j n x) := by
 simp only [mayP, Bool.and_eq_true] at hm
 obtain ⟨⟨_, hany⟩, hfit⟩ := hm
 have hnm := (nodeAt_id hn).2
 have hl : liveL (placed s j n x).allocs = liveL s.allocs ++ [core ⟨s.next, j.id, j.ver, x.group, x.index, n.id, n.epoch, x.ask, false, 1⟩] := by
  rw [placed, liveL_append]
  rfl
 have hna : ∀ i, nodeAt (placed s j n x) i = nodeAt s i := fun i => rfl
 refine ⟨h.nd, fun c hc => ?_, ?_, fun m hmm => ?_⟩
 ·rw [hna]
  rw [hl] at hc
  rcases List.mem_append.1 hc with hc | hc
  ·exact h.fenced c hc
  ·rw [List.mem_singleton] at hc
   subst hc
   exact ⟨n, hn, hu, rfl⟩
 ·rw [hl, List.map_append]
  refine List.nodup_append.2 ⟨h.slots, by simp, fun a ha b hb e => ?_⟩
  rw [List.map_cons, List.map_nil, List.mem_singleton] at hb
  obtain ⟨c, hc, rfl⟩ := List.mem_map.1 ha
  obtain ⟨q, hq, hqo, rfl⟩ := liveL_mem hc
  rw [hb] at e
  simp only [core, Prod.mk.injEq] at e
  have h1 : s.allocs.any (fun a => a.job == j.id && a.group == x.group && a.index == x.index && (!overB a || (j.ty == 2 && a.ver == j.ver && a.state == 3))) = true := by
   rw [List.any_eq_true]
   exact ⟨q, hq, by simp [e.1, e.2.1, e.2.2, hqo]⟩
  rw [h1] at hany
  exact absurd hany (by decide)
 ·rw [hl, List.foldl_append, List.foldl_cons, List.foldl_nil]
  obtain ⟨r, h1, h2⟩ := h.room m hmm
  rw [h1]
  by_cases hid : n.id = m.id
  ·have hmn : m = n := by
    have h3 : nodeAt s n.id = some m := by
     have key : ∀ l : List NodD, (l.map NodD.id).Nodup → m ∈ l → l.find? (fun y => y.id == n.id) = some m := fun l => by
      induction l with
      | nil => intro _ h; cases h
      | cons y r ih =>
       intro hnd hm
       rw [List.map_cons, List.nodup_cons] at hnd
       rw [List.find?_cons]
       rcases List.mem_cons.1 hm with rfl | hm
       ·rw [show (m.id == n.id) = true by simp [hid]]
       ·have : y.id ≠ n.id := fun e => hnd.1 (List.mem_map.2 ⟨m, hm, by rw [e, hid]⟩)
        rw [show (y.id == n.id) = false by simp [this]]
        exact ih hnd.2 hm
     exact key _ h.nd hmm
    rw [hn] at h3
    cases h3; rfl
   subst hmn
   have h4 : usedS s.allocs m.id = r := by rw [usedS_live, h1]; rfl
   rw [h4, fitsF] at hfit
   cases hq : addF r x.ask with
   | none => rw [hq] at hfit; cases hfit
   | some q =>
    rw [hq] at hfit
    simp only [fitsO, Bool.and_eq_true, decide_eq_true_eq] at hfit
    exact ⟨q, by simp [useC, core, hq], hfit.1, hfit.2⟩
  ·exact ⟨r, by simp [useC, core, hid], h2⟩
theorem placeAll_none (j : JobD) (n : NodD) : ∀ l : List AllocD, l.foldl (placeStep j n) (none : Option StoreD) = none
 | [] => rfl
 | x :: r => placeAll_none j n r
theorem placeAll_inv (j : JobD) (n : NodD) (hu : n.up = true) : ∀ (l : List AllocD) (s t : StoreD), Inv s → nodeAt s n.id = some n → placeAll j n l s = some t → Inv t ∧ t.nodes = s.nodes
 | [], s, t, h, _, e => by cases e; exact ⟨h, rfl⟩
 | x :: r, s, t, h, hn, e => by
  unfold placeAll at e
  rw [List.foldl_cons, show placeStep j n (some s) x = if mayP s j n x then some (placed s j n x) else none from rfl] at e
  split at e
  ·rename_i hm
   exact placeAll_inv j n hu r (placed s j n x) t (placed_inv h hn hu hm) hn e
  ·rw [placeAll_none] at e; cases e
theorem live_erase : ∀ (l : List AllocD) (k : Nat), (∀ a, l[k]? = some a → overB a = true) → liveL (l.eraseIdx k) = liveL l
 | [], _, _ => rfl
 | a :: r, 0, h => by simp [liveL, h a rfl]
 | a :: r, k + 1, h => by
  have ih := live_erase r k (fun b hb => h b (by simpa using hb))
  unfold liveL at ih ⊢
  rw [List.eraseIdx_cons_succ, List.filter_cons, List.filter_cons]
  split <;> simp [ih]
theorem trim_live (jobs : List JobD) : ∀ (n : Nat) (l m : List AllocD), trim jobs n l = some m → liveL m = liveL l ∧ m.length ≤ 64
 | 0, l, m, e => by
  unfold trim at e
  split at e
  ·rename_i hle; cases e; exact ⟨rfl, hle⟩
  ·cases e
 | n + 1, l, m, e => by
  unfold trim at e
  split at e
  ·rename_i hle; cases e; exact ⟨rfl, hle⟩
  ·split at e
   ·cases e
   ·rename_i k hk
    obtain ⟨hkl, hp, _⟩ := List.findIdx?_eq_some_iff_getElem.1 hk
    obtain ⟨h1, h2⟩ := trim_live jobs n _ m e
    refine ⟨h1.trans (live_erase l k (fun a ha => ?_)), h2⟩
    obtain ⟨_, rfl⟩ := List.getElem?_eq_some_iff.1 ha
    cases ho : overB l[k] with
    | true => rfl
    | false => rw [keptB, ho] at hp; simp at hp
theorem places_inv {s : StoreD} (h : Inv s) (j : JobD) (node : Int) (l : List AllocD) : Inv (places s j node l).1 := by
 unfold places
 split
 ·exact h
 ·rename_i n hn
  split
  ·exact h
  ·rename_i hu
   have hu' : n.up = true := by
    simp only [Bool.or_eq_true, Bool.not_eq_true', not_or] at hu
    simpa using hu.1.1
   split
   ·exact h
   ·rename_i t ht
    have hid := (nodeAt_id hn).1
    obtain ⟨h1, h2⟩ := placeAll_inv j n hu' _ s t h (by rw [hid]; exact hn) ht
    split
    ·exact h
    ·rename_i m hm
     exact h1.less rfl (by rw [show ({ t with allocs := m } : StoreD).allocs = m from rfl, (trim_live _ _ _ _ hm).1]; exact List.Sublist.refl _)
theorem stops_ons (job : Int) : ∀ (ids : List Int) (l : List AllocD), Ons l (stops job l ids)
 | [], l => Ons.refl l
 | i :: r, l => (Ons.turn1 _ _ (fun a _ => by split; exact ⟨rfl, Int.le_refl _, fun _ => rfl, fun _ => rfl⟩; exact On.refl a) l).trans (stops_ons job r _)
theorem plan_inv {s : StoreD} (h : Inv s) (c : CmdD) : Inv (plan s c).1 := by
 unfold plan
 simp only
 split
 ·rename_i j e _ _
  split
  ·exact h
  ·have h1 : Inv { s with allocs := stops c.plan.job s.allocs c.plan.stops } := h.less rfl (stops_ons _ _ _).live
   have h2 : ∀ (l : List Int) (z : StoreD × Bool), Inv z.1 → Inv (l.foldl (fun z n => ((places z.1 j n c.plan.places).1, z.2 && (places z.1 j n c.plan.places).2)) z).1 := fun l => by
    induction l with
    | nil => intro z hz; exact hz
    | cons n r ih => intro z hz; exact ih _ (places_inv hz j n _)
   have h3 := h2 (nodesUp c.plan.places) ({ s with allocs := stops c.plan.job s.allocs c.plan.stops }, true) h1
   split
   ·exact h3.plain rfl rfl
   ·exact h3.plain rfl rfl
 ·exact h
theorem command_inv {s : StoreD} (h : Inv s) (c : CmdD) : Inv (command s c).1 := by
 unfold command
 repeat' split
 ·exact h
 ·exact submit_inv h c
 ·exact cancel_inv h c
 ·exact register_inv h c
 ·exact beat_inv h c
 ·exact down_inv h c
 ·exact drain_inv h c
 ·exact plan_inv h c
 ·exact revert_inv h c
 ·exact h
theorem apply_inv {s : StoreD} (h : Inv s) (ix : Int) (c : CmdD) : Inv (apply s ix c).1 := by
 have h0 : Inv { s with index := ix } := h.plain rfl rfl
 unfold apply
 simp only
 split
 ·exact command_inv h0 c
 ·split
  ·exact h0
  ·split
   ·split <;> exact h0
   ·exact (command_inv h0 c).plain rfl rfl
theorem new_inv : Inv new := ⟨by simp [new], by simp [new, liveL], by simp [new, liveL], by simp [new]⟩
end Fsm
end
section
open Go.RowKit
namespace Fsm
structure Num (k : Nat) (s : StoreD) : Prop where
 ids : (s.allocs.map AllocD.id).Pairwise (· < ·)
 lt : ∀ a ∈ s.allocs, a.id < s.next
 pos : 1 ≤ s.next
 up : s.next ≤ 1 + (k : Int)
 len : s.allocs.length ≤ 64
def Numb (s t : StoreD) : Prop := t.next = s.next ∧ Ons s.allocs t.allocs
theorem Numb.refl (s : StoreD) : Numb s s := ⟨rfl, Ons.refl _⟩
theorem Numb.trans {s t u : StoreD} (h : Numb s t) (k : Numb t u) : Numb s u := ⟨k.1.trans h.1, h.2.trans k.2⟩
theorem Ons.ids : ∀ {l m : List AllocD}, Ons l m → m.map AllocD.id = l.map AllocD.id
 | [], [], _ => rfl
 | [], _ :: _, h => h.elim
 | _ :: _, [], h => h.elim
 | a :: l, b :: m, h => by rw [List.map_cons, List.map_cons, Ons.ids h.2, (core_node h.1.core).2.2.2.2.2.2.1]
theorem Num.numb {k : Nat} {s t : StoreD} (h : Num k s) (n : Numb s t) : Num k t := by
 have hi := n.2.ids
 refine ⟨by rw [hi]; exact h.ids, fun b hb => ?_, by rw [n.1]; exact h.pos, by rw [n.1]; exact h.up, by have := congrArg List.length hi; simp only [List.length_map] at this; have := h.len; omega⟩
 obtain ⟨a, ha, ho⟩ := n.2.mem hb
 rw [n.1, (core_node ho.core).2.2.2.2.2.2.1]
 exact h.lt a ha
theorem Num.more {k k' : Nat} {s : StoreD} (h : Num k s) (hk : k ≤ k') : Num k' s := ⟨h.ids, h.lt, h.pos, by have := h.up; omega, h.len⟩
theorem fold_numb {α : Type} {f : StoreD → α → StoreD} (h : ∀ s a, Numb s (f s a)) : ∀ (l : List α) (s : StoreD), Numb s (l.foldl f s)
 | [], s => Numb.refl s
 | a :: r, s => (h s a).trans (fold_numb h r (f s a))
theorem eval_numb (s : StoreD) (j : Int) : Numb s (eval s j) := by unfold eval; split <;> exact ⟨rfl, Ons.refl _⟩
theorem came_numb (s : StoreD) : Numb s (came s) := ⟨rfl, Ons.refl _⟩
theorem system_numb (s : StoreD) : Numb s (system s) := fold_numb (fun t j => by split; exact eval_numb t j.id; exact Numb.refl t) s.jobs s
theorem look_numb (s : StoreD) (i : Nat) : Numb s (lookStep s i) := by
 unfold lookStep
 split
 ·exact Numb.refl s
 ·split
  ·exact Numb.refl s
  ·split <;> exact ⟨rfl, Ons.refl _⟩
theorem looked_numb (s : StoreD) : Numb s (looked s) := fold_numb look_numb _ s
theorem begins_numb (s : StoreD) (j : JobD) : Numb s (begins s j) := by
 unfold begins
 simp only
 refine Numb.trans ?_ (eval_numb _ _)
 split
 ·exact Numb.trans ⟨rfl, Ons.refl _⟩ (looked_numb _)
 ·exact ⟨rfl, Ons.refl _⟩
theorem lostStep_next (node : Int) (s : StoreD) (i : Nat) : (lostStep node s i).next = s.next := by
 unfold lostStep
 split
 ·rfl
 ·split
  ·rename_i a _ _
   exact (eval_numb { s with allocs := s.allocs.set i { a with state := 6 } } a.job).1
  ·rfl
theorem lost_numb (s : StoreD) (node : Int) : Numb s (lost s node) := by
 refine ⟨?_, (lost_spec s node).2.1⟩
 have : ∀ (l : List Nat) (s : StoreD), (l.foldl (lostStep node) s).next = s.next := fun l => by
  induction l with
  | nil => intro s; rfl
  | cons i r ih => intro s; rw [List.foldl_cons, ih, lostStep_next]
 exact this _ s
theorem joins_numb (s : StoreD) (n : NodD) : Numb s (joins s n) := by
 unfold joins
 exact ((Numb.trans (t := { s with nodes := putL NodD.id n s.nodes }) ⟨rfl, Ons.refl _⟩ (lost_numb _ _)).trans (system_numb _)).trans (came_numb _)
theorem report_next (n : NodD) (z : StoreD × Bool) (r : Int × Int) : (report n z r).1.next = z.1.next := by
 unfold report
 split
 ·rfl
 ·split
  ·rfl
  ·rename_i a _ _
   simp only
   split
   ·exact (eval_numb { z.1 with allocs := turn1 (fun a => a.id == r.1) (fun a => { a with state := r.2 }) z.1.allocs } a.job).1
   ·split
    ·rfl
    ·split
     ·rfl
     ·exact (eval_numb { z.1 with allocs := turn1 (fun a => a.id == r.1) (fun a => { a with state := r.2 }) z.1.allocs } a.job).1
theorem reports_numb (n : NodD) : ∀ (l : List (Int × Int)) (z : StoreD × Bool), Numb z.1 (l.foldl (report n) z).1
 | [], z => Numb.refl _
 | r :: l, z => Numb.trans ⟨report_next n z r, (report_spec n z r).2⟩ (reports_numb n l (report n z r))
structure Numx (k : Nat) (s : StoreD) : Prop where
 ids : (s.allocs.map AllocD.id).Pairwise (· < ·)
 lt : ∀ a ∈ s.allocs, a.id < s.next
 pos : 1 ≤ s.next
 up : s.next ≤ 1 + (k : Int)
theorem placed_numx {k : Nat} {s : StoreD} (h : Numx k s) (hk : k < 4611686018427387904) (j : JobD) (n : NodD) (x : AllocD) : Numx (k + 1) (placed s j n x) := by
 have hp := h.pos
 have hu := h.up
 have hw : wrap64 (s.next + 1) = s.next + 1 := by unfold wrap64; omega
 refine ⟨?_, fun a ha => ?_, ?_, ?_⟩
 ·rw [placed, List.map_append, List.pairwise_append]
  refine ⟨h.ids, by simp, fun a ha b hb => ?_⟩
  obtain ⟨c, hc, rfl⟩ := List.mem_map.1 ha
  rw [List.map_cons, List.map_nil, List.mem_singleton] at hb
  rw [hb]
  exact h.lt c hc
 ·rw [show (placed s j n x).next = wrap64 (s.next + 1) from rfl, hw]
  rcases List.mem_append.1 ha with ha | ha
  ·have := h.lt a ha; omega
  ·rw [List.mem_singleton] at ha; subst ha; simp only; omega
 ·rw [show (placed s j n x).next = wrap64 (s.next + 1) from rfl, hw]; omega
 ·rw [show (placed s j n x).next = wrap64 (s.next + 1) from rfl, hw]; omega
theorem placeAll_numx (j : JobD) (n : NodD) : ∀ (l : List AllocD) (k : Nat) (s t : StoreD), Numx k s → k + l.length < 4611686018427387904 → placeAll j n l s = some t → Numx (k + l.length) t
 | [], k, s, t, h, _, e => by cases e; exact h
 | x :: r, k, s, t, h, hk, e => by
  unfold placeAll at e
  rw [List.foldl_cons, show placeStep j n (some s) x = if mayP s j n x then some (placed s j n x) else none from rfl] at e
  rw [List.length_cons] at hk
  split at e
  ·have := placeAll_numx j n r (k + 1) (placed s j n x) t (placed_numx h (by omega) j n x) (by omega) e
   rw [List.length_cons, show k + (r.length + 1) = k + 1 + r.length by omega]
   exact this
  ·rw [placeAll_none] at e; cases e
theorem trim_sub (jobs : List JobD) : ∀ (n : Nat) (l m : List AllocD), trim jobs n l = some m → m.Sublist l
 | 0, l, m, e => by
  unfold trim at e
  split at e
  ·cases e; exact List.Sublist.refl _
  ·cases e
 | n + 1, l, m, e => by
  unfold trim at e
  split at e
  ·cases e; exact List.Sublist.refl _
  ·split at e
   ·cases e
   ·rename_i k hk
    exact (trim_sub jobs n _ m e).trans (List.eraseIdx_sublist l k)
theorem places_num {k : Nat} {s : StoreD} (h : Num k s) (j : JobD) (node : Int) (l : List AllocD) (hk : k + l.length < 4611686018427387904) : Num (k + l.length) (places s j node l).1 := by
 have h0 : Num (k + l.length) s := h.more (by omega)
 unfold places
 split
 ·exact h0
 ·rename_i n hn
  split
  ·exact h0
  ·split
   ·exact h0
   ·rename_i t ht
    have hfl : (l.filter (fun x => x.node == node)).length ≤ l.length := List.length_filter_le _ _
    have hx := placeAll_numx j n _ k s t ⟨h.ids, h.lt, h.pos, h.up⟩ (by omega) ht
    split
    ·exact h0
    ·rename_i m hm
     have hs := trim_sub _ _ _ _ hm
     refine ⟨hx.ids.sublist (hs.map _), fun a ha => hx.lt a (hs.subset ha), hx.pos, by have := hx.up; simp only; omega, (trim_live _ _ _ _ hm).2⟩
theorem insD_len (x : Int) : ∀ l : List Int, (insD x l).length ≤ l.length + 1
 | [] => by simp [insD]
 | y :: r => by
  unfold insD
  split
  ·simp
  ·split
   ·simp
   ·have := insD_len x r; simp only [List.length_cons]; omega
theorem nodesUp_len : ∀ l : List AllocD, (nodesUp l).length ≤ l.length
 | [] => by simp [nodesUp]
 | a :: r => by
  have h1 := nodesUp_len r
  have h2 := insD_len a.node (nodesUp r)
  have h3 : nodesUp (a :: r) = insD a.node (nodesUp r) := rfl
  rw [h3, List.length_cons]; omega
theorem plan_num {k : Nat} {s : StoreD} (h : Num k s) (c : CmdD) (hk : k + c.plan.places.length * c.plan.places.length < 4611686018427387904) : Num (k + c.plan.places.length * c.plan.places.length) (plan s c).1 := by
 have h0 : Num (k + c.plan.places.length * c.plan.places.length) s := h.more (by omega)
 unfold plan
 simp only
 split
 ·rename_i j e _ _
  split
  ·exact h0
  ·have h1 : Num k { s with allocs := stops c.plan.job s.allocs c.plan.stops } := h.numb ⟨rfl, stops_ons _ _ _⟩
   have h2 : ∀ (l : List Int) (k : Nat) (z : StoreD × Bool), Num k z.1 → k + l.length * c.plan.places.length < 4611686018427387904 → Num (k + l.length * c.plan.places.length) (l.foldl (fun z n => ((places z.1 j n c.plan.places).1, z.2 && (places z.1 j n c.plan.places).2)) z).1 := fun l => by
    induction l with
    | nil => intro k z hz _; simpa using hz
    | cons n r ih =>
     intro k z hz hk
     rw [List.length_cons, Nat.add_mul] at hk ⊢
     have h3 := ih (k + c.plan.places.length) ((places z.1 j n c.plan.places).1, z.2 && (places z.1 j n c.plan.places).2) (places_num hz j n _ (by omega)) (by omega)
     rw [List.foldl_cons]
     refine h3.more (by omega)
   have hle := Nat.mul_le_mul_right c.plan.places.length (nodesUp_len c.plan.places)
   have h3 := (h2 (nodesUp c.plan.places) k ({ s with allocs := stops c.plan.job s.allocs c.plan.stops }, true) h1 (by omega)).more (k' := k + c.plan.places.length * c.plan.places.length) (by omega)
   split
   ·exact h3.numb ⟨rfl, Ons.refl _⟩
   ·exact h3.numb ⟨rfl, Ons.refl _⟩
 ·exact h0
theorem command_num {k : Nat} {s : StoreD} (h : Num k s) (c : CmdD) (hk : k + c.plan.places.length * c.plan.places.length < 4611686018427387904) : Num (k + c.plan.places.length * c.plan.places.length) (command s c).1 := by
 have h0 : Num (k + c.plan.places.length * c.plan.places.length) s := h.more (by omega)
 have hn : ∀ {t : StoreD}, Numb s t → Num (k + c.plan.places.length * c.plan.places.length) t := fun n => h0.numb n
 unfold command
 repeat' split
 ·exact h0
 ·unfold submit
  split
  ·exact h0
  ·split
   ·split
    ·exact h0
    ·exact hn (begins_numb _ _)
   ·split
    ·exact h0
    ·exact hn (begins_numb _ _)
 ·unfold cancel
  split
  ·exact h0
  ·exact hn (Numb.trans ⟨rfl, Ons.refl _⟩ (eval_numb _ _))
 ·unfold register
  split
  ·exact h0
  ·split
   ·exact hn (joins_numb _ _)
   ·split
    ·exact h0
    ·split
     ·split <;> exact h0
     ·exact hn (joins_numb _ _)
 ·unfold beat
  split
  ·exact h0
  ·split
   ·exact h0
   ·split
    ·exact h0
    ·split
     ·exact h0
     ·simp only
      have h1 : Numb s (c.reports.foldl (report c.node) ({ s with nodes := turn1 (fun n => n.id == c.node.id) (fun n => { n with seq := c.node.seq }) s.nodes }, false)).1 := Numb.trans ⟨rfl, Ons.refl _⟩ (reports_numb c.node c.reports ({ s with nodes := turn1 (fun n => n.id == c.node.id) (fun n => { n with seq := c.node.seq }) s.nodes }, false))
      have h2 := h1.trans (looked_numb _)
      split
      ·exact hn (h2.trans (came_numb _))
      ·exact hn h2
 ·unfold down
  split
  ·exact h0
  ·split
   ·exact h0
   ·split
    ·exact h0
    ·exact hn ((Numb.trans (t := { s with nodes := turn1 (fun n => n.id == c.node.id) (fun n => { n with up := false, epoch := wrap64 (n.epoch + 1) }) s.nodes }) ⟨rfl, Ons.refl _⟩ (lost_numb _ _)).trans (system_numb _))
 ·unfold drain
  split
  ·exact h0
  ·simp only
   have h1 : Numb s (system (s.allocs.foldl (fun t a => if a.node == c.node.id && !overB a then eval t a.job else t) { s with nodes := turn1 (fun n => n.id == c.node.id) (fun n => { n with drain := c.node.drain }) s.nodes })) :=
    (Numb.trans (t := { s with nodes := turn1 (fun n => n.id == c.node.id) (fun n => { n with drain := c.node.drain }) s.nodes }) ⟨rfl, Ons.refl _⟩ (fold_numb (fun t a => by split; exact eval_numb t a.job; exact Numb.refl t) _ _)).trans (system_numb _)
   split
   ·exact hn h1
   ·exact hn (h1.trans (came_numb _))
 ·exact plan_num h c hk
 ·unfold revert
  split
  ·exact h0
  ·split
   ·exact h0
   ·split
    ·exact h0
    ·simp only
     split
     ·exact hn (Numb.trans ⟨rfl, Ons.refl _⟩ (eval_numb _ _))
     ·split
      ·exact hn (Numb.trans ⟨rfl, Ons.refl _⟩ (eval_numb _ _))
      ·split
       ·exact h0
       ·exact hn (Numb.trans ⟨rfl, Ons.refl _⟩ (begins_numb _ _))
 ·exact h0
theorem apply_num {k : Nat} {s : StoreD} (h : Num k s) (ix : Int) (c : CmdD) (hk : k + c.plan.places.length * c.plan.places.length < 4611686018427387904) : Num (k + c.plan.places.length * c.plan.places.length) (apply s ix c).1 := by
 have h1 : Num k { s with index := ix } := h.numb ⟨rfl, Ons.refl _⟩
 have h0 : Num (k + c.plan.places.length * c.plan.places.length) { s with index := ix } := h1.more (by omega)
 unfold apply
 simp only
 split
 ·exact command_num h1 c hk
 ·split
  ·exact h0
  ·split
   ·split <;> exact h0
   ·exact (command_num h1 c hk).numb ⟨rfl, Ons.refl _⟩
theorem new_num : Num 0 new := ⟨by simp [new], by simp [new], by simp [new], by simp [new], by simp [new]⟩
end Fsm
end
end Go.Proofs.YtlpfcmnnmdhaoaaGreat
