/- An evaluator of closed calls: it runs a function's code on memory whose blocks bear names of its own, and says what any order and any capacity leads to; no program is named. Its recursions are written by the recursors: so the kernel is quick. -/
import Derived.WalkKit
import Derived.Test.YtgjabfpkbcdkcaaGreatDoorProg
import Derived.Orders
namespace Go.Proofs.YtgjabfpkbcdkcaaGreatDoor
set_option linter.unusedSimpArgs false
set_option linter.unusedVariables false
/-! ### what is forced: the kernel hands on what it has reckoned, not how -/
noncomputable def fN {β : Type} (n : Nat) (k : Nat → β) : β := Nat.rec (motive := fun _ => Unit → β) (fun _ => k 0) (fun m _ _ => k (Nat.succ m)) n ()
def fL {α β : Type} (l : List α) (k : List α → β) : β := match l with | [] => k [] | a :: m => k (a :: m)
/-! ### lists -/
noncomputable def nth {α : Type} (l : List α) : Nat → Option α :=
  List.rec (motive := fun _ => Nat → Option α) (fun _ => none) (fun a _ ih k => cond (Nat.beq k 0) (some a) (ih (Nat.sub k 1))) l
noncomputable def ln {α : Type} (l : List α) : Nat := List.rec (motive := fun _ => Nat → Nat) (fun n => n) (fun _ _ ih n => ih (Nat.succ n)) l 0
/-- the tail is forced -/
def cons {α : Type} (a : α) (l : List α) : List α := match l with | [] => [a] | b :: m => a :: b :: m
noncomputable def app {α : Type} (l m : List α) : List α := List.rec (motive := fun _ => List α) m (fun a _ ih => cons a ih) l
noncomputable def tk {α : Type} (n : Nat) (l : List α) : List α :=
  List.rec (motive := fun _ => Nat → List α) (fun _ => []) (fun a _ ih k => cond (Nat.beq k 0) [] (cons a (ih (Nat.sub k 1)))) l n
noncomputable def dr {α : Type} (n : Nat) (l : List α) : List α :=
  List.rec (motive := fun _ => Nat → List α) (fun _ => []) (fun a m ih k => cond (Nat.beq k 0) (a :: m) (ih (Nat.sub k 1))) l n
noncomputable def mp {α β : Type} (f : α → β) (l : List α) : List β := List.rec (motive := fun _ => List β) [] (fun a _ ih => cons (f a) ih) l
noncomputable def allB {α : Type} (f : α → Bool) (l : List α) : Bool := List.rec (motive := fun _ => Bool) true (fun a _ ih => cond (f a) ih false) l
/-- so many times the same list -/
noncomputable def reps {α : Type} (n : Nat) (l : List α) : List α := Nat.rec (motive := fun _ => List α → List α) (fun z => z) (fun _ ih z => app l (ih z)) n []
/-- n of a list from a place on, if there are so many -/
noncomputable def part? {α : Type} (l : List α) (off n : Nat) : Option (List α) := fL (tk n (dr off l)) fun r => cond (Nat.beq (ln r) n) (some r) none
noncomputable def inRange {α : Type} (l : List α) (k : Nat) : Bool := cond (Nat.beq k 0) true (match nth l (Nat.sub k 1) with | some _ => true | none => false)
/-- the same list with some put in, from a place on -/
noncomputable def put? {α : Type} (l : List α) (off : Nat) (vs : List α) : Option (List α) :=
  cond (inRange l (Nat.add off (ln vs))) (fL (app (tk off l) (app vs (dr (Nat.add off (ln vs)) l))) fun r => some r) none
/-! ### a tree with numbers for keys -/
inductive Tr (α : Type) where
  | e : Tr α
  | n (v : Option α) (l r : Tr α) : Tr α
noncomputable def Tr.get {α : Type} (t : Tr α) : Nat → Option α :=
  Tr.rec (motive := fun _ => Nat → Option α) (fun _ => none) (fun v _ _ hl hr k => cond (Nat.beq k 0) v (cond (Nat.beq (Nat.mod k 2) 1) (hl (Nat.div (Nat.sub k 1) 2)) (hr (Nat.div (Nat.sub k 1) 2)))) t
def Tr.nl {α : Type} (u : Option α) (l r : Tr α) : Tr α := match l with | .e => .n u .e r | .n a b c => .n u (.n a b c) r
def Tr.nr {α : Type} (u : Option α) (l r : Tr α) : Tr α := match r with | .e => .n u l .e | .n a b c => .n u l (.n a b c)
def Tr.set1 {α : Type} (v : Option α) (ih : Tr α → Nat → Tr α) (t : Tr α) (k : Nat) : Tr α :=
  match t with
  | .e => cond (Nat.beq k 0) (.n v .e .e) (cond (Nat.beq (Nat.mod k 2) 1) (Tr.nl none (ih .e (Nat.div (Nat.sub k 1) 2)) .e) (Tr.nr none .e (ih .e (Nat.div (Nat.sub k 1) 2))))
  | .n u l r => cond (Nat.beq k 0) (.n v l r) (cond (Nat.beq (Nat.mod k 2) 1) (Tr.nl u (ih l (Nat.div (Nat.sub k 1) 2)) r) (Tr.nr u l (ih r (Nat.div (Nat.sub k 1) 2))))
noncomputable def Tr.set {α : Type} (t : Tr α) (k : Nat) (v : Option α) : Tr α :=
  Nat.rec (motive := fun _ => Tr α → Nat → Tr α) (fun t _ => t) (fun _ ih t k => Tr.set1 v ih t k) (Nat.succ k) t k
/-- the tree of a function's values, to a depth -/
noncomputable def mkT {α : Type} (f : Nat → Option α) (d : Nat) : Nat → Nat → Tr α :=
  Nat.rec (motive := fun _ => Nat → Nat → Tr α) (fun _ _ => .e) (fun _ ih a b => .n (f b) (ih (Nat.mul 2 a) (Nat.add a b)) (ih (Nat.mul 2 a) (Nat.add (Nat.mul 2 a) b))) d
def fT' {α β : Type} (t : Tr α) (k : Tr α → β) : β := match t with | .e => k .e | .n v l r => k (.n v l r)
/-! ### memory -/
/-- a block of the evaluator's: cells (known ones from the block's beginning on; opn: behind them there may be more; ro: nobody writes them), a map, a channel; virt: it may not have been made yet -/
inductive AO where
  | cells (ty : TypeId) (cs : List Value) (opn ro : Bool)
  | map (es : List (Value × Value))
  | chan (cap : Nat) (buf : List Value) (s r : Nat)
  | virt (o : AO)
structure Hp where
  nx : Nat
  t : Tr AO
/-- the capacity of a row that was appended to: it is not known -/
abbrev OPEN : Nat := 1208925819614629174706176
/-- capacities below it are known -/
abbrev HALF : Nat := 604462909807314587353088
/-- v: a value; w: a value, and memory is another -/
inductive OR where
  | v (x : Value)
  | w (x : Value) (H : Hp)
  | en (f : FuncId) (args : List Value)
  | df (f : FuncId) (args captured : List Value)
  | no
noncomputable def fI {β : Type} (n : Int) (k : Int → β) : β := match n with | .ofNat m => fN m fun m => k (.ofNat m) | .negSucc m => fN m fun m => k (.negSucc m)
noncomputable def fA {β : Type} (a : Option Addr) (k : Option Addr → β) : β :=
  match a with
  | none => k none
  | some ⟨b, o, none⟩ => fN b fun b => fN o fun o => k (some ⟨b, o, none⟩)
  | some ⟨b, o, some s⟩ => k (some ⟨b, o, some s⟩)
noncomputable def fO {β : Type} (a : Option Nat) (k : Option Nat → β) : β := match a with | none => k none | some b => fN b fun b => k (some b)
noncomputable def fH {β : Type} (H : Hp) (k : Hp → β) : β := match H with | ⟨n, t⟩ => fN n fun n => fT' t fun t => k ⟨n, t⟩
/-- a value's head is forced -/
def sh {β : Type} (v : Value) (k : Value → β) : β :=
  match v with
  | .bool b => k (.bool b)
  | .int q n => k (.int q n)
  | .float q n => k (.float q n)
  | .complex q a b => k (.complex q a b)
  | .string s => k (.string s)
  | .pointer a => k (.pointer a)
  | .slice a n c => k (.slice a n c)
  | .map r => k (.map r)
  | .chan r => k (.chan r)
  | .func f a b => k (.func f a b)
  | .nilFunc => k .nilFunc
  | .iface t v => k (.iface t v)
  | .nilIface => k .nilIface
  | .agg cs => k (.agg cs)
  | .tuple cs => k (.tuple cs)
/-- a value is forced -/
noncomputable def nf {β : Type} (v : Value) (k : Value → β) : β :=
  match v with
  | .bool b => cond b (k (.bool true)) (k (.bool false))
  | .int q n => fI n fun n => k (.int q n)
  | .float q n => k (.float q n)
  | .complex q a b => k (.complex q a b)
  | .string ⟨⟨l⟩⟩ => fL l fun l => k (.string ⟨⟨l⟩⟩)
  | .pointer a => fA a fun a => k (.pointer a)
  | .slice a n c => fA a fun a => fN n fun n => fN c fun c => k (.slice a n c)
  | .map r => fO r fun r => k (.map r)
  | .chan r => fO r fun r => k (.chan r)
  | .func f ⟨a⟩ ⟨b⟩ => fL a fun a => fL b fun b => k (.func f ⟨a⟩ ⟨b⟩)
  | .nilFunc => k .nilFunc
  | .iface t v => k (.iface t v)
  | .nilIface => k .nilIface
  | .agg ⟨l⟩ => fL l fun l => k (.agg ⟨l⟩)
  | .tuple ⟨l⟩ => fL l fun l => k (.tuple ⟨l⟩)
/-- the cells of a value -/
def cellsL (v : Value) : List Value := match v with | .agg ⟨l⟩ => l | v => [v]
/-- values, each forced -/
noncomputable def mpV {α : Type} (f : α → Value) (l : List α) : List Value := List.rec (motive := fun _ => List Value) [] (fun a _ ih => sh (f a) fun v => cons v ih) l
/-- no address stands in the value (to a depth) -/
noncomputable def afreeN (d : Nat) : Value → Bool :=
  Nat.rec (motive := fun _ => Value → Bool) (fun _ => false) (fun _ ih v =>
    match v with
    | .bool _ | .int _ _ | .float _ _ | .complex _ _ _ | .string _ | .nilFunc | .nilIface => true
    | .pointer a => a.isNone
    | .slice a n c => a.isNone && Nat.blt c HALF && Nat.ble n c
    | .map r => r.isNone
    | .chan r => r.isNone
    | .func _ _ _ => false
    | .iface _ v => ih v
    | .agg cs => allB ih cs.toList
    | .tuple cs => allB ih cs.toList) d
noncomputable def afree (v : Value) : Bool := afreeN 8 v
def opv1 (o : Option Value) : Value := match o with | some v => v | none => undef
noncomputable def opv (F : Tr Value) (x : Operand) : Value :=
  match x with
  | .tmp t => opv1 (F.get t)
  | .const v => v
  | .global g => .pointer (some ⟨g, 0, none⟩)
  | .func f => .func (.func f) #[] #[]
/-- what an operation that asks nothing but the program yields -/
noncomputable def pureN {α : Type} (P : Program) (n : Nat) : Sem α → Option α :=
  Nat.rec (motive := fun _ => Sem α → Option α) (fun _ => none) (fun _ ih s =>
    match s with
    | .pure a => some a
    | .program k => ih (k P)
    | .mark _ k => ih k
    | _ => none) n
noncomputable def pureOf {α : Type} (P : Program) (s : Sem α) : Option α := pureN P 64 s
def one1 (v : Value) : Bool :=
  match v with
  | .agg _ | .tuple _ => false
  | _ => true
noncomputable def all1 (l : List Value) : Bool := allB one1 l
noncomputable def Hp.new (H : Hp) (o : AO) : Hp := match H with | ⟨n, t⟩ => ⟨Nat.succ n, t.set n (some o)⟩
noncomputable def Hp.put (H : Hp) (k : Nat) (o : AO) : Hp := match H with | ⟨n, t⟩ => ⟨n, t.set k (some o)⟩
noncomputable def Hp.del (H : Hp) (k : Nat) : Hp := match H with | ⟨n, t⟩ => ⟨n, t.set k none⟩
def ofO (o : Option Value) : OR := match o with | some v => .v v | none => .no
def ofH (o : Option Hp) : OR := match o with | some H => .w undef H | none => .no
noncomputable def ofF (o : Option Value) : OR := match o with | some v => cond (afree v) (.v v) .no | none => .no
/-- the cells of a block -/
noncomputable def cellsOf (H : Hp) (id : Nat) : Option (List Value) :=
  match H.t.get id with
  | some (.cells _ cs _ _) => some cs
  | _ => none
/-- the first n elements of a row, or of a string, as cells -/
noncomputable def firstOf (H : Hp) (sz n : Nat) (x : Value) : Option (List Value) :=
  match x with
  | .slice (some ⟨id, off, none⟩) _ _ =>
    match cellsOf H id with
    | some cs => part? cs off (Nat.mul n sz)
    | _ => none
  | .slice none _ _ => cond (Nat.beq n 0) (some []) none
  | .string s => fL (mp (fun b => .int .u8 b.toNat) (tk n s.data.toList)) fun l => some l
  | _ => none
def keyable (d : TypeDesc) (k : Value) : Bool :=
  match d, k with
  | .int _, .int _ _ => true
  | .string, .string _ => true
  | _, _ => false
noncomputable def mfind (kind : TypeDesc) (k : Value) (es : List (Value × Value)) : Nat → Option (Option (Nat × Value)) :=
  List.rec (motive := fun _ => Nat → Option (Option (Nat × Value))) (fun _ => some none) (fun e _ ih i =>
    match Instr.sameNow kind k e.1 with
    | some true => some (some (i, e.2))
    | some false => ih (Nat.succ i)
    | none => none) es
/-- the cells of a struct or an array, filled -/
noncomputable def fillL (F : Tr Value) (place : Nat → Option (Nat × Nat)) (ps : List (Nat × Operand)) : List Value → Option (List Value) :=
  List.rec (motive := fun _ => List Value → Option (List Value)) (fun cs => some cs) (fun p _ ih cs =>
    match place p.1 with
    | none => none
    | some (off, size) => sh (opv F p.2) fun v => cond (Nat.beq (ln (cellsL v)) size) (match put? cs off (cellsL v) with | some cs' => ih cs' | none => none) none) ps
structure Ty where
  d : TypeDesc
  i : TypeInfo
def isAggD (d : TypeDesc) : Bool :=
  match d with
  | .struct _ | .array _ _ => true
  | _ => false
def natOf (v : Value) : Option Nat :=
  match v with
  | .int _ (.ofNat n) => some n
  | _ => none
noncomputable def lenOf' (x : Value) : Option Nat := match x with | .slice _ n _ => some n | .string b => some (ln b.data.toList) | _ => none
def byteOf' (v : Value) : Option UInt8 := match v with | .int .u8 (.ofNat m) => cond (Nat.blt m 256) (some (UInt8.ofNat m)) none | _ => none
/-- the bytes of a row as a string -/
noncomputable def bytesE (l : List Value) : Option (List UInt8) :=
  List.rec (motive := fun _ => Option (List UInt8)) (some []) (fun v _ ih => match byteOf' v, ih with | some b, some bs => some (b :: bs) | _, _ => none) l
/-! ### the program -/
noncomputable abbrev PP : Program := Tryz.prog
/-- what is known of a type -/
noncomputable def infoAt (l : List TypeInfo) (t : Nat) : Option Ty :=
  match nth l t with
  | some i => (match i.desc with
    | .named _ u => (match nth l u with | some j => some ⟨j.desc, i⟩ | none => none)
    | d => some ⟨d, i⟩)
  | none => none
noncomputable def tT : Tr Ty := mkT (infoAt PP.types.toList) 10 1 0
noncomputable def tabE (t : Nat) : Option Ty := tT.get t
noncomputable def fT : Tr Func := mkT (nth PP.funcs.toList) 10 1 0
section
noncomputable def partAt? (d : TypeDesc) (size : Nat) (cs : List Value) (off : Nat) : Option Value :=
  cond (isAggD d) (match part? cs off size with | some l => some (.agg ⟨l⟩) | none => none) (nth cs off)
noncomputable def loadE (t : TypeId) (p : Value) (H : Hp) : Option Value :=
  match p with
  | .pointer (some ⟨id, off, none⟩) =>
    match cellsOf H id, tabE t with
    | some cs, some ⟨d, i⟩ => partAt? d i.size cs off
    | _, _ => none
  | _ => none
/-- cells are written into a block -/
noncomputable def writeE (H : Hp) (id off : Nat) (vs : List Value) : Option Hp :=
  match H.t.get id with
  | some (.cells ty cs opn false) =>
    cond (all1 vs) (match put? cs off vs with
      | some cs' => some (H.put id (.cells ty cs' opn false))
      | none => none) none
  | _ => none
noncomputable def storeE (t : TypeId) (p x : Value) (H : Hp) : Option Hp :=
  match p with
  | .pointer (some ⟨id, off, none⟩) =>
    match tabE t with
    | some ⟨_, i⟩ => sh x fun x => cond (Nat.beq (ln (cellsL x)) i.size) (writeE H id off (cellsL x)) none
    | none => none
  | _ => none
/-- a bound of a slice expression -/
def bnd (y : Nat) (x : Option Value) (z : Nat) : Option Nat :=
  match x with
  | none => some z
  | some (.int _ (.ofNat n)) => cond (Nat.ble n y) (some n) none
  | _ => none
noncomputable def sizeE (e : TypeId) : Option Nat := match tabE e with | some ⟨_, i⟩ => some i.size | none => none
def cutE (a : Option Addr) (sz l h m : Nat) : Value := .slice (if m = l then a else a.map (·.add (l * sz))) (h - l) (m - l)
noncomputable def slice3E (e : TypeId) (a : Option Addr) (len cap : Nat) (lo hi : Option Value) (m : Nat) : Option Value :=
  match cond (Nat.blt cap HALF && Nat.ble m cap && hi.isSome) (bnd m hi len) none with
  | some h => match bnd h lo 0, sizeE e with
    | some l, some sz => some (cutE a sz l h m)
    | _, _ => none
  | none => none
noncomputable def sliceS (s : List UInt8) (lo hi : Option Value) : Option Value :=
  match bnd (ln s) hi (ln s) with
  | some h => match bnd h lo 0 with
    | some l => some (.string ⟨⟨tk (Nat.sub h l) (dr l s)⟩⟩)
    | none => none
  | none => none
noncomputable def sliceL (e : TypeId) (a : Option Addr) (len cap : Nat) (lo hi : Option Value) : Option Value :=
  match bnd (cond (Nat.blt cap HALF) cap len) hi len with
  | some h => match bnd h lo 0, sizeE e with
    | some l, some sz =>
      cond (Nat.blt cap HALF) (some (cutE a sz l h cap))
        (cond (Nat.beq l 0) (some (.slice a h cap)) (cond (Nat.blt l len && Nat.ble HALF (cap - l)) (some (.slice (a.map (·.add (l * sz))) (h - l) (cap - l))) none))
    | _, _ => none
  | none => none
noncomputable def sliceA (n : Nat) (e : TypeId) (a : Addr) (lo hi : Option Value) : Option Value :=
  match cond (Nat.blt n HALF) (bnd n hi n) none with
  | some h => match bnd h lo 0, sizeE e with
    | some l, some sz => some (cutE (some a) sz l h n)
    | _, _ => none
  | none => none
noncomputable def sliceE (t : TypeId) (x : Value) (lo hi mx : Option Value) : Option Value :=
  match mx, tabE t, x with
  | some (.int _ (.ofNat m)), some ⟨.slice e, _⟩, .slice a len cap => slice3E e a len cap lo hi m
  | none, some ⟨.string, _⟩, .string ⟨⟨s⟩⟩ => sliceS s lo hi
  | none, some ⟨.slice e, _⟩, .slice a len cap => sliceL e a len cap lo hi
  | none, some ⟨.array n e, _⟩, .pointer (some a) => sliceA n e a lo hi
  | _, _, _ => none
noncomputable def eqP (e : TypeId) (a b : Addr) : Option Bool :=
  match sizeE e with
  | some sz => cond (decide (a = b) && Nat.blt 0 sz) (some true) none
  | none => none
noncomputable def eqE (t : TypeId) (x y : Value) : Option Bool :=
  match tabE t with
  | none => none
  | some ⟨d, _⟩ =>
    match d, x, y with
    | .pointer _, .pointer none, .pointer b => some b.isNone
    | .pointer _, .pointer (some _), .pointer none => some false
    | .pointer e, .pointer (some a), .pointer (some b) => eqP e a b
    | .slice _, .slice none _ _, .slice b _ _ => some b.isNone
    | .slice _, .slice (some _) _ _, .slice none _ _ => some false
    | .map _ _, .map none, .map b => some b.isNone
    | .map _ _, .map (some _), .map none => some false
    | .func _ _ _, .nilFunc, .nilFunc => some true
    | .func _ _ _, .nilFunc, .func (.func _) _ _ => some false
    | .func _ _ _, .func (.func _) _ _, .nilFunc => some false
    | .interface _, .nilIface, .iface _ _ => some false
    | .interface _, .iface _ _, .nilIface => some false
    | _, _, _ => none
noncomputable def zeroE (e : TypeId) : Option Value := match tabE e with | some ⟨_, i⟩ => (match i.zero with | some z => cond (afree z) (some z) none | none => none) | none => none
/-- so many zeros -/
noncomputable def zerosE (i : TypeInfo) (n : Nat) : Option (List Value) :=
  match i.zero with
  | some z => cond (afree z && Nat.ble n 1048576 && Nat.beq (ln (cellsL z)) i.size) (fL (reps n (cellsL z)) fun l => some l) none
  | none => none
/-- what is appended: how many elements, their cells (int: so many zeros) -/
noncomputable def newsOf (zs : Bool) (i : TypeInfo) (x : Value) (H : Hp) : Option (Nat × List Value) :=
  match zs with
  | true => match natOf x with
    | some n => match zerosE i n with
      | some l => some (n, l)
      | none => none
    | none => none
  | false => match lenOf' x with
    | some n => match firstOf H i.size n x with
      | some l => cond (Nat.beq (ln l) (Nat.mul n i.size)) (some (n, l)) none
      | none => none
    | none => none
noncomputable def appRoom (base : Option Addr) (len cap n sz : Nat) (new : List Value) (H : Hp) : OR :=
  match base with
  | some ⟨id, off, none⟩ => match writeE H id (off + len * sz) new with
    | some H' => .w (.slice (some ⟨id, off, none⟩) (len + n) cap) H'
    | none => .no
  | _ => .no
/-- a new block of cells -/
noncomputable def rowE (e : TypeId) (cs : List Value) (opn : Bool) (len cap : Nat) (H : Hp) : OR := fL cs fun cs => .w (.slice (some ⟨H.nx, 0, none⟩) len cap) (H.new (.cells e cs opn false))
noncomputable def appOpen (e : TypeId) (base : Option Addr) (len cap n sz : Nat) (new : List Value) (H : Hp) : OR :=
  match base with
  | some ⟨id, 0, none⟩ => match H.t.get id with
    | some (.cells ty cs true false) =>
      match cond (Nat.beq cap OPEN && Nat.beq ty e) (part? cs 0 (Nat.mul len sz)) none with
      | some old => fH (H.del id) fun H => rowE e (app old new) true (len + n) OPEN H
      | none => .no
    | _ => .no
  | _ => .no
noncomputable def appE (zs : Bool) (st : TypeId) (s x : Value) (H : Hp) : OR :=
  match tabE st, s with
  | some ⟨.slice e, _⟩, .slice base len cap =>
    match tabE e with
    | none => .no
    | some ⟨_, i⟩ =>
      match newsOf zs i x H with
      | none => .no
      | some (n, new) =>
        cond (Nat.beq n 0) (cond (Nat.ble i.bytes 65536) (.v (.slice base len cap)) .no)
        (cond (Nat.ble i.size 0 || !(all1 new) || Nat.blt 65536 i.bytes || Nat.blt 1048576 (len + n) || (zerosE i 0).isNone) .no
        (cond (Nat.blt cap HALF)
          (cond (Nat.ble (len + n) cap) (appRoom base len cap n i.size new H)
            (match firstOf H i.size len (.slice base len cap) with
              | some old => rowE e (app old new) true (len + n) OPEN H
              | none => .no))
          (appOpen e base len cap n i.size new H)))
  | _, _ => .no
noncomputable def copyE (st : TypeId) (d x : Value) (H : Hp) : OR :=
  match tabE st, d, lenOf' x with
  | some ⟨.slice e, _⟩, .slice base dl _, some m =>
    match sizeE e with
    | none => .no
    | some sz =>
      match firstOf H sz (Nat.min m dl) x with
      | none => .no
      | some new =>
        cond (Nat.beq (Nat.min m dl) 0) (.v (.int .i64 0))
        (match base with
          | some ⟨id, off, none⟩ => match writeE H id off new with
            | some H' => .w (.int .i64 (Nat.min m dl)) H'
            | none => .no
          | _ => .no)
  | _, _, _ => .no
noncomputable def mapOf (t : TypeId) (m : Value) (H : Hp) : Option (TypeDesc × Nat × List (Value × Value)) :=
  match tabE t, m with
  | some ⟨.map kt _, _⟩, .map (some id) =>
    match tabE kt, H.t.get id with
    | some ⟨kd, _⟩, some (.map es) => some (kd, id, es)
    | _, _ => none
  | _, _ => none
noncomputable def setNth {α : Type} (l : List α) (i : Nat) (x : α) : List α := app (tk i l) (cons x (dr (Nat.succ i) l))
noncomputable def delNth {α : Type} (l : List α) (i : Nat) : List α := app (tk i l) (dr (Nat.succ i) l)
noncomputable def mapPutE (t : TypeId) (m k x : Value) (H : Hp) : Option Hp :=
  match mapOf t m H with
  | some (kd, id, es) => match cond (keyable kd k) (mfind kd k es 0) none with
    | some (some (i, _)) => sh k fun k => sh x fun x => fL (setNth es i (k, x)) fun es => some (H.put id (.map es))
    | some none => sh k fun k => sh x fun x => fL (app es [(k, x)]) fun es => some (H.put id (.map es))
    | none => none
  | none => none
def finE (ok : Bool) (v : Value) (b : Bool) : Value := cond ok (.tuple #[v, .bool b]) v
noncomputable def mapGetE (t : TypeId) (m k : Value) (ok : Bool) (H : Hp) : Option Value :=
  match tabE t with
  | some ⟨.map kt et, _⟩ =>
    match m with
    | .map none => match tabE kt with
      | some ⟨kd, _⟩ => cond (keyable kd k) (match zeroE et with | some z => some (finE ok z false) | none => none) none
      | none => none
    | _ => match mapOf t m H with
      | some (kd, _, es) => match cond (keyable kd k) (mfind kd k es 0) none with
        | some (some (_, v)) => some (finE ok v true)
        | some none => match zeroE et with | some z => some (finE ok z false) | none => none
        | none => none
      | none => none
  | _ => none
noncomputable def mapDelE (t : TypeId) (m k : Value) (H : Hp) : Option Hp :=
  match mapOf t m H with
  | some (kd, id, es) => match cond (keyable kd k) (mfind kd k es 0) none with
    | some (some (i, _)) => fL (delNth es i) fun es => some (H.put id (.map es))
    | some none => some (H.put id (.map es))
    | none => none
  | none => none
noncomputable def lenE (t : TypeId) (x : Value) (H : Hp) : Option Value :=
  match tabE t with
  | none => none
  | some ⟨d, _⟩ =>
    match d, x with
    | .string, .string ⟨⟨s⟩⟩ => some (.int .i64 (.ofNat (ln s)))
    | .slice _, .slice _ n _ => some (.int .i64 (.ofNat n))
    | .array n _, _ => some (.int .i64 (.ofNat n))
    | .map _ _, .map none => some (.int .i64 0)
    | .map _ _, .map (some id) => match H.t.get id with | some (.map es) => some (.int .i64 (.ofNat (ln es))) | _ => none
    | _, _ => none
def kid (k : IntKind) : Nat := match k with | .i8 => 0 | .i16 => 1 | .i32 => 2 | .i64 => 3 | .u8 => 4 | .u16 => 5 | .u32 => 6 | .u64 => 7
/-- natural numbers below it are of the kind -/
def lim (k : IntKind) : Nat := match k with | .i8 => 128 | .i16 => 32768 | .i32 => 2147483648 | .i64 => 9223372036854775808 | .u8 => 256 | .u16 => 65536 | .u32 => 4294967296 | .u64 => 18446744073709551616
def natV (k : IntKind) (n : Nat) : Option Value := cond (Nat.blt n (lim k)) (some (.int k (.ofNat n))) none
noncomputable def u8E (e : TypeId) : Bool := match tabE e with | some ⟨.int .u8, _⟩ => true | _ => false
noncomputable def convE (src dst : TypeId) (x : Value) (H : Hp) : OR :=
  match tabE src, tabE dst with
  | some ⟨sd, _⟩, some ⟨dd, _⟩ =>
    match sd, dd, x with
    | .int _, .int k, .int _ (.ofNat n) => (match natV k n with | some v => .v v | none => .v (.int k (k.wrap (.ofNat n))))
    | .int _, .int k, .int _ (.negSucc n) => .v (.int k (k.wrap (.negSucc n)))
    | .string, .slice e, .string ⟨⟨s⟩⟩ => cond (u8E e && Nat.beq ((sizeE e).getD 0) 1) (rowE e (mp (fun b => .int .u8 b.toNat) s) true (ln s) OPEN H) .no
    | .slice e, .string, .slice a n c =>
      match cond (u8E e) (firstOf H 1 n (.slice a n c)) none with
      | some l => match bytesE l with
        | some s => .v (.string ⟨⟨s⟩⟩)
        | none => .no
      | none => .no
    | .pointer e, .unsafePointer, .pointer (some ⟨id, off, none⟩) => match cellsOf H id, sizeE e with
      | some cs, some sz => cond (Nat.blt off (ln cs) && Nat.blt 0 sz) (.v (.pointer (some ⟨id, off, none⟩))) .no
      | _, _ => .no
    | .unsafePointer, .pointer u, .pointer (some ⟨id, 0, none⟩) => match H.t.get id, sizeE u with
      | some (.cells ty cs false _), some _ => cond (liesAt PP PP.depth ty (ln cs / PP.cellsOf ty) 0 u 1) (.v (.pointer (some ⟨id, 0, none⟩))) .no
      | _, _ => .no
    | _, _, _ => cond (afree x) (ofF (pureOf PP (convert src dst x))) .no
  | _, _ => .no
noncomputable def ustrE (ts : List TypeId) (x n : Value) (H : Hp) : OR :=
  match ts, x, n with
  | [pt, _], .pointer (some ⟨id, 0, none⟩), .int .i64 (.ofNat n) => match H.t.get id, tabE pt with
    | some (.cells ty cs opn _), some ⟨.pointer e, _⟩ => match cond (Nat.beq ty e && Nat.beq ((sizeE ty).getD 0) 1 && Nat.blt 0 n && Nat.ble n 1048576) (part? cs 0 n) none with
      | some l => match bytesE l with
        | some s => .w (.string ⟨⟨s⟩⟩) (H.put id (.cells ty cs opn true))
        | none => .no
      | none => .no
    | _, _ => .no
  | [_, _], .pointer none, .int .i64 0 => .v (.string ⟨⟨[]⟩⟩)
  | _, _, _ => .no
noncomputable def clearE (st : TypeId) (x : Value) (H : Hp) : OR :=
  match tabE st, x with
  | some ⟨.slice e, _⟩, .slice (some ⟨id, off, none⟩) n _ => match tabE e with
    | some ⟨_, i⟩ => match cond (Nat.blt 0 n) (zerosE i n) none with
      | some l => match writeE H id off l with | some H' => .w (.tuple #[]) H' | none => .no
      | none => .no
    | none => .no
  | some ⟨.map _ _, _⟩, .map (some id) => match H.t.get id with
    | some (.map _) => .w (.tuple #[]) (H.put id (.map []))
    | _ => .no
  | _, _ => .no
/-- is the second argument of append a number of zeros? -/
def zsOf (d : TypeDesc) : Option Bool := match d with | .int _ => some true | .slice _ => some false | .string => some false | _ => none
noncomputable def builtinE (b : Builtin) (ts : List TypeId) (ty : TypeId) (args : List Value) (H : Hp) : OR :=
  match b, ts, args with
  | .append, st :: xt :: _, [s, x] => (match tabE xt with | some ⟨d, _⟩ => (match zsOf d with | some zs => appE zs st s x H | none => .no) | none => .no)
  | .copy, st :: _, [d, x] => copyE st d x H
  | .len, st :: _, [x] => ofO (lenE st x H)
  | .cap, st :: _, [.slice _ _ c] => (match tabE st with | some ⟨.slice _, _⟩ => cond (Nat.blt c HALF) (.v (.int .i64 (.ofNat c))) .no | _ => .no)
  | .unsafeSliceData, _, [.slice (some a) n c] => cond (Nat.blt 0 n && Nat.ble n c) (.v (.pointer (some a))) .no
  | .unsafeSliceData, _, [.slice none _ _] => .v (.pointer none)
  | .unsafeString, ts, [x, n] => ustrE ts x n H
  | .min, _, _ => cond (allB afree args) (ofF (pureOf PP (Builtin.min_ ⟨ts⟩ ty ⟨args⟩))) .no
  | .max, _, _ => cond (allB afree args) (ofF (pureOf PP (Builtin.max_ ⟨ts⟩ ty ⟨args⟩))) .no
  | .clear, st :: _, [x] => clearE st x H
  | .delete, st :: _, [m, k] => (match mapDelE st m k H with | some H' => .w (.tuple #[]) H' | none => .no)
  | _, _, _ => .no
/-- an operation that makes a block out of its operands: the block, and what it yields -/
noncomputable def buildSliceE (F : Tr Value) (t : TypeId) (len : Nat) (parts : List (Nat × Operand)) : Option (AO × (Nat → Value)) :=
  match tabE t with
  | some ⟨.slice e, _⟩ => match tabE e with
    | some ⟨_, i⟩ => match zerosE i len with
      | some z => match cond (Nat.ble (Nat.mul len i.size) 16777216) (fillL F (fun k => some (k * i.size, i.size)) parts z) none with
        | some l => some (.cells e l false false, fun id => .slice (some ⟨id, 0, none⟩) len len)
        | none => none
      | none => none
    | none => none
  | _ => none
noncomputable def makeSliceE (t : TypeId) (l c : Value) : Option (AO × (Nat → Value)) :=
  match tabE t, natOf l, natOf c with
  | some ⟨.slice e, _⟩, some l, some c => match tabE e with
    | some ⟨_, i⟩ => match cond (Nat.ble l c && Nat.ble i.bytes 65536) (zerosE i c) none with
      | some z => some (.cells e z false false, fun id => .slice (some ⟨id, 0, none⟩) l c)
      | none => none
    | none => none
  | _, _, _ => none
noncomputable def makeChanE (t : TypeId) (c : Value) : Option (AO × (Nat → Value)) :=
  match tabE t, natOf c with
  | some ⟨.chan _ e, _⟩, some n => match tabE e with
    | some ⟨_, i⟩ => cond (Nat.ble n 65536 && Nat.ble i.bytes 65536) (some (.chan n [] 0 0, fun id => .chan (some id))) none
    | none => none
  | _, _ => none
noncomputable def makeMapE (t : TypeId) (r : Option Value) : Option (AO × (Nat → Value)) :=
  match r with
  | none => some (.map [], fun id => .map (some id))
  | some x => match tabE t, x with
    | some ⟨.map _ _, _⟩, .int _ _ => some (.map [], fun id => .map (some id))
    | _, _ => none
noncomputable def boxE (e : TypeId) (x : Value) : Option (AO × (Nat → Value)) := sh x fun x => some (.cells e (cellsL x) false false, fun id => .pointer (some ⟨id, 0, none⟩))
noncomputable def evalNew (F : Tr Value) (o : Op) : Option (AO × (Nat → Value)) :=
  match o with
  | .alloc e => match zeroE e with
    | some z => boxE e z
    | none => none
  | .box e x => boxE e (opv F x)
  | .buildSlice t len parts => buildSliceE F t len parts.toList
  | .makeMap t r => makeMapE t (r.map (opv F))
  | .makeChan t c => makeChanE t (opv F c)
  | .makeSlice t l c => makeSliceE t (opv F l) (opv F c)
  | _ => none
def newOp (o : Op) : Bool :=
  match o with
  | .alloc _ | .box .. | .buildSlice .. | .makeMap .. | .makeSlice .. | .makeChan .. => true
  | _ => false
noncomputable def ofN (o : Option (AO × (Nat → Value))) (H : Hp) : OR := match o with | some (ob, mk) => .w (mk H.nx) (H.new ob) | none => .no
def pickE (c a b : Value) : OR := match c with | .bool t => .v (cond t a b) | _ => .no
noncomputable def buildE (F : Tr Value) (t : TypeId) (parts : List (Nat × Operand)) : Option Value :=
  match tabE t, zeroE t with
  | some ⟨.struct fs, _⟩, some z => match cond (allB (fun f => (sizeE f.type).isSome) fs.toList) (fillL F (fun k => match nth fs.toList k with | some f => (match sizeE f.type with | some sz => some (f.offset, sz) | none => none) | none => none) parts (cellsL z)) none with
    | some l => some (.agg ⟨l⟩)
    | none => none
  | some ⟨.array _ e, _⟩, some z => match sizeE e with
    | some sz => match fillL F (fun k => some (k * sz, sz)) parts (cellsL z) with
      | some l => some (.agg ⟨l⟩)
      | none => none
    | none => none
  | _, _ => none
def nilE (x : Value) : OR :=
  match x with
  | .pointer (some a) => .v (.pointer (some a))
  | .func (.func f) a b => .v (.func (.func f) a b)
  | .iface t v => .v (.iface t v)
  | _ => .no
/-- an operator on two natural numbers of one kind, where nothing wraps -/
def natE (op : BinOp) (k : IntKind) (a b : Nat) : Option Value :=
  match op with
  | .add => natV k (Nat.add a b)
  | .sub => cond (Nat.ble b a) (natV k (Nat.sub a b)) none
  | .mul => natV k (Nat.mul a b)
  | .quo => cond (Nat.beq b 0) none (natV k (Nat.div a b))
  | .rem => cond (Nat.beq b 0) none (natV k (Nat.mod a b))
  | .and => cond (Nat.blt a (lim k) && Nat.blt b (lim k)) (some (.int k (.ofNat (Nat.land a b)))) none
  | .or => cond (Nat.blt a (lim k) && Nat.blt b (lim k)) (some (.int k (.ofNat (Nat.lor a b)))) none
  | .xor => cond (Nat.blt a (lim k) && Nat.blt b (lim k)) (some (.int k (.ofNat (Nat.xor a b)))) none
  | .eql => some (.bool (Nat.beq a b))
  | .neq => some (.bool (!(Nat.beq a b)))
  | .lss => some (.bool (Nat.blt a b))
  | .leq => some (.bool (Nat.ble a b))
  | .gtr => some (.bool (Nat.blt b a))
  | .geq => some (.bool (Nat.ble b a))
  | _ => none
def fastE (op : BinOp) (k j : IntKind) (a b : Int) : Option Value :=
  match a, b with
  | .ofNat m, .ofNat n => (match op with
    | .shr => cond (Nat.blt m (lim k)) (some (.int k (.ofNat (Nat.shiftRight m n)))) none
    | .shl => cond (Nat.ble n 64) (natV k (Nat.shiftLeft m n)) none
    | op => cond (Nat.beq (kid k) (kid j)) (natE op k m n) none)
  | _, _ => none
noncomputable def eqB (l : List UInt8) : List UInt8 → Bool :=
  List.rec (motive := fun _ => List UInt8 → Bool) (fun m => match m with | [] => true | _ => false) (fun a _ ih m => match m with | b :: m => cond (Nat.beq a.toNat b.toNat) (ih m) false | [] => false) l
/-- an operator on two strings -/
noncomputable def strE (op : BinOp) (a b : List UInt8) : Option Value :=
  match op with
  | .add => cond (Nat.ble (Nat.add (ln a) (ln b)) 1048576) (some (.string ⟨⟨app a b⟩⟩)) none
  | .eql => some (.bool (eqB a b))
  | .neq => some (.bool (!(eqB a b)))
  | _ => none
noncomputable def binF (op : BinOp) (t : TypeId) (ox oy : Operand) (x y : Value) : OR :=
  match pureOf PP (eqGuard op t ox oy x y) with
  | some _ => ofF (pureOf PP (binOp op t x y))
  | none => .no
noncomputable def binQ (op : BinOp) (t : TypeId) (x y : Value) : OR :=
  match op, eqE t x y with
  | .eql, some b => .v (.bool b)
  | .neq, some b => .v (.bool !b)
  | _, _ => .no
noncomputable def binG (op : BinOp) (t : TypeId) (ox oy : Operand) (x y : Value) : OR := cond (afree x && afree y) (binF op t ox oy x y) (binQ op t x y)
noncomputable def binE (op : BinOp) (t : TypeId) (ox oy : Operand) (x y : Value) : OR :=
  match x, y with
  | .int k a, .int j b => (match fastE op k j a b with | some v => .v v | none => binF op t ox oy (.int k a) (.int j b))
  | .string ⟨⟨a⟩⟩, .string ⟨⟨b⟩⟩ => (match strE op a b with | some v => .v v | none => binF op t ox oy (.string ⟨⟨a⟩⟩) (.string ⟨⟨b⟩⟩))
  | x, y => binG op t ox oy x y
noncomputable def ifaceE (t : TypeId) (x : Value) : OR :=
  match tabE t with
  | some ⟨.interface _, _⟩ => .no
  | some _ => nf x fun x => .v (.iface t x)
  | none => .no
noncomputable def funcE (F : Tr Value) (f : Fn) (a b : List Operand) : OR :=
  match f with
  | .func f => .v (.func (.func f) ⟨mpV (opv F) a⟩ ⟨mpV (opv F) b⟩)
  | _ => .no
noncomputable def fieldAddrE (s : TypeId) (x : Value) (f : Nat) : OR :=
  match x, tabE s with
  | .pointer (some a), some ⟨.struct fs, _⟩ => match nth fs.toList f with
    | some fd => match sizeE fd.type with
      | some sz => cond (Nat.ble sz 0) .no (.v (.pointer (some (a.add fd.offset))))
      | none => .no
    | none => .no
  | _, _ => .no
noncomputable def fieldE (t : TypeId) (x : Value) (f : Nat) : Option Value :=
  match x, tabE t with
  | .agg cs, some ⟨.struct fs, _⟩ => match nth fs.toList f with
    | some fd => match tabE fd.type with
      | some ⟨d, i⟩ => partAt? d i.size cs.toList fd.offset
      | none => none
    | none => none
  | _, _ => none
noncomputable def elemE (e : TypeId) (a : Addr) (len k : Nat) : OR :=
  match cond (Nat.blt k len) (sizeE e) none with
  | some sz => .v (.pointer (some (a.add (k * sz))))
  | none => .no
noncomputable def indexAddrE (t : TypeId) (x ix : Value) : OR :=
  match x, natOf ix, tabE t with
  | .slice (some a) len _, some k, some ⟨.slice e, _⟩ => elemE e a len k
  | .pointer (some a), some k, some ⟨.array len e, _⟩ => elemE e a len k
  | _, _, _ => .no
noncomputable def indexE (t : TypeId) (x ix : Value) : Option Value :=
  match x, natOf ix, tabE t with
  | .agg cs, some k, some ⟨.array len e, _⟩ => match cond (Nat.blt k len) (tabE e) none with
    | some ⟨d, i⟩ => partAt? d i.size cs.toList (k * i.size)
    | none => none
  | .string s, some k, some ⟨.string, _⟩ => match nth s.data.toList k with
    | some b => some (.int .u8 (.ofNat b.toNat))
    | none => none
  | _, _, _ => none
noncomputable def extractE (x : Value) (k : Nat) : Option Value :=
  match x with
  | .tuple vs => nth vs.toList k
  | _ => none
noncomputable def enterE (f : Value) (args : List Value) : OR :=
  match f with
  | .func (.func f) first captured => fL (app first.toList (app args captured.toList)) fun l => .en f l
  | _ => .no
noncomputable def deferE (f : Value) (args : List Value) : OR :=
  match f with
  | .func (.func f) first captured => fL (app first.toList args) fun l => fL captured.toList fun c => .df f l c
  | _ => .no
noncomputable def callOf (F : Tr Value) (c : Call) (ty : TypeId) (H : Hp) : OR :=
  match c.callee with
  | .builtin b => builtinE b c.argTypes.toList ty (mpV (opv F) c.args.toList) H
  | .value f => enterE (opv F f) (mpV (opv F) c.args.toList)
  | .invoke _ _ => .no
noncomputable def deferOf (F : Tr Value) (c : Call) : OR :=
  match c.callee with
  | .value f => deferE (opv F f) (mpV (opv F) c.args.toList)
  | _ => .no
noncomputable def unE (op : UnOp) (x : Value) : OR := cond (afree x) (ofF (pureOf PP (Op.unary op x))) .no
noncomputable def oMove (x : Operand) (_ : TypeId) (F : Tr Value) (_ : Hp) : OR := .v (opv F x)
noncomputable def oPick (c a b : Operand) (_ : TypeId) (F : Tr Value) (_ : Hp) : OR := pickE (opv F c) (opv F a) (opv F b)
noncomputable def oNew (o : Op) (F : Tr Value) (H : Hp) : OR := ofN (evalNew F o) H
noncomputable def oAlloc (e : TypeId) (_ : TypeId) (F : Tr Value) (H : Hp) : OR := oNew (.alloc e) F H
noncomputable def oBox (e : TypeId) (x : Operand) (_ : TypeId) (F : Tr Value) (H : Hp) : OR := oNew (.box e x) F H
noncomputable def oBuildSlice (t : TypeId) (n : Nat) (ps : Array (Nat × Operand)) (_ : TypeId) (F : Tr Value) (H : Hp) : OR := oNew (.buildSlice t n ps) F H
noncomputable def oMakeMap (t : TypeId) (r : Option Operand) (_ : TypeId) (F : Tr Value) (H : Hp) : OR := oNew (.makeMap t r) F H
noncomputable def oMakeChan (t : TypeId) (c : Operand) (_ : TypeId) (F : Tr Value) (H : Hp) : OR := oNew (.makeChan t c) F H
noncomputable def oMakeSlice (t : TypeId) (l c : Operand) (_ : TypeId) (F : Tr Value) (H : Hp) : OR := oNew (.makeSlice t l c) F H
noncomputable def oBuild (t : TypeId) (ps : Array (Nat × Operand)) (_ : TypeId) (F : Tr Value) (_ : Hp) : OR := ofO (buildE F t ps.toList)
noncomputable def oMapPut (t : TypeId) (m k x : Operand) (_ : TypeId) (F : Tr Value) (H : Hp) : OR := ofH (mapPutE t (opv F m) (opv F k) (opv F x) H)
noncomputable def oLoad (t : TypeId) (a : Operand) (_ : TypeId) (F : Tr Value) (H : Hp) : OR := ofO (loadE t (opv F a) H)
noncomputable def oStore (t : TypeId) (a x : Operand) (_ : TypeId) (F : Tr Value) (H : Hp) : OR := ofH (storeE t (opv F a) (opv F x) H)
noncomputable def oNil (x : Operand) (_ : TypeId) (F : Tr Value) (_ : Hp) : OR := nilE (opv F x)
noncomputable def oBin (op : BinOp) (t : TypeId) (x y : Operand) (_ : TypeId) (_ : TypeId) (F : Tr Value) (_ : Hp) : OR := binE op t x y (opv F x) (opv F y)
noncomputable def oUn (op : UnOp) (_ : TypeId) (x : Operand) (_ : TypeId) (F : Tr Value) (_ : Hp) : OR := unE op (opv F x)
noncomputable def oConv (s d : TypeId) (x : Operand) (_ : TypeId) (F : Tr Value) (H : Hp) : OR := convE s d (opv F x) H
noncomputable def oIface (t : TypeId) (x : Operand) (_ : TypeId) (F : Tr Value) (_ : Hp) : OR := ifaceE t (opv F x)
noncomputable def oFunc (f : Fn) (a b : Array Operand) (_ : TypeId) (F : Tr Value) (_ : Hp) : OR := funcE F f a.toList b.toList
noncomputable def oSlice (t : TypeId) (x : Operand) (lo hi mx : Option Operand) (_ : TypeId) (F : Tr Value) (_ : Hp) : OR := ofO (sliceE t (opv F x) (lo.map (opv F)) (hi.map (opv F)) (mx.map (opv F)))
noncomputable def oFieldAddr (s : TypeId) (x : Operand) (f : Nat) (_ : TypeId) (F : Tr Value) (_ : Hp) : OR := fieldAddrE s (opv F x) f
noncomputable def oField (t : TypeId) (x : Operand) (f : Nat) (_ : TypeId) (F : Tr Value) (_ : Hp) : OR := ofO (fieldE t (opv F x) f)
noncomputable def oIndexAddr (t : TypeId) (x ix : Operand) (_ : TypeId) (F : Tr Value) (_ : Hp) : OR := indexAddrE t (opv F x) (opv F ix)
noncomputable def oIndex (t : TypeId) (x ix : Operand) (_ : TypeId) (F : Tr Value) (_ : Hp) : OR := ofO (indexE t (opv F x) (opv F ix))
noncomputable def oLookup (t : TypeId) (x ix : Operand) (ok : Bool) (_ : TypeId) (F : Tr Value) (H : Hp) : OR := ofO (mapGetE t (opv F x) (opv F ix) ok H)
noncomputable def oExtract (t : Operand) (k : Nat) (_ : TypeId) (F : Tr Value) (_ : Hp) : OR := ofO (extractE (opv F t) k)
noncomputable def oCall (c : Call) (ty : TypeId) (F : Tr Value) (H : Hp) : OR := callOf F c ty H
noncomputable def oDefer (c : Call) (_ : TypeId) (F : Tr Value) (_ : Hp) : OR := deferOf F c
def oNo (_ : TypeId) (_ : Tr Value) (_ : Hp) : OR := .no
noncomputable def evalOp (o : Op) : TypeId → Tr Value → Hp → OR :=
  Op.rec (motive := fun _ => TypeId → Tr Value → Hp → OR) oMove oMove oPick oAlloc oBox oBuild oBuildSlice oMapPut oLoad oStore (fun _ => oNo) (fun _ => oNo) oNil oBin oUn oConv (fun _ _ => oNo) oIface oFunc oMakeMap oMakeChan oMakeSlice
    oSlice oFieldAddr oField oIndexAddr oIndex oLookup oMapPut (fun _ _ _ => oNo) (fun _ _ _ _ => oNo) (fun _ _ => oNo) (fun _ _ => oNo) (fun _ => oNo) (fun _ _ _ _ => oNo) oExtract oCall (fun _ => oNo) oDefer (fun _ => oNo) (fun _ _ => oNo) (fun _ _ _ => oNo) (fun _ _ => oNo) o
end
/-! ### regions whose order is drawn: a plan -/
/-- an operation that changes nothing: it may be taken first -/
noncomputable def quietOp (o : Op) : Bool :=
  match o with
  | .move _ | .assign _ | .pick .. | .build .. | .load .. | .nilCheck _ | .binOp .. | .unOp .. | .makeInterface .. | .makeFunc .. | .slice .. | .fieldAddr .. | .field .. | .indexAddr .. | .index .. | .lookup .. | .extract .. => true
  | .call { callee := .builtin .len, .. } => true
  | .convert _ d _ => match tabE d with
    | some ⟨.slice _, _⟩ => false
    | some _ => true
    | none => false
  | _ => false
/-- an operation and, as bits: those that it waits for, the temporaries that it sees, its own, those of the operations that it waits for -/
structure OI where
  o : Oper
  am : Nat
  lm : Nat
  dm : Nat
  ad : Nat
def bitOf (d : Option Tmp) : Nat := match d with | some d => Nat.shiftLeft 1 d | none => 0
/-- the operands of an operation -/
noncomputable def opsL (o : Op) : List Operand :=
  match o with
  | .alloc _ | .ready _ | .waits _ => []
  | .move x | .assign x | .box _ x | .load _ x | .nilCheck x | .unOp _ _ x | .convert _ _ x | .sliceToArrayPointer _ x | .makeInterface _ x
  | .makeChan _ x | .fieldAddr _ x _ | .field _ x _ | .range _ x | .next x _ | .entry x | .typeAssert x _ _ _ | .extract x _ | .panic x | .recv _ x _ => [x]
  | .pick c a b => [c, a, b]
  | .build _ ps | .buildSlice _ _ ps => mp (·.2) ps.toList
  | .store _ a v | .binOp _ _ a v _ | .makeSlice _ a v | .indexAddr _ a v | .index _ a v | .lookup _ a v _ | .mapEntry _ a v | .send a v => [a, v]
  | .makeFunc _ first captured => app first.toList captured.toList
  | .makeMap _ r => r.toList
  | .slice _ x l h m => x :: app l.toList (app h.toList m.toList)
  | .mapUpdate _ m k v | .entryStore _ m k v | .insert _ m k v => [m, k, v]
  | .call c | .go c | .defer c => app (match c.callee with | .value f => [f] | .invoke r _ => [r] | .builtin _ => []) c.args.toList
  | .select cs _ => (match cs.toList with | [s] => s.chan :: s.send.toList | _ => [])
noncomputable def bitsOf (l : List Operand) : Nat → Nat :=
  List.rec (motive := fun _ => Nat → Nat) (fun s => s) (fun x _ ih s => match x with | .tmp t => ih (Nat.lor s (Nat.shiftLeft 1 t)) | _ => ih s) l
noncomputable def afterM (l : List Edge) : Nat → Nat :=
  List.rec (motive := fun _ => Nat → Nat) (fun s => s) (fun e _ ih s => cond (Region.binds .any e) (ih (Nat.lor s (Nat.shiftLeft 1 e.on))) (ih s)) l
noncomputable def dstOf (ops : List Oper) (i : Nat) : Nat := match nth ops i with | some o => bitOf o.dst | none => 0
noncomputable def afterD (ops : List Oper) (l : List Edge) : Nat → Nat :=
  List.rec (motive := fun _ => Nat → Nat) (fun s => s) (fun e _ ih s => cond (Region.binds .any e) (ih (Nat.lor s (dstOf ops e.on))) (ih s)) l
noncomputable def infoOf (ops : List Oper) (o : Oper) : OI :=
  ⟨o, afterM o.after.toList 0, bitsOf (opsL o.op) (match o.guard with | some (g, _) => dstOf ops g | none => 0), bitOf o.dst, afterD ops o.after.toList 0⟩
noncomputable def rdyI (m : Nat) (l : List OI) : Nat → List (Nat × OI) :=
  List.rec (motive := fun _ => Nat → List (Nat × OI)) (fun _ => []) (fun c _ ih i =>
    cond (Nat.beq (Nat.land (Nat.shiftRight m i) 1) 0) (cond (Nat.beq (Nat.land c.am m) c.am) (cons (i, c) (ih (Nat.succ i))) (ih (Nat.succ i))) (ih (Nat.succ i))) l
noncomputable def ancE (acc : List Nat) (l : List Edge) : Nat → Nat :=
  List.rec (motive := fun _ => Nat → Nat) (fun s => s) (fun e _ ih s => cond (Region.binds .any e) (ih (Nat.lor s (Nat.lor (Nat.shiftLeft 1 e.on) (match nth acc e.on with | some a => a | none => 0)))) (ih s)) l
/-- of each operation: those that must have come before it (as bits) -/
noncomputable def ancL (l : List Oper) : List Nat → List Nat :=
  List.rec (motive := fun _ => List Nat → List Nat) (fun acc => acc) (fun o _ ih acc => ih (app acc [ancE acc o.after.toList 0])) l
noncomputable def firstIs (p : Op → Bool) (l : List (Nat × OI)) : Option (Nat × OI) :=
  List.rec (motive := fun _ => Option (Nat × OI)) none (fun c _ ih => cond (p c.2.o.op) (some c) ih) l
/-- those of the plan that see a temporary have all come before -/
noncomputable def warOk (dm anc : Nat) (l : List (Nat × OI)) : Bool := allB (fun c => Nat.beq (Nat.land c.2.lm dm) 0 || Nat.beq (Nat.land (Nat.shiftRight anc c.1) 1) 1) l
/-- an operation against those that the plan has ahead of it (LU: what they see, DU: what they write) -/
def pairOk (c : OI) (LU DU : Nat) : Bool := Nat.beq (Nat.land (Nat.land c.lm DU) c.ad) (Nat.land c.lm DU) && Nat.beq (Nat.land c.dm DU) 0
noncomputable def nthN (l : List Nat) (i : Nat) : Nat := match nth l i with | some a => a | none => 0
def consO {α : Type} (a : α) (o : Option (List α)) : Option (List α) := match o with | some l => some (a :: l) | none => none
/-- what comes next: the operation, how (0: it is taken first; 1: it makes a block, and is taken first; 2: no other may come), and what came before it in any order -/
noncomputable def pickL (anc : List Nat) (r : List (Nat × OI)) (LU DU : Nat) (seen : List (Nat × OI)) : Option (Nat × OI × Nat × Nat) :=
  match r with
  | [(i, c)] => cond (pairOk c LU DU && (Nat.beq (Nat.land c.dm LU) 0 || warOk c.dm (nthN anc i) seen)) (some (i, c, 2, nthN anc i)) none
  | r => match firstIs quietOp r with
    | some (i, c) => cond (pairOk c LU DU && Nat.beq (Nat.land c.dm (Nat.lor LU c.lm)) 0) (some (i, c, 0, 0)) none
    | none => match firstIs newOp r with
      | some (i, c) => cond (pairOk c LU DU && Nat.beq (Nat.land c.dm (Nat.lor LU c.lm)) 0) (some (i, c, 1, 0)) none
      | none => none
noncomputable def planL (is : List OI) (anc : List Nat) (n : Nat) : Nat → Nat → Nat → List (Nat × OI) → Option (List (Nat × Nat × Nat)) :=
  Nat.rec (motive := fun _ => Nat → Nat → Nat → List (Nat × OI) → Option (List (Nat × Nat × Nat))) (fun m _ _ _ => match rdyI m is 0 with | [] => some [] | _ => none)
    (fun _ ih m LU DU seen => match rdyI m is 0 with
      | [] => some []
      | r => match pickL anc r LU DU seen with
        | some (i, c, k, a) => consO (i, k, a) (ih (Nat.lor m (Nat.shiftLeft 1 i)) (Nat.lor LU c.lm) (Nat.lor DU c.dm) ((i, c) :: seen))
        | none => none) n
noncomputable def plan (ops : List Oper) : Option (List (Nat × Nat × Nat)) :=
  planL (mp (infoOf ops) ops) (ancL ops []) (ln ops) 0 0 0 []
/-- equality of values, as far as it is seen -/
noncomputable def veqL (f : Value → Value → Bool) (l : List Value) : List Value → Bool :=
  List.rec (motive := fun _ => List Value → Bool) (fun m => match m with | [] => true | _ => false) (fun a _ ih m => match m with | b :: m => cond (f a b) (ih m) false | [] => false) l
noncomputable def veqN (d : Nat) : Value → Value → Bool :=
  Nat.rec (motive := fun _ => Value → Value → Bool) (fun _ _ => false) (fun _ ih v w =>
    match v, w with
    | .bool a, .bool b => a == b
    | .int k a, .int j b => decide (k = j) && decide (a = b)
    | .string a, .string b => decide (a.data.toList = b.data.toList)
    | .pointer a, .pointer b => decide (a = b)
    | .slice a n c, .slice b m d => decide (a = b) && Nat.beq n m && Nat.beq c d
    | .map a, .map b => decide (a = b)
    | .chan a, .chan b => decide (a = b)
    | .nilFunc, .nilFunc => true
    | .nilIface, .nilIface => true
    | .iface t v, .iface u w => Nat.beq t u && ih v w
    | .func f a b, .func g c d => decide (f = g) && veqL ih a.toList c.toList && veqL ih b.toList d.toList
    | .agg a, .agg b => veqL ih a.toList b.toList
    | .tuple a, .tuple b => veqL ih a.toList b.toList
    | _, _ => false) d
noncomputable def veq (v w : Value) : Bool := veqN 8 v w
/-! ### code -/
/-- a call that is deferred: the function, what it is handed, what it holds -/
abbrev Dc := FuncId × List Value × List Value
/-- a frame: how many temporaries, the temporaries, the calls that are deferred (the last one first) -/
structure Fr where
  sz : Nat
  t : Tr Value
  df : List Dc
noncomputable def Fr.put (F : Fr) (d : Option Tmp) (v : Value) : Option Fr :=
  match d, F with
  | none, F => some F
  | some d, ⟨sz, t, df⟩ => cond (Nat.blt d sz) (nf v fun v => fT' (t.set d (some v)) fun t => some ⟨sz, t, df⟩) none
noncomputable def Fr.defer (F : Fr) (d : Option Dc) : Fr := match d, F with | none, F => F | some x, ⟨sz, t, df⟩ => ⟨sz, t, x :: df⟩
inductive EX where
  | normal
  | exit (id : Nat)
  | ret
section
variable (ext : FuncId → Option (List Value → Option Value)) (call : FuncId → List Value → Hp → Option (Value × Hp))
noncomputable def yieldL (ops : List Oper) (F : Tr Value) (j : Nat) : Option Bool :=
  match nth ops j with
  | some o => match o.dst with
    | some d => match F.get d with
      | some (.bool b) => some b
      | _ => none
    | none => none
  | none => none
noncomputable def wantE (ops : List Oper) (o : Oper) (F : Tr Value) : Bool :=
  match o.guard with
  | none => true
  | some (j, want) => match yieldL ops F j with | some b => b == want | none => false
noncomputable def enE (f : FuncId) (args : List Value) (H : Hp) : Option (Value × Hp × Option Dc) :=
  match ext f with
  | some g => match g args with | some x => some (x, H, none) | none => none
  | none => match call f args H with | some (x, H') => some (x, H', none) | none => none
/-- one operation: what it yields, the memory behind it, what it defers -/
noncomputable def stepE (ops : List Oper) (o : Oper) (F : Tr Value) (H : Hp) : Option (Value × Hp × Option Dc) :=
  cond (wantE ops o F)
    (match evalOp o.op o.type F H with
    | .v x => some (x, H, none)
    | .w x H' => fH H' fun H' => some (x, H', none)
    | .en f args => enE ext call f args H
    | .df f a c => some (undef, H, some (f, a, c))
    | .no => none)
    (some (undef, H, none))
noncomputable def seqE (ops : List Oper) (l : List Oper) : Fr → Hp → Option (Fr × Hp) :=
  List.rec (motive := fun _ => Fr → Hp → Option (Fr × Hp)) (fun F H => some (F, H)) (fun o _ ih F H =>
    match stepE ext call ops o F.t H with
    | some (v, H', ds) => match (F.defer ds).put o.dst v with
      | some F' => ih F' H'
      | none => none
    | none => none) l
/-- a value that was taken is the same still -/
noncomputable def sameE (ops : List Oper) (F : Tr Value) (H : Hp) (c : Nat) : Bool :=
  match nth ops c with
  | some o => cond (wantE ops o F) (match evalOp o.op o.type F H with | .v x => (match o.dst with | some d => veq x (opv1 (F.get d)) | none => true) | _ => false) true
  | none => false
/-- what was taken, and may not have come yet, still holds -/
noncomputable def holdE (ops : List Oper) (dm : Nat) (F : Tr Value) (H : Hp) (cl : List Nat) : Bool :=
  allB (fun c => cond (Nat.beq (Nat.land (Nat.shiftRight dm c) 1) 1) true (sameE ops F H c)) cl
noncomputable def unv1 (id : Nat) (o : Option AO) (H : Hp) : Hp := match o with | some (.virt o) => H.put id o | _ => H
/-- blocks that were made ahead of their time, and have been made in any order by now -/
noncomputable def unvE (dm : Nat) (fl : List (Nat × Nat)) : Hp → Hp :=
  List.rec (motive := fun _ => Hp → Hp) (fun H => H) (fun p _ ih H => cond (Nat.beq (Nat.land (Nat.shiftRight dm p.1) 1) 1) (fH (unv1 p.2 (H.t.get p.2) H) fun H => ih H) (ih H)) fl
noncomputable def unvAll (fl : List (Nat × Nat)) : Hp → Hp :=
  List.rec (motive := fun _ => Hp → Hp) (fun H => H) (fun p _ ih H => fH (unv1 p.2 (H.t.get p.2) H) fun H => ih H) fl
/-- one operation of a plan: what is known, the frame, the memory behind it -/
structure St where
  dm : Nat
  cl : List Nat
  fl : List (Nat × Nat)
  F : Fr
  H : Hp
noncomputable def take0 (o : Oper) (i : Nat) (s : St) : Option St :=
  match s with
  | ⟨dm, cl, fl, F, H⟩ => match evalOp o.op o.type F.t H with
    | .v x => match F.put o.dst x with
      | some F' => some ⟨dm, i :: cl, fl, F', H⟩
      | none => none
    | _ => none
noncomputable def take1 (o : Oper) (i : Nat) (s : St) : Option St :=
  match s with
  | ⟨dm, cl, fl, F, H⟩ => match evalNew F.t o.op with
    | some (ob, mk) => match F.put o.dst (mk H.nx) with
      | some F' => fH (H.new (.virt ob)) fun H' => some ⟨dm, cl, (i, H.nx) :: fl, F', H'⟩
      | none => none
    | none => none
noncomputable def take2 (ops : List Oper) (o : Oper) (anc : Nat) (s : St) : Option St :=
  match s with
  | ⟨dm, cl, fl, F, H⟩ => fN (Nat.lor dm anc) fun dm => match stepE ext call ops o F.t (unvE dm fl H) with
    | some (v, H', ds) => match (F.defer ds).put o.dst v with
      | some F' => cond (quietOp o.op || holdE ops dm F'.t H' cl) (some ⟨dm, cl, fl, F', H'⟩) none
      | none => none
    | none => none
noncomputable def takeE (ops : List Oper) (i kind anc : Nat) (s : St) : Option St :=
  match nth ops i with
  | none => none
  | some o => cond (wantE ops o s.F.t)
    (match kind with
    | 0 => take0 o i s
    | 1 => take1 o i s
    | _ => take2 ext call ops o anc s)
    (match s with
    | ⟨dm, cl, fl, F, H⟩ => match F.put o.dst undef with
      | some F' => some ⟨dm, cl, fl, F', H⟩
      | none => none)
noncomputable def anyE (ops : List Oper) (l : List (Nat × Nat × Nat)) : St → Option (Fr × Hp) :=
  List.rec (motive := fun _ => St → Option (Fr × Hp)) (fun s => fH (unvAll s.fl s.H) fun H => some (s.F, H)) (fun p _ ih s =>
    match takeE ext call ops p.1 p.2.1 p.2.2 s with
    | some s' => ih s'
    | none => none) l
noncomputable def loopE (body : Fr → Hp → Option (EX × Fr × Hp)) (n : Nat) : Fr → Hp → Option (EX × Fr × Hp) :=
  Nat.rec (motive := fun _ => Fr → Hp → Option (EX × Fr × Hp)) (fun _ _ => none) (fun _ ih F H =>
    match body F H with
    | some (.normal, F', H') => ih F' H'
    | r => r) n
def nrm (o : Option (Fr × Hp)) : Option (EX × Fr × Hp) := match o with | some (F, H) => some (.normal, F, H) | none => none
/-- a select of one case, with a default: what it yields, the memory behind it -/
noncomputable def selE (F : Tr Value) (H : Hp) (s : SelectCase) : Option (Value × Hp) :=
  match opv F s.chan, zeroE s.elem with
  | .chan (some c), some z => match H.t.get c with
    | some (.chan cap buf sn r) => (match s.send with
      | none => (match buf with
        | [] => some (.tuple ⟨[.int .i64 (.negSucc 0), .bool false, z]⟩, H)
        | v :: rest => some (.tuple ⟨[.int .i64 (.ofNat 0), .bool true, v]⟩, H.put c (.chan cap rest sn (Nat.succ r))))
      | some x => cond (Nat.blt (ln buf) cap) (fL (app buf [opv F x]) fun b => some (.tuple ⟨[.int .i64 (.ofNat 0), .bool false]⟩, H.put c (.chan cap b (Nat.succ sn) r))) (some (.tuple ⟨[.int .i64 (.negSucc 0), .bool false]⟩, H)))
    | _ => none
  | _, _ => none
def selOf (ops : List Oper) : Option (Option Tmp × SelectCase × List Oper) :=
  match ops with
  | [] => none
  | o :: rest => match o.op, o.guard with
    | .select ⟨[s]⟩ false, none => some (o.dst, s, rest)
    | _, _ => none
noncomputable def selR (ops : List Oper) (d : Option Tmp) (s : SelectCase) (rest : List Oper) (F : Fr) (H : Hp) : Option (Fr × Hp) :=
  match selE F.t H s with
  | some (v, H') => fH H' fun H' => match F.put d v with
    | some F' => seqE ext call ops rest F' H'
    | none => none
  | none => none
noncomputable def regionE (ops : List Oper) (d : Bool) (F : Fr) (H : Hp) : Option (EX × Fr × Hp) :=
  match d with
  | false => (match selOf ops with
    | some (d, s, rest) => nrm (selR ext call ops d s rest F H)
    | none => nrm (seqE ext call ops ops F H))
  | true => match plan ops with
    | some l => nrm (anyE ext call ops l ⟨0, [], [], F, H⟩)
    | none => none
def thenE (o : Option (EX × Fr × Hp)) (k : Fr → Hp → Option (EX × Fr × Hp)) : Option (EX × Fr × Hp) := match o with | some (.normal, F, H) => k F H | r => r
def blockE (id : Nat) (o : Option (EX × Fr × Hp)) : Option (EX × Fr × Hp) := match o with | some (.exit j, F, H) => cond (Nat.beq j id) (some (.normal, F, H)) (some (.exit j, F, H)) | r => r
def condE (c : Value) (a b : Fr → Hp → Option (EX × Fr × Hp)) (F : Fr) (H : Hp) : Option (EX × Fr × Hp) := match c with | .bool t => cond t (a F H) (b F H) | _ => none
noncomputable def codeE (c : Code) : Fr → Hp → Option (EX × Fr × Hp) :=
  Code.rec (motive := fun _ => Fr → Hp → Option (EX × Fr × Hp))
    (fun F H => some (.normal, F, H))
    (fun _ ops d F H => regionE ext call ops.toList d F H)
    (fun _ _ a b F H => thenE (a F H) b)
    (fun c _ _ a b F H => condE (opv F.t c) a b F H)
    (fun id _ a F H => blockE id (a F H))
    (fun _ a F H => loopE a 100000 F H)
    (fun _ _ _ _ _ _ _ _ => none)
    (fun id F H => some (.exit id, F, H))
    (fun _ a F H => a F H)
    (fun _ F H => some (.normal, F, H))
    (fun _ _ _ => none)
    (fun F H => some (.ret, F, H))
    (fun _ _ _ => none) c
noncomputable def resE (F : Tr Value) (H : Hp) (l : List ResultVar) : Option (List Value) :=
  List.rec (motive := fun _ => Option (List Value)) (some []) (fun r _ ih =>
    match (match r with
      | .tmp t => some (opv1 (F.get t))
      | .cell a t => loadE t (opv1 (F.get a)) H) with
    | some v => nf v fun v => consO v ih
    | none => none) l
end
noncomputable def argsF (l : List Value) : Nat → Tr Value → Tr Value :=
  List.rec (motive := fun _ => Nat → Tr Value → Tr Value) (fun _ t => t) (fun v _ ih k t => fT' (t.set k (some v)) fun t => ih (Nat.succ k) t) l
/-- the deferred calls, one behind the other -/
noncomputable def dfE (call : FuncId → List Value → Hp → Option (Value × Hp)) (l : List Dc) : Hp → Option Hp :=
  List.rec (motive := fun _ => Hp → Option Hp) (fun H => some H) (fun d _ ih H =>
    match call d.1 (app d.2.1 d.2.2) H with
    | some (_, H') => ih H'
    | none => none) l
def retE (o : Option (List Value)) (H : Hp) : Option (Value × Hp) := match o with | some [v] => some (v, H) | some vs => some (.tuple ⟨vs⟩, H) | none => none
/-- a function's body; what it defers must not defer -/
noncomputable def bodyE (ext : FuncId → Option (List Value → Option Value)) (fns : Nat → Option Func) (call dcall : FuncId → List Value → Hp → Option (Value × Hp)) (f : FuncId) (args : List Value) (H : Hp) : Option (Value × Hp) :=
  match fns f with
  | none => none
  | some fn => match fn.body with
    | none => none
    | some c => match codeE ext call c ⟨fn.ntmps, argsF args 0 .e, []⟩ H with
      | some (.exit _, _, _) => none
      | some (_, F, H') => match dfE dcall F.df H' with
        | none => none
        | some H'' => retE (resE F.t H'' fn.results.toList) H''
      | none => none
noncomputable def callE (ext : FuncId → Option (List Value → Option Value)) (fns : Nat → Option Func) (hook : FuncId → Option (List Value → Hp → Option (Value × Hp))) (n : Nat) : FuncId → List Value → Hp → Option (Value × Hp) :=
  Nat.rec (motive := fun _ => FuncId → List Value → Hp → Option (Value × Hp)) (fun _ _ _ => none) (fun _ ih f args H =>
    match hook f with
    | some h => h args H
    | none => bodyE ext fns ih (fun g a => bodyE ext fns ih (fun _ _ _ => none) g a) f args H) n
end Go.Proofs.YtgjabfpkbcdkcaaGreatDoor
