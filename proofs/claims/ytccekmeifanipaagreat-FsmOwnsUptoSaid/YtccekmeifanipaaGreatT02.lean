/- Parts of the proof: Store Keep FitL OpL Read -/
import Derived.Test.YtccekmeifanipaaGreatT01
import Derived.RangeFuncNested
import Derived.RangeFuncBound
import Derived.RangeFuncCalls
import Derived.RangeFuncLeaves
import Derived.Shelf.Abstract
import Derived.Shelf.RegionOpen
import Derived.WalkKit
import Derived.OwnWalkIn
import Derived.TacticsInMore
import Derived.LoopNIn
import Derived.LoopIn
import Derived.Maps.OwnIn
import Derived.OrdersIn
import Derived.OrdersHeld
import Derived.BigQuiet
import Derived.Test.YtccekmeifanipaaGreatRows
import Derived.ProofKit
import Derived.Deep.Slices
import Derived.JoinedCond
import Derived.Deep.CondSized
namespace Go.Proofs.YtccekmeifanipaaGreat
set_option linter.unusedVariables false
set_option linter.unusedSimpArgs false
set_option linter.unusedSectionVars false
section
open Go.RowKit
structure Cg where
 cpu:Int
 mem:Int
deriving DecidableEq
structure Ao where
 count:Int
 ask:Cg
deriving DecidableEq
structure Aq where
 id:Int
 ty:Int
 prio:Int
 par:Int
 groups:List Ao
 ver:Int
 stopped:Bool
deriving DecidableEq
structure NodD where
 id:Int
 cap:Cg
 up:Bool
 drain:Bool
 boot:Int
 epoch:Int
 seq:Int
deriving DecidableEq
structure Ac where
 id:Int
 job:Int
 ver:Int
 group:Int
 index:Int
 node:Int
 epoch:Int
 ask:Cg
 stop:Bool
 state:Int
deriving DecidableEq
structure EvalD where
 job:Int
 prio:Int
 state:Int
 index:Int
deriving DecidableEq
structure DepD where
 job:Int
 ver:Int
 state:Int
 index:Int
deriving DecidableEq
structure AQ where
 code:Int
 value:Int
 allocs:List Ac
deriving DecidableEq
structure Co where
 client:Int
 req:Int
 answer:AQ
deriving DecidableEq
structure Ab where
 index:Int
 next:Int
 jobs:List Aq
 stable:List Aq
 nodes:List NodD
 allocs:List Ac
 evals:List EvalD
 deploys:List DepD
 seen:List Co
deriving DecidableEq
def Ao.cells (x:Ao):List Value:=[.int .i64 x.count,.int .i64 x.ask.cpu,.int .i64 x.ask.mem]
def NodD.cells (x:NodD):List Value:=[.int .i64 x.id,.int .i64 x.cap.cpu,.int .i64 x.cap.mem,.bool x.up,.bool x.drain,.int .i64 x.boot,.int .i64 x.epoch,.int .i64 x.seq]
def Ac.cells (x:Ac):List Value:=[.int .i64 x.id,.int .i64 x.job,.int .i64 x.ver,.int .i64 x.group,.int .i64 x.index,.int .i64 x.node,.int .i64 x.epoch,.int .i64 x.ask.cpu,.int .i64 x.ask.mem,.bool x.stop,.int .i64 x.state]
def EvalD.cells (x:EvalD):List Value:=[.int .i64 x.job,.int .i64 x.prio,.int .i64 x.state,.int .i64 x.index]
def DepD.cells (x:DepD):List Value:=[.int .i64 x.job,.int .i64 x.ver,.int .i64 x.state,.int .i64 x.index]
abbrev JobV:=Aq × Value
abbrev SeenV:=Co × Value
def JobV.cells (x:JobV):List Value:=[.int .i64 x.1.id,.int .i64 x.1.ty,.int .i64 x.1.prio,.int .i64 x.1.par,x.2,.int .i64 x.1.ver,.bool x.1.stopped]
def SeenV.cells (x:SeenV):List Value:=[.int .i64 x.1.client,.int .i64 x.1.req,.int .i64 x.1.answer.code,.int .i64 x.1.answer.value,x.2]
def CO {α:Type} (p:α→Bool) (l:List α):Int:=match l.findIdx? p with|some i=>(i:Int)|none=>-1
section
variable {α:Type} {p:α→Bool} {l:List α}
theorem Dz {k:Nat} {x:α} (hno:∀ j < k,∀ y,l[j]? = some y→p y=false) (hx:l[k]? = some x) (hp:p x=true):CO p l=k:=by
 obtain ⟨hk,rfl⟩:=List.getElem?_eq_some_iff.1 hx
 have:l.findIdx? p=some k:=by
  rw [List.findIdx?_eq_some_iff_getElem]
  refine ⟨hk,hp,fun j hj=>?_⟩
  have:=hno j hj _ (List.getElem?_eq_getElem (by omega))
  simp [this]
 simp [CO,this]
theorem CZ (hno:∀ j < l.length,∀ y,l[j]? = some y→p y=false):CO p l=-1:=by
 have:l.findIdx? p=none:=by
  rw [List.findIdx?_eq_none_iff]
  intro x hx
  obtain ⟨i,hi⟩:=List.getElem?_of_mem hx
  exact hno i (List.getElem?_eq_some_iff.1 hi).1 x hi
 simp [CO,this]
theorem AV (p:α→Bool) (l:List α):(CO p l=-1∧l.find? p=none∧∀ x∈l,p x=false) ∨ ∃ (i:Nat) (x:α),CO p l=i∧l[i]? = some x∧p x=true∧l.find? p=some x∧∀ j < i,∀ y,l[j]? = some y→p y=false:=by
 cases h:l.findIdx? p with
 | none =>
  have h':=List.findIdx?_eq_none_iff.1 h
  exact .inl ⟨by simp [CO,h],List.find?_eq_none.2 (fun x hx=>by simp [h' x hx]),h'⟩
 | some i =>
  obtain ⟨hi,hp,hno⟩:=List.findIdx?_eq_some_iff_getElem.1 h
  have hno' : ∀ j < i,∀ y,l[j]? = some y→p y=false:=fun j hj y hy=>by
   obtain ⟨hj',rfl⟩:=List.getElem?_eq_some_iff.1 hy
   simpa using hno j hj
  refine .inr ⟨i,l[i],by simp [CO,h],List.getElem?_eq_getElem hi,hp,?_,hno'⟩
  rw [List.find?_eq_some_iff_getElem]
  exact ⟨hp,i,hi,rfl,fun j hj=>by simpa using hno j hj⟩
end
theorem Eb {P:Program} {ty:TypeId} {sz:Nat} (E:Bb P ty sz) {w:World} {g:Nat} {t:TypeId} {cs:Array Value} (hg:Blk w g t cs) (hi:cs.size=sz):(loadVar ty ⟨g,0,none⟩).run P w=.ok (.agg cs) w:=by
 obtain ⟨⟨fs,hu⟩,hs⟩:=E
 have hl:(loadCells ⟨g,0,none⟩ cs.toList.length).run P w=.ok cs.toList.toArray w :=
  run_loadCells_list (P:=P) w ⟨g,0,none⟩ cs.toList (fun j v hv=>by
   have hadd:(⟨g,0,none⟩ : Addr).add j=⟨g,j,none⟩:=by unfold Addr.add;split <;> simp_all
   rw [hadd,hg.cell];simpa using hv)
 simp only [Array.length_toList,Array.toArray_toList] at hl
 obtain ⟨i,hi1,hi2⟩:=Option.map_eq_some_iff.1 hs
 simp [loadVar,isAgg,run_underlying hu,sizeOf,typeInfo,hi1,hi2,← hi,hl,Result.andThen]
section
variable {P:Program} {fn:Func} {w:World} {tmps:Array Value}
theorem results_cell {t:Tmp} {ty:TypeId} (h:fn.results=#[.cell t ty]) {sz:Nat} (E:Bb P ty sz) {g:Nat} (hp:tmps.getD t undef=.pointer (some ⟨g,0,none⟩)) {tt:TypeId} {cs:Array Value} (hg:Blk w g tt cs) (hi:cs.size=sz) :
  (results fn tmps).run P w=.ok (.agg cs) w:=by
 have:=Eb E hg hi
 simp only [Array.getD_eq_getD_getElem?] at hp
 simp [results,h,hp,asAddr,this]
theorem results_cell_tmp {t u:Tmp} {ty:TypeId} (h:fn.results=#[.cell t ty,.tmp u]) {sz:Nat} (E:Bb P ty sz) {g:Nat} (hp:tmps.getD t undef=.pointer (some ⟨g,0,none⟩)) {tt:TypeId} {cs:Array Value} (hg:Blk w g tt cs) (hi:cs.size=sz) :
  (results fn tmps).run P w=.ok (.tuple #[.agg cs,tmps.getD u undef]) w:=by
 have:=Eb E hg hi
 simp only [Array.getD_eq_getD_getElem?] at hp
 simp [results,h,hp,asAddr,this,Result.andThen]
theorem BO {t t' : Tmp} {ty ty' : TypeId} (h:fn.results=#[.cell t ty,.cell t' ty']) {sz sz' : Nat} (E:Bb P ty sz) (E' : Bb P ty' sz') {g g' : Nat} (hp:tmps.getD t undef=.pointer (some ⟨g,0,none⟩)) (hp' : tmps.getD t' undef=.pointer (some ⟨g',0,none⟩))
  {tt tt' : TypeId} {cs cs' : Array Value} (hg:Blk w g tt cs) (hi:cs.size=sz) (hg' : Blk w g' tt' cs') (hi' : cs'.size=sz') :
  (results fn tmps).run P w=.ok (.tuple #[.agg cs,.agg cs']) w:=by
 have h1:=Eb E hg hi
 have h2:=Eb E' hg' hi'
 simp only [Array.getD_eq_getD_getElem?] at hp hp'
 simp [results,h,hp,hp',asAddr,h1,h2,Result.andThen]
end
theorem Hd {sz:Nat}:∀ {ys:List (List Value)},(∀ y∈ys,y.length=sz)→ys.flatten.length=ys.length*sz
 | [],_=>by simp
 | y :: r,h=>by rw [List.flatten_cons,List.length_append,h y (List.mem_cons_self ..),Hd (fun z hz=>h z (List.mem_cons_of_mem _ hz)),List.length_cons,Nat.add_mul];omega
theorem Ic {sz:Nat}:∀ {ys:List (List Value)},(∀ y∈ys,y.length=sz)→∀ {i:Nat} {y:List Value},ys[i]? = some y→∀ {j:Nat} {u:Value},y[j]? = some u→ys.flatten[i*sz+j]? = some u
 | [],_,i,y,h,_,_,_=>by simp at h
 | z :: r,h,0,y,hy,j,u,hu=>by
  simp at hy;subst hy
  rw [List.flatten_cons,Nat.zero_mul,Nat.zero_add,List.getElem?_append_left (List.getElem?_eq_some_iff.1 hu).1];exact hu
 | z :: r,h,i+1,y,hy,j,u,hu=>by
  have:=Ic (fun z hz=>h z (List.mem_cons_of_mem _ hz)) (i:=i) (by simpa using hy) hu
  have hz:=h z (List.mem_cons_self ..)
  rw [List.flatten_cons,List.getElem?_append_right (by rw [hz,Nat.add_mul];omega),hz,show (i+1)*sz+j - sz=i*sz+j from by rw [Nat.add_mul];omega]
  exact this
theorem Sl.news {w:World} {sz m:Nat} {ad:Addr} {ys:List (List Value)} (h:Sl w sz (some ad) m ys):ys.flatten.length=m*sz∧∀ j u,ys.flatten[j]? = some u→w.cell? (ad.add j)=some u:=by
 obtain ⟨hm,hc⟩:=h
 have hlen:∀ y∈ys,y.length=sz:=fun y hy=>by
  obtain ⟨i,hi⟩:=List.getElem?_of_mem hy
  obtain ⟨_,_,_,hl,_⟩:=hc i y hi
  exact hl
 have hfl:=Hd hlen
 refine ⟨by rw [hfl,hm],fun j u hu=>?_⟩
 have hj:j < ys.length*sz:=by
  have:=(List.getElem?_eq_some_iff.1 hu).1
  omega
 have h0:0 < sz:=Nat.pos_of_ne_zero (fun e=>by subst e;omega)
 have hi:j / sz < ys.length:=(Nat.div_lt_iff_lt_mul h0).2 hj
 obtain ⟨b,off,hA,hl,hcc⟩:=hc (j / sz) ys[j / sz] (List.getElem?_eq_getElem hi)
 cases hA
 have hjm:j / sz*sz+j % sz=j:=by rw [Nat.mul_comm];exact Nat.div_add_mod j sz
 have hmod:j % sz < ys[j / sz].length:=by rw [hl];exact Nat.mod_lt _ h0
 have e1:=Ic hlen (List.getElem?_eq_getElem hi) (List.getElem?_eq_getElem hmod)
 rw [hjm,hu] at e1
 have e2:=Option.some.inj e1
 have hadd:(⟨b,off,none⟩ : Addr).add j=⟨b,off+j,none⟩:=by unfold Addr.add;split <;> simp_all
 rw [hadd,show off+j=off+j / sz*sz+j % sz by omega,e2]
 exact hcc _ _ (List.getElem?_eq_getElem hmod)
section
variable {P:Program} {w:World} {ops:Array Oper} {rest:List Oper} {o:Oper} {a:Act} {Q:Exit→Act→World→Prop}
theorem CP (hgd:o.guard=none) (s x:Operand) (t:TypeId) (ho:o.op=.call { callee:=.builtin .append,args:=#[s,x],argTypes:=#[t,t] })
  (base:Nat) {e sz:Nat} (E:Bg P t e sz) (v:Value) (n:Nat) (xs:List Value) (hs:a.eval s=v) (hown:w.ownsRow base e sz v n xs)
  (ad:Addr) (m c:Nat) (ys:List (List Value)) (hx:a.eval x=.slice (some ad) m c) (hl:Sl w sz (some ad) m ys) (h1:∀ y∈ys,y.all Value.oneCell' = true)
  (hn:n+m≤67108864) (hbase:base≤w.heap.size)
  (h:∀ v' w',w'.ownsRow base e sz v' (n+m) (xs ++ ys.flatten)→w.grownBy w' v.ownBlock→wpList P ops Q rest (a.put o.dst v') w'):wpList P ops Q (o :: rest) a w:=by
 obtain ⟨ht,i,z,hi,hz,hzs,hsz,h0,hle,hby⟩:=E
 obtain ⟨n1,n2⟩:=hl.news
 refine wpList_append_own w hgd s x t ho base e i z sz i.bytes ht hi hz hsz rfl hzs h0 v n xs hs hown ad m c ys.flatten hx n1 n2 (fun u hu=>?_) (by unfold maxLen;omega) ?_ hbase (fun v' w' r1 r2 _=>h v' w' r1 r2)
 ·obtain ⟨y,hy,huy⟩:=List.mem_flatten.1 hu
  exact List.all_eq_true.1 (h1 y hy) u huy
 have:=Nat.mul_le_mul hn hby;omega
end
end
section
open Go.RowKit
open Go.Maps (Keyed)
def rowAt (B:Nat) (W:World) (b:Nat):Prop:=∃ v,W.cell? ⟨B,0,none⟩=some v∧v.ownBlock=some b
structure Hq (S:Nat→Prop) (B:Nat) (W W' : World):Prop where
 os:W'.os=W.os
 tape:W'.tape=W.tape
 output:W'.output=W.output
 size:W.heap.size≤W'.heap.size
 cells:∀ b o,W.heap[b]? = some o→o.isCells=true→¬ S b→¬ rowAt B W b→W'.heap[b]? = some o
 row:∀ b,rowAt B W' b→rowAt B W b ∨ (W.heap.size≤b∧b < W'.heap.size)
section
variable {S:Nat→Prop} {B:Nat} {W W' W'' : World}
theorem Hq.refl (S:Nat→Prop) (B:Nat) (W:World):Hq S B W W:=⟨rfl,rfl,rfl,Nat.le_refl _,fun _ _ h _ _ _=>h,fun _ h=>.inl h⟩
theorem Hq.trans (h:Hq S B W W') (k:Hq S B W' W''):Hq S B W W'':=by
 refine ⟨k.os.trans h.os,k.tape.trans h.tape,k.output.trans h.output,Nat.le_trans h.size k.size,fun b o hb hc hs hr=>?_,fun b hb=>?_⟩
 ·refine k.cells b o (h.cells b o hb hc hs hr) hc hs (fun e=>?_)
  rcases h.row b e with e|e
  ·exact hr e
  have:=(Array.getElem?_eq_some_iff.1 hb).1;omega
 rcases k.row b hb with e|e
 ·rcases h.row b e with e|e
  ·exact .inl e
  exact .inr ⟨e.1,Nat.lt_of_lt_of_le e.2 k.size⟩
 exact .inr ⟨Nat.le_trans h.size e.1,e.2⟩
theorem Hq.blk (h:Hq S B W W') {g t:Nat} {cs:Array Value} (hg:Blk W g t cs) (hs:¬ S g) (hr:¬ rowAt B W g):Blk W' g t cs:=h.cells g _ hg rfl hs hr
theorem Hq.cell (h:Hq S B W W') {p:Addr} {v:Value} (hc:W.cell? p=some v) (hs:¬ S p.block) (hr:¬ rowAt B W p.block):W'.cell? p=some v:=by
 have hlt:=World.block_lt_of_cell? W p hc
 obtain ⟨o,ho⟩ : ∃ o,W.heap[p.block]? = some o:=⟨_,Array.getElem?_eq_getElem hlt⟩
 have hk:o.isCells=true:=by
  cases o <;> simp_all [World.cell?,Obj.isCells]
 rw [World.cell?_of_block (w:=W) (w':=W') ((h.cells _ _ ho hk hs hr).trans ho.symm)]
 exact hc
theorem Hq.sl (h:Hq S B W W') {sz n:Nat} {A:Option Addr} {xs:List (List Value)} (hl:Sl W sz A n xs) (hn:∀ b,A.map (·.block)=some b→xs ≠ []→¬ S b∧¬ rowAt B W b):Sl W' sz A n xs :=
 ⟨hl.1,fun i cs hi=>by
  obtain ⟨b,off,rfl,hl',hc⟩:=hl.2 i cs hi
  obtain ⟨h1,h2⟩:=hn b rfl (by rintro rfl;simp at hi)
  exact ⟨b,off,rfl,hl',fun j u hu=>h.cell (hc j u hu) h1 h2⟩⟩
end
section
variable {W W' : World} {row:Option Nat} {B:Nat}
theorem Ext.put {S:Nat→Prop} {l:Nat} {o o' : Obj} {W0:World} (h:Ext S W0 W) (hl:W.heap[l]? = some o) (hs:W0.heap.size≤l ∨ S l):Ext S W0 (W.putObj l o') :=
 h.grown (grownBy_putObj' W l o') (fun g e=>by cases e;exact hs)
end
section
variable {P:Program} {ops:Array Oper} {md:Region.Mode} {C:World→Prop} {l n:Nat}
end
section
variable {P:Program} {ops:Array Oper} {md:Region.Mode} {l n:Nat} {Q:Exit→Act→World→Prop}
theorem wpOp_val {i:Nat} {o:Oper} {v:Value} {a:Act} {w w' : World} {K:Act→World→Prop} (hi:ops[i]? = some o) (hw:Region.wanted o (yielded ops a.tmps)=true) (hr:(execOp a.eval o).run P w=.ok (.value v) w') (h:K (a.put o.dst v) w'):wpOp P ops Q i K a w:=by
 unfold wpOp
 simp only [hi,hw,if_true,Oper.wp,hr,Oper.upon]
 exact .inl h
theorem AC {i:Nat} {o:Oper} {a:Act} {w w' : World} {K:Act→World→Prop} (hi:ops[i]? = some o) (hw:Region.wanted o (yielded ops a.tmps)=true) (hr:(execOp a.eval o).run P w=.ok .skip w') (h:K (a.put o.dst undef) w'):wpOp P ops Q i K a w:=by
 unfold wpOp
 simp only [hi,hw,if_true,Oper.wp,hr,Oper.upon]
 exact .inl h
end
section
variable {F:Fence} {n:Nat} {P:Program} {w:World} {ops:Array Oper} {rest:List Oper} {o:Oper} {a:Act} {Q:Exit→Act→World→Prop}
section
variable {κ ν:Type} {K:TypeId} {eK:κ→Value} {eV:ν→Value} {b:Nat} {L:List (κ × ν)} [DecidableEq κ]
end
end
section
variable {P:Program} {ops:Array Oper} {Q:Exit→Act→World→Prop} {md:Region.Mode} {S:World→Prop} {fuel:Nat} {listed:Array Bool} {a:Act} {w:World}
theorem zO (i:Nat) (h1:Region.ready md ops listed=[i]) (h:wpOp P ops Q i (fun a' w'=>S w'∧wpAnyH P md ops Q S fuel (listed.setIfInBounds i true) a' w') a w):wpAnyH P md ops Q S (fuel+1) listed a w :=
 wpAnyH_all (rs:=[i]) h1 (by simp) (List.forall_mem_cons.2 ⟨h,fun _ h=>absurd h (by simp)⟩)
theorem zH {S:Nat→Prop} {id:Nat} (hf:P.follows Departure.mixedOrders=true) (h:∀ Wd,Ext S w Wd→Ext Nothing w Wd→wpAnyH P .any ops Q (fun W'=>Ext S w W') ops.size (Array.replicate ops.size false) a Wd):Code.wp P (Code.region id ops true) Q a w :=
 wp_region_held (S:=fun W'=>Ext S w W') hf (h w.drew (Ext.drew (Ext.refl _ _)) (Ext.drew (Ext.refl _ _)))
theorem zT (i:Nat) (v:Value) {oi:Oper} (h0:ops[i]? = some oi) (hk:(Region.noSelect ops && (Region.free md ops listed i && (Region.ready md ops listed).contains i))=true) (hw:Region.wanted oi (yielded ops a.tmps)=true) (hs:S w) (hq:∀ (c:List PanicEntry) (a:Act) (w:World),Q (.panic c) (a.put oi.dst v) w→Q (.panic c) a w) (hy:∀ w,S w→(execOp a.eval oi).run P w=.ok (.value v) w)
  (hn:wpAnyH P md ops Q S fuel (listed.setIfInBounds i true) (a.put oi.dst v) w):wpAnyH P md ops Q S (fuel+1) listed a w:=by
 simp only [Bool.and_eq_true] at hk
 exact wpAnyH_take h0 hk.1 hk.2.1 hk.2.2 hq (.inl ⟨hw,hy⟩) hs hn
end
theorem zV {P:Program} {ops:Array Oper} {Q:Exit→Act→World→Prop} {md:Region.Mode} {S:World→Prop} {fuel:Nat} {listed:Array Bool} {a:Act} {w:World} (i:Nat) (v:Value) {oi:Oper} (h0:ops[i]? = some oi) (hk:((Region.noSelect ops && (Region.free md ops listed i && (Region.ready md ops listed).contains i)) && Region.wanted oi (yielded ops a.tmps))=true) (hs:S w) (hq:∀ (c:List PanicEntry) (a:Act) (w:World),Q (.panic c) (a.put oi.dst v) w→Q (.panic c) a w) (hy:∀ w,S w→(execOp a.eval oi).run P w=.ok (.value v) w)
 (hn:wpAnyH P md ops Q S fuel (listed.setIfInBounds i true) (a.put oi.dst v) w):wpAnyH P md ops Q S (fuel+1) listed a w:=by
 rw [Bool.and_eq_true] at hk
 exact zT i v h0 hk.1 hk.2 hs hq hy hn
end
section
open Go.RowKit
theorem run_load_struct {P:Program} {o:Oper} {ρ:Operand→Value} {ty:TypeId} {x:Operand} {sz b off:Nat} {cs:Array Value} {w:World} (ho:o.op=.load ty x) (E:Bb P ty sz) (hx:ρ x=.pointer (some ⟨b,off,none⟩))
  (hg:∀ j u,cs.toList[j]? = some u→w.cell? ⟨b,off+j,none⟩=some u) (hi:cs.size=sz):(execOp ρ o).run P w=.ok (.value (.agg cs)) w:=by
 obtain ⟨⟨fs,hu⟩,hs⟩:=E
 have hl:(loadCells ⟨b,off,none⟩ cs.toList.length).run P w=.ok cs.toList.toArray w :=
  run_loadCells_list (P:=P) w ⟨b,off,none⟩ cs.toList (fun j v hv=>by
   have hadd:(⟨b,off,none⟩ : Addr).add j=⟨b,off+j,none⟩:=by unfold Addr.add;split <;> simp_all
   rw [hadd];exact hg j v hv)
 simp only [Array.length_toList,Array.toArray_toList] at hl
 obtain ⟨i,hi1,hi2⟩:=Option.map_eq_some_iff.1 hs
 have hlv:(loadVar ty ⟨b,off,none⟩).run P w=.ok (.agg cs) w:=by
  simp [loadVar,isAgg,run_underlying hu,sizeOf,typeInfo,hi1,hi2,← hi,hl,Result.andThen]
 unfold execOp
 simp only [ho,hx,Instr.loadAt,Instr.sureAddr,Sem.run_bind,Sem.run_pure,Result.andThen_ok,hlv]
theorem Ai {P:Program} {ops:Array Oper} {Q:Exit→Act→World→Prop} {i:Nat} {o:Oper} {a:Act} {w:World} {K:Act→World→Prop} {f:FuncId} {args:Array Value} (hi:ops[i]? = some o) (hw:Region.wanted o (yielded ops a.tmps)=true)
  (hr:(execOp a.eval o).run P w=.ok (.enter f args) w) (hc:Calls P f args w fun e w'=>∃ v,e=.returned v∧K (a.put o.dst v) w'):wpOp P ops Q i K a w:=by
 unfold wpOp
 simp only [hi,hw,if_true,Oper.wp,hr,Oper.upon]
 exact .inl (hc.mono fun e w' ⟨v,he,hk⟩=>by subst he;exact hk)
theorem FH {P:Program} {w:World} {p:Nat} {t ty:TypeId} {sz:Nat} {cs0 cs:Array Value} (hB:Blk w p t cs0) (h0:cs0.size=sz) (E:Bb P ty sz) (hcs:cs.size=sz) (h1:cs.toList.all Value.oneCell' = true) :
  ∃ w',(Instr.storeAt ty (.pointer (some ⟨p,0,none⟩)) (.agg cs)).run P w=.ok () w'∧Blk w' p t cs∧Ext (fun q=>q=p) w w':=by
 obtain ⟨⟨fs,hu⟩,hs⟩:=E
 obtain ⟨i,hi1,hi2⟩:=Option.map_eq_some_iff.1 hs
 have hst:=run_storeCells_at P p 0 t cs.toList 0 cs0 w hB (by simp;omega) (fun v hv=>List.all_eq_true.1 h1 v hv)
 have h2:(cs0.toList.take (0+0) ++ cs.toList ++ cs0.toList.drop (0+0+cs.toList.length)).toArray=cs:=by
  simp
  rw [List.drop_eq_nil_of_le (by simp;omega)];simp
 rw [h2] at hst
 refine ⟨w.setRow p cs,?_,?_,⟨rfl,rfl,rfl,by simp [World.setRow],fun k hk hn=>?_⟩⟩
 ·simp only [Instr.storeAt,Instr.sureAddr,Sem.run_bind,Sem.run_pure,Result.andThen_ok,storeVar,sizeOf,typeInfo,run_program,hi1,Value.cells,hi2,hcs]
  simp [hst]
 ·show (w.setRow p cs).heap[p]? = _
  simp only [World.setRow,Array.getElem?_modify,if_true,show w.heap[p]? = _ from hB]
  rfl
 simp only [World.setRow,Array.getElem?_modify]
 rw [if_neg (fun e=>hn e.symm)]
theorem Je {P:Program} {o:Oper} {ρ:Operand→Value} {ty:TypeId} {sz:Nat} (ho:o.op=.alloc ty) (E:KR P ty sz) (w:World):∃ z:Array Value,z.size=sz∧(execOp ρ o).run P w=.ok (.value (.pointer (some ⟨w.heap.size,0,none⟩))) (w.alloc (.cells z ty)):=by
 obtain ⟨i,z,hi,hz,hzs⟩:=E
 refine ⟨z.cells,hzs,?_⟩
 have hr:(Instr.alloc ty true (.tuple #[])).run P w=.ok (.pointer (some ⟨w.heap.size,0,none⟩)) (w.alloc (.cells z.cells ty)):=by
  simp [Instr.alloc,zeroValue,typeInfo,hi,hz,Result.andThen,newVar,newRow]
 simp only [execOp,ho]
 simp [hr,Result.andThen]
theorem Dy {P:Program} {o:Oper} {ρ:Operand→Value} {ty:TypeId} {p x:Operand} {v u:Value} {w w' : World} (ho:o.op=.store ty p x) (hp:ρ p=v) (hx:ρ x=u) (h:(Instr.storeAt ty v u).run P w=.ok () w'):(execOp ρ o).run P w=.ok .skip w':=by
 simp only [execOp,ho,hp,hx]
 simp [h,Result.andThen]
theorem Bq {P:Program} {ops:Array Oper} {Q:Exit→Act→World→Prop} {i:Nat} {o:Oper} {a:Act} {w:World} {K:Act→World→Prop} {t ty:TypeId} {sz p:Nat} {x y:Operand} {cs0 cs:Array Value} (hi:ops[i]? = some o) (hw:Region.wanted o (yielded ops a.tmps)=true) (ho:o.op=.store ty x y)
  (hp:a.eval x=.pointer (some ⟨p,0,none⟩)) (hx:a.eval y=.agg cs) (hB:Blk w p t cs0) (h0:cs0.size=sz) (E:Bb P ty sz) (hcs:cs.size=sz) (h1:cs.toList.all Value.oneCell' = true)
  (h:∀ w',Blk w' p t cs→Ext (fun q=>q=p) w w'→K (a.put o.dst undef) w'):wpOp P ops Q i K a w:=by
 obtain ⟨w',hr,h2,h3⟩:=FH hB h0 E hcs h1
 exact AC hi hw (Dy ho hp hx hr) (h w' h2 h3)
end
section
open Go.RowKit
section
variable {P:Program} {ops:Array Oper} {Q:Exit→Act→World→Prop} {i:Nat} {o:Oper} {a:Act} {w:World} {K:Act→World→Prop}
theorem Km (hi:ops[i]? = some o) (hw:Region.wanted o (yielded ops a.tmps)=true) (h:o.wp P a w K Q):wpOp P ops Q i K a w:=by
 unfold wpOp
 simp only [hi,hw,if_true]
 exact .inl h
theorem wpOp_slice1 (hi:ops[i]? = some o) (hw:Region.wanted o (yielded ops a.tmps)=true) (t:TypeId) (x:Operand) (ho:o.op=.buildSlice t 1 #[(0,x)]) {e sz:Nat} (E:Bg P t e sz) (cs:Array Value) (hx:(a.eval x).cells=cs) (hv:cs.size=sz)
  (h:K (a.put o.dst (.slice (some ⟨w.heap.size,0,none⟩) 1 1)) (w.alloc (.cells cs e))):wpOp P ops Q i K a w:=by
 obtain ⟨ht,i',z,hi',hz,hzs,hsz,h0,hle,hby⟩:=E
 subst hx
 have hr:=Ih ht hi' hz (by rw [hzs,hsz]) (by omega) (by omega) (a.eval x) (by rw [hv,hsz]) w
 refine Km hi hw ?_
 unfold Oper.wp
 simp only [execOp,ho]
 simp [hr,Result.andThen]
 exact h
theorem Jv (hi:ops[i]? = some o) (hw:Region.wanted o (yielded ops a.tmps)=true) (s x:Operand) (t:TypeId) (ho:o.op=.call { callee:=.builtin .append,args:=#[s,x],argTypes:=#[t,t] })
  (base:Nat) {e sz:Nat} (E:Bg P t e sz) (v:Value) (n:Nat) (xs:List Value) (hs:a.eval s=v) (hown:w.ownsRow base e sz v n xs)
  (g c:Nat) (cs:Array Value) (hx:a.eval x=.slice (some ⟨g,0,none⟩) 1 c) (hg:Blk w g e cs) (hcs:cs.size=sz) (h1:cs.toList.all Value.oneCell' = true)
  (hn:n < 67108864) (hbase:base≤w.heap.size)
  (h:∀ A' c' w',w'.ownsRow base e sz (.slice A' (n+1) c') (n+1) (xs ++ cs.toList)→w.grownBy w' v.ownBlock→K (a.put o.dst (.slice A' (n+1) c')) w'):wpOp P ops Q i K a w:=by
 obtain ⟨ht,i',z,hi',hz,hzs,hsz,h0,hle,hby⟩:=E
 refine Km hi hw (wp_append_own w s x t ho base e i' z sz i'.bytes ht hi' hz hsz rfl hzs h0 v n xs hs hown ⟨g,0,none⟩ 1 c cs.toList hx (by simpa using hcs) (fun j u hu=>?_) (fun u hu=>?_) (by unfold maxLen;omega) ?_ hbase (fun v' w' r1 r2 _=>by obtain ⟨A',c',rfl⟩:=Bn r1;exact h A' c' w' r1 r2))
 ·have hadd:(⟨g,0,none⟩ : Addr).add j=⟨g,j,none⟩:=by unfold Addr.add;split <;> simp_all
  rw [hadd,hg.cell];simpa using hu
 ·exact List.all_eq_true.1 h1 u hu
 have:=Nat.mul_le_mul (show n+1≤67108864 by omega) hby;omega
end
theorem Hg {P:Program} {t e ty:TypeId} {i:TypeInfo} (ht:P.underlying t=some (.slice e)) (hi:P.info? e=some i) (w:World) (A:Option Addr) (n c c' : Nat) (hc:n≤c) :
  (Builtin.append_ #[t,t] ty #[.slice A n c,.slice none 0 c']).run P w=.ok (.slice A n c) w:=by
 cases A with
 | none=>simp [Builtin.append_,run_underlying ht,sizeOf,typeInfo,hi,Result.andThen,hc,Builtin.lenOf,run_firstCells_none]
 | some a=>simp [Builtin.append_,run_underlying ht,sizeOf,typeInfo,hi,Result.andThen,hc,Builtin.lenOf,run_firstCells_none,storeCells]
theorem PE {w:World} {base e sz n:Nat} {v:Value} {xs:List Value} (h:w.ownsRow base e sz v n xs):∃ A c,v=.slice A n c∧n≤c:=by
 rcases h.2 with ⟨rfl,rfl⟩|⟨g,cap',cur,hv,_,_,hle,_⟩
 ·exact ⟨none,0,rfl,Nat.le_refl _⟩
 exact ⟨_,cap',hv,hle⟩
section
variable {P:Program} {ops:Array Oper} {Q:Exit→Act→World→Prop} {i:Nat} {o:Oper} {a:Act} {w:World} {K:Act→World→Prop} {rest:List Oper}
theorem Pm (s x:Operand) (t:TypeId) (ho:o.op=.call { callee:=.builtin .append,args:=#[s,x],argTypes:=#[t,t] })
  (base:Nat) {e sz:Nat} (E:Bg P t e sz) (v:Value) (n:Nat) (xs:List Value) (hs:a.eval s=v) (hown:w.ownsRow base e sz v n xs)
  (A:Option Addr) (m c:Nat) (ys:List (List Value)) (hx:a.eval x=.slice A m c) (hl:Sl w sz A m ys) (h1:∀ y∈ys,y.all Value.oneCell' = true)
  (hn:n+m≤67108864) (hbase:base≤w.heap.size)
  (h:∀ A' c' w',w'.ownsRow base e sz (.slice A' (n+m) c') (n+m) (xs ++ ys.flatten)→w.grownBy w' v.ownBlock→K (a.put o.dst (.slice A' (n+m) c')) w'):o.wp P a w K Q:=by
 obtain ⟨ht,i',z,hi',hz,hzs,hsz,h0,hle,hby⟩:=E
 cases A with
 | none =>
  have hy:ys=[]:=by
   cases ys with
   | nil=>rfl
   | cons y r=>obtain ⟨_,_,h,_⟩:=hl.2 0 y rfl;cases h
  subst hy
  have hm:m=0:=by have:=hl.1;simp at this;omega
  subst hm
  obtain ⟨A',c',rfl,hc⟩:=PE hown
  have hr:=Hg (ty:=o.type) ht hi' w A' n c' c hc
  unfold Oper.wp execOp
  simp only [ho,resolve,invoke,builtin,Sem.run_bind,Sem.run_pure,Result.andThen_ok,List.map_toArray,List.map_cons,List.map_nil,hs,hx,hr]
  exact h A' c' w (by simpa using hown) ⟨rfl,rfl,rfl,Nat.le_refl _,fun _ _ _=>rfl⟩
 | some ad =>
  obtain ⟨n1,n2⟩:=hl.news
  refine wp_append_own w s x t ho base e i' z sz i'.bytes ht hi' hz hsz rfl hzs h0 v n xs hs hown ad m c ys.flatten hx n1 n2 (fun u hu=>?_) (by unfold maxLen;omega) ?_ hbase (fun v' w' r1 r2 _=>by obtain ⟨A',c',rfl⟩:=Bn r1;exact h A' c' w' r1 r2)
  ·obtain ⟨y,hy,huy⟩:=List.mem_flatten.1 hu
   exact List.all_eq_true.1 (h1 y hy) u huy
  have:=Nat.mul_le_mul hn hby;omega
theorem CR (hgd:o.guard=none) (s x:Operand) (t:TypeId) (ho:o.op=.call { callee:=.builtin .append,args:=#[s,x],argTypes:=#[t,t] })
  (base:Nat) {e sz:Nat} (E:Bg P t e sz) (v:Value) (n:Nat) (xs:List Value) (hs:a.eval s=v) (hown:w.ownsRow base e sz v n xs)
  (A:Option Addr) (m c:Nat) (ys:List (List Value)) (hx:a.eval x=.slice A m c) (hl:Sl w sz A m ys) (h1:∀ y∈ys,y.all Value.oneCell' = true)
  (hn:n+m≤67108864) (hbase:base≤w.heap.size)
  (h:∀ A' c' w',w'.ownsRow base e sz (.slice A' (n+m) c') (n+m) (xs ++ ys.flatten)→w.grownBy w' v.ownBlock→wpList P ops Q rest (a.put o.dst (.slice A' (n+m) c')) w'):wpList P ops Q (o :: rest) a w :=
 wpList_plain hgd fun _ hK=>Pm s x t ho base E v n xs hs hown A m c ys hx hl h1 hn hbase fun A' c' w' r1 r2=>hK _ _ (h A' c' w' r1 r2)
theorem Af (hgd:o.guard=none) (ty:TypeId) (p x:Operand) (ho:o.op=.store ty p x) {sz:Nat} (E:Bb P ty sz) (g:Nat) (hp:a.eval p=.pointer (some ⟨g,0,none⟩)) (cs:Array Value) (hx:a.eval x=.agg cs)
  {t:TypeId} {cs0:Array Value} (hB:Blk w g t cs0) (h0:cs0.size=sz) (hcs:cs.size=sz) (h1:cs.toList.all Value.oneCell' = true)
  (h:∀ w',Blk w' g t cs→Ext (fun q=>q=g) w w'→wpList P ops Q rest (a.put o.dst undef) w'):wpList P ops Q (o :: rest) a w:=by
 refine wpList_plain hgd fun K hK=>?_
 obtain ⟨w',hr,h2,h3⟩:=FH hB h0 E hcs h1
 unfold Oper.wp
 rw [Dy ho hp hx hr]
 exact hK _ _ (h w' h2 h3)
end
end
section
open Go.RowKit Go.ChangeShapes Go.WideShapes Go.ChangeAt Go.Deep
theorem Iq {H:Type} (d:DataW H):1≤Rows.uptoBulk d:=by
 cases d with
 | lit l=>cases l <;> simp [Rows.uptoBulk]
 | nil=>simp [Rows.uptoBulk]
 | ptr d=>simp [Rows.uptoBulk]
 | slice elems spare=>simp [Rows.uptoBulk]
 | agg parts=>simp [Rows.uptoBulk]
 | iface t d=>simp [Rows.uptoBulk]
 | map entries=>simp [Rows.uptoBulk]
 | held h=>simp [Rows.uptoBulk]
theorem JR {H:Type} {d:DataW H} {l:List (DataW H)} (h:d∈l):Rows.uptoBulk d≤Rows.uptoBulkAll l:=by
 induction l with
 | nil=>cases h
 | cons x r ih =>
  simp only [Rows.uptoBulkAll]
  cases List.mem_cons.1 h with
  | inl e=>subst e;omega
  | inr e=>have:=ih e;omega
theorem OW {H:Type} (l:List (DataW H)):l.length≤Rows.uptoBulkAll l:=by
 induction l with
 | nil=>simp [Rows.uptoBulkAll]
 | cons x r ih=>have:=Iq x;simp only [Rows.uptoBulkAll,List.length_cons];omega
section
variable {H:Type} {enc:TypeId × Value→H} {P:Program} {w:World} {base:Nat} {spare:Nat→Bool} {held:Bool}
def F8 (enc:TypeId × Value→H) (P:Program) (w:World) (base:Nat) (spare:Nat→Bool) (held:Bool) (B:Nat) (t:TypeId) (c:Value):Prop :=
 ∃ n y,DataW.trod enc P w base spare held n t [c]=some y∧Rows.uptoBulk y.1≤B
def Leaves (enc:TypeId × Value→H) (P:Program) (w:World) (base:Nat) (spare:Nat→Bool) (held:Bool) (B:Nat):List TypeId→List Value→Prop
 | [],[]=>True
 | t :: ts,c :: cs=>F8 enc P w base spare held B t c∧Leaves enc P w base spare held B ts cs
 | _,_=>False
theorem Leaves.append {B:Nat}:∀ {ts ts' : List TypeId} {cs cs' : List Value},Leaves enc P w base spare held B ts cs→Leaves enc P w base spare held B ts' cs'→Leaves enc P w base spare held B (ts ++ ts') (cs ++ cs')
 | [],_,[],_,_,h=>h
 | t :: ts,_,c :: cs,_,h,h'=>⟨h.1,Leaves.append h.2 h'⟩
 | [],_,_ :: _,_,h,_=>h.elim
 | _ :: _,_,[],_,h,_=>h.elim
def EG (P:Program):Nat→TypeId→List TypeId
 | 0,t=>[t]
 | n+1,t=>match P.underlying t with
  | some (.struct fs)=>fs.toList.flatMap fun f=>EG P n f.type
  | _=>[t]
def IU (P:Program):List Field→Nat→Option Nat
 | [],k=>some k
 | f :: fs,k=>if f.offset=k then IU P fs (k+P.cellsOf f.type) else none
def Dl (P:Program):Nat→TypeId→Bool
 | 0,t=>P.cellsOf t == 1 && (match P.underlying t with|some (.array _ _)=>false|_=>true)
 | n+1,t=>match P.underlying t with
  | some (.struct fs)=>IU P fs.toList 0 == some (P.cellsOf t) && fs.toList.all fun f=>Dl P n f.type
  | some (.array _ _)=>false
  | _=>P.cellsOf t == 1
theorem FE {P:Program} {d t:Nat} (h:Dl P d t=true):∀ k e,P.underlying t ≠ some (.array k e):=by
 intro k e he
 cases d <;> simp [Dl,he] at h
theorem FZ:∀ {cs:List Value} {y:DataW H × List MemPlace} {n t:Nat},DataW.trod enc P w base spare held n t cs=some y→(∀ fs,P.underlying t ≠ some (.struct fs))→(∀ k e,P.underlying t ≠ some (.array k e))→∃ c,cs=[c]:=by
 intro cs y n t h hs ha
 cases n with
 | zero=>simp [DataW.trod] at h
 | succ n =>
  unfold DataW.trod at h
  split at h
  all_goals first
   | exact ⟨_,rfl⟩
   | (rename_i hu;exact absurd hu (hs _))
   | (rename_i hu;exact absurd hu (ha _ _))
   | simp at h
theorem FF {B n:Nat} (hrec:∀ {t:TypeId} {cs:List Value} {m:Nat} {y:DataW H × List MemPlace},Dl P n t=true→DataW.trod enc P w base spare held m t cs=some y→Rows.uptoBulk y.1≤B→Leaves enc P w base spare held B (EG P n t) cs) :
  ∀ (fs:List Field) (k:Nat) (cs:List Value),IU P fs k=some cs.length→(fs.all fun f=>Dl P n f.type)=true →
   (∀ f∈fs,∃ m y,DataW.trod enc P w base spare held m f.type ((cs.drop f.offset).take (P.cellsOf f.type))=some y∧Rows.uptoBulk y.1≤B)→Leaves enc P w base spare held B (fs.flatMap fun f=>EG P n f.type) (cs.drop k)
 | [],k,cs,ho,_,_=>by
  simp only [IU,Option.some.injEq] at ho
  rw [ho,List.drop_length];exact trivial
 | f :: fs,k,cs,ho,ha,hf=>by
  simp only [IU] at ho
  split at ho
  ·rename_i hk
   simp only [List.all_cons,Bool.and_eq_true] at ha
   obtain ⟨m,y,h1,h2⟩:=hf f (List.mem_cons_self ..)
   have h3:=hrec ha.1 h1 h2
   have h4:=FF hrec fs (k+P.cellsOf f.type) cs ho ha.2 (fun g hg=>hf g (List.mem_cons_of_mem _ hg))
   have h5:cs.drop k=(cs.drop f.offset).take (P.cellsOf f.type) ++ cs.drop (k+P.cellsOf f.type):=by
    rw [hk,← List.drop_drop,List.take_append_drop]
   rw [h5,List.flatMap_cons]
   exact h3.append h4
  cases ho
theorem leaves {B:Nat}:∀ {d:Nat} {t:TypeId} {cs:List Value} {m:Nat} {y:DataW H × List MemPlace},Dl P d t=true→DataW.trod enc P w base spare held m t cs=some y→Rows.uptoBulk y.1≤B→Leaves enc P w base spare held B (EG P d t) cs
 | 0,t,cs,m,y,hok,h,hB=>by
  have ha:=FE hok
  by_cases hs:∃ fs,P.underlying t=some (.struct fs)
  ·obtain ⟨fs,hs⟩:=hs
   obtain ⟨xs,n,_,_,hl,_⟩:=DataW.trod_struct hs h
   simp only [Dl,Bool.and_eq_true,beq_iff_eq] at hok
   rw [hok.1] at hl
   obtain ⟨c,rfl⟩:=List.length_eq_one_iff.1 hl
   exact ⟨⟨m,y,h,hB⟩,trivial⟩
  obtain ⟨c,rfl⟩:=FZ h (fun fs e=>hs ⟨fs,e⟩) ha
  exact ⟨⟨m,y,h,hB⟩,trivial⟩
 | d+1,t,cs,m,y,hok,h,hB=>by
  have ha:=FE hok
  by_cases hs:∃ fs,P.underlying t=some (.struct fs)
  ·obtain ⟨fs,hs⟩:=hs
   obtain ⟨xs,n,_,hy,hl,hxl,hf⟩:=DataW.trod_struct hs h
   simp only [Dl,hs,Bool.and_eq_true,beq_iff_eq] at hok
   simp only [EG,hs]
   have h0:=FF (n:=d) (B:=B) (fun h1 h2 h3=>leaves h1 h2 h3) fs.toList 0 cs (by rw [hl];exact hok.1) hok.2 (fun f hm=>by
    obtain ⟨i,hi⟩:=List.getElem?_of_mem hm
    have hi' : fs[i]? = some f:=by simpa using hi
    have h6:=hf i f hi'
    have hil:i < xs.length:=by rw [hxl];exact (Array.getElem?_eq_some_iff.1 hi').1
    rw [List.getElem?_eq_getElem hil] at h6
    refine ⟨n,xs[i],h6,Nat.le_trans ?_ hB⟩
    subst hy
    simp only [Rows.uptoBulk]
    have:=JR (List.mem_map.2 ⟨xs[i],List.getElem_mem hil,rfl⟩ : xs[i].1∈xs.map (·.1))
    omega)
   simpa using h0
  have h7:EG P (d+1) t=[t]:=by
   simp only [EG];split
   ·rename_i fs he;exact absurd ⟨fs,he⟩ hs
   rfl
  rw [h7]
  obtain ⟨c,rfl⟩:=FZ h (fun fs e=>hs ⟨fs,e⟩) ha
  exact ⟨⟨m,y,h,hB⟩,trivial⟩
theorem F8.int {B:Nat} {t:TypeId} {c:Value} {k:IntKind} (ht:P.underlying t=some (.int k)) (h:F8 enc P w base spare held B t c):∃ a,c=.int k a∧(Lit.int k a).wf=true:=by
 obtain ⟨n,y,h1,_⟩:=h
 obtain ⟨a,e1,_,e2⟩:=DataW.trod_int ht h1
 exact ⟨a,by simpa using e1,e2⟩
theorem F8.bool {B:Nat} {t:TypeId} {c:Value} (ht:P.underlying t=some .bool) (h:F8 enc P w base spare held B t c):∃ a,c=.bool a:=by
 obtain ⟨n,y,h1,_⟩:=h
 obtain ⟨a,e1,_⟩:=DataW.trod_bool ht h1
 exact ⟨a,by simpa using e1⟩
theorem F8.slice {α:Type} {B sz:Nat} {t e:TypeId} {c:Value} (f:α→List Value) (ok:α→Prop) (ht:P.underlying t=some (.slice e)) (hC:P.cellsOf e=sz) (hsz:0 < sz)
  (hel:∀ n cs y,DataW.trod enc P w base spare held n e cs=some y→Rows.uptoBulk y.1≤B→∃ x:α,cs=f x∧ok x)
  (h:F8 enc P w base spare held B t c):∃ A n cap,∃ xs:List α,c=.slice A n cap∧Sl w sz A n (xs.map f)∧(∀ x∈xs,ok x)∧n+1≤B∧n≤maxLen:=by
 obtain ⟨n,y,h1,hB⟩:=h
 rcases open_slice ht h1 with ⟨e1,rfl⟩|⟨a,len,cap,m,n',D,Pl,e1,hb,hl,hcap,hm,rfl,hi⟩
 ·obtain rfl:c=.slice none 0 0:=by simpa using e1
  exact ⟨none,0,0,[],rfl,Sl.nil _ _ _,by simp,by simpa [Rows.uptoBulk] using hB,by unfold maxLen;omega⟩
 obtain rfl:c=.slice (some a) len cap:=by simpa using e1
 have hB' : Rows.uptoBulkAll ((List.range len).map D)+1≤B:=by
  simp only [Rows.uptoBulk] at hB;omega
 have hlen:len+1≤B:=by
  have:=OW ((List.range len).map D)
  simp at this;omega
 have hml:len≤m:=by rw [hm];split <;> omega
 clear hm
 have hx:∀ i,i < len→∃ x:α,ok x∧a.spot=none∧(f x).length=sz∧∀ j u,(f x)[j]? = some u→w.cell? ⟨a.block,a.off+i*sz+j,none⟩=some u:=by
  intro i hlt
  obtain ⟨cs',hc,ht'⟩:=hi i (by omega)
  rw [hC] at hc
  obtain ⟨_,hcl,hat⟩:=World.cells?_some hc
  obtain ⟨x,rfl,hox⟩:=hel _ _ _ ht' (by
   show Rows.uptoBulk (D i)≤B
   have:=JR (List.mem_map.2 ⟨i,List.mem_range.2 hlt,rfl⟩ : D i∈(List.range len).map D)
   omega)
  have hsp:a.spot=none:=by
   have h0:=hat 0 hsz
   rw [List.getElem?_eq_getElem (by omega)] at h0
   cases hs:a.spot with
   | none=>rfl
   | some s =>
    exfalso
    by_cases hi0:i*sz=0
    ·have:((a.add (i*sz)).add 0)=a:=by simp [Addr.add,hi0]
     rw [this] at h0
     simp only [World.cell?,hs] at h0
     split at h0 <;> simp at h0
    have hi1:i ≠ 0:=by rintro rfl;simp at hi0
    obtain ⟨cs0,hc0,_⟩:=hi 0 (by omega)
    rw [hC] at hc0
    obtain ⟨_,hcl0,hat0⟩:=World.cells?_some hc0
    have h1:=hat0 0 hsz
    rw [List.getElem?_eq_getElem (by omega)] at h1
    have:((a.add (0*sz)).add 0)=a:=by simp [Addr.add]
    rw [this] at h1
    simp only [World.cell?,hs] at h1
    split at h1 <;> simp at h1
  refine ⟨x,hox,hsp,hcl,fun j u hu=>?_⟩
  have hj:j < sz:=by rw [← hcl];exact (List.getElem?_eq_some_iff.1 hu).1
  have h0:=hat j hj
  rw [hu] at h0
  have:(a.add (i*sz)).add j=⟨a.block,a.off+i*sz+j,none⟩:=by
   obtain ⟨ab,ao,asp⟩:=a
   simp only at hsp
   subst hsp
   unfold Addr.add
   by_cases h1:i*sz=0 <;> by_cases h2:j=0 <;> simp [h1,h2]
  rw [this] at h0
  exact h0
 obtain ⟨xs,hxl,hxs⟩ : ∃ xs:List α,xs.length=len∧∀ i x,xs[i]? = some x→ok x∧a.spot=none∧(f x).length=sz∧∀ j u,(f x)[j]? = some u→w.cell? ⟨a.block,a.off+i*sz+j,none⟩=some u:=by
  clear hlen hml hB hB' hl hcap h1
  have:∀ k,k≤len→∃ xs:List α,xs.length=k∧∀ i x,xs[i]? = some x→ok x∧a.spot=none∧(f x).length=sz∧∀ j u,(f x)[j]? = some u→w.cell? ⟨a.block,a.off+i*sz+j,none⟩=some u:=by
   intro k
   induction k with
   | zero=>intro _;exact ⟨[],rfl,by simp⟩
   | succ k ih =>
    intro hk
    obtain ⟨xs,h1,h2⟩:=ih (by omega)
    obtain ⟨x,h3⟩:=hx k (by omega)
    refine ⟨xs ++ [x],by simp [h1],fun i z hz=>?_⟩
    rcases Nat.lt_or_ge i xs.length with h|h
    ·rw [List.getElem?_append_left h] at hz;exact h2 i z hz
    rw [List.getElem?_append_right h] at hz
    obtain ⟨h4,h5⟩:=List.getElem?_eq_some_iff.1 hz
    simp at h4 h5
    subst h5
    have:i=k:=by omega
    subst this
    exact h3
  exact this len (Nat.le_refl _)
 refine ⟨some a,len,cap,xs,rfl,⟨by simpa using hxl.symm,fun i cs hcs=>?_⟩,fun x hx=>?_,hlen,by omega⟩
 ·rw [List.getElem?_map] at hcs
  obtain ⟨x,hx1,rfl⟩:=Option.map_eq_some_iff.1 hcs
  obtain ⟨_,h2,h3,h4⟩:=hxs i x hx1
  exact ⟨a.block,a.off,by obtain ⟨ab,ao,asp⟩:=a;simp only at h2;subst h2;rfl,h3,h4⟩
 obtain ⟨i,hi⟩:=List.getElem?_of_mem hx
 exact (hxs i x hi).1
theorem FC (hl:laidOutB P=true) {W W' : World} {sp' : Nat→Bool}:∀ {ts:List TypeId} {vs:List Value} {ds:List (DataW H)} {ps:List MemPlace},
  (∀ t∈ts,P.readableRec t=true∧t < P.types.size)→DataW.TrodAll enc P W 0 (fun _=>true) true ts vs ds ps→(∀ p∈ps,W.sameAt W' p)→(∀ p∈ps,sp' p.block=true)→DataW.TrodAll enc P W' 0 sp' true ts vs ds ps
 | [],[],[],_,_,h,_,_=>h
 | t :: ts,v :: vs,d :: ds,ps,hr,h,hs,hp=>by
  obtain ⟨p,q,h1,h2,rfl⟩:=h
  have h3:=hr t (List.mem_cons_self ..)
  exact ⟨p,q,WideElems.Trod_stays hl h3.1 h3.2 h1 (fun x hx=>hs x (List.mem_append_left _ hx)) (fun x hx=>hp x (List.mem_append_left _ hx)),
   FC hl (fun u hu=>hr u (List.mem_cons_of_mem _ hu)) h2 (fun x hx=>hs x (List.mem_append_right _ hx)) (fun x hx=>hp x (List.mem_append_right _ hx)),rfl⟩
 | [],[],_ :: _,_,_,h,_,_=>h.elim
 | [],_ :: _,_,_,_,h,_,_=>h.elim
 | _ :: _,[],_,_,_,h,_,_=>h.elim
 | _ :: _,_ :: _,[],_,_,h,_,_=>h.elim
theorem OY {f:Func} {s:ChangeSpec} {apart:Bool} {W W' : World} {args:Array Value} {ds gs:List (DataW H)} {before:List MemPlace} {tb:TypeId}
  (hl:laidOutB P=true) (hpar:∀ t∈f.params.toList,P.readableRec t=true∧t < P.types.size) (hres:f.resultTypes=#[tb]) (htb:P.underlying tb=some .bool) (hv:s.vars=[])
  (hW:DataW.Whole enc P f.params.toList s.vars apart W args.toList ds gs before)
  (h1:(s.fn H (ds ++ gs)).results=[.lit (.bool true)]) (h2:(s.fn H (ds ++ gs)).args=ds) (h3:(s.fn H (ds ++ gs)).vars=[]) (hb:Below W.heap.size W W') :
  s.post enc P f apart true false false W args (.bool true) W':=by
 have hlt:∀ p∈before,p.block < W.heap.size:=fun p hp=>hW.lt p hp
 have hW':=hW
 obtain ⟨p,q,hA,hV,hpq,hz,hn⟩:=hW
 rw [hv] at hV
 obtain ⟨rfl,rfl⟩:=trodVars_none hV
 rw [List.append_nil] at hpq
 subst hpq
 have hold:∀ sp:Nat→Bool,(∀ p'∈before,sp p'.block=true)→DataW.TrodAll enc P W' 0 sp true f.params.toList args.toList (s.fn H (ds ++ [])).args before:=fun sp hsp=>by
  rw [h2]
  exact FC hl hpar hA (fun x hx=>hb.same (hlt x hx)) hsp
 have hr:∀ (b:Nat) (sp:Nat→Bool) (hd:Bool),DataW.TrodAll enc P W' b sp hd f.resultTypes.toList ((Value.bool true).resultList f.resultTypes.size) (s.fn H (ds ++ [])).results []:=fun b sp hd=>by
  rw [h1,hres]
  exact trodAll_mk1 ⟨1,by simp [DataW.trod,Value.cells,htb]⟩
 have hvars:∀ sp:Nat→Bool,DataW.TrodVars enc P W' sp s.vars (s.fn H (ds ++ [])).vars []:=fun sp=>by rw [hv,h3];rfl
 have hsp0:∀ p'∈before,(fun b=>decide (b < W.heap.size)) p'.block=true:=fun p' hp=>by simpa using hlt p' hp
 refine ⟨ds,[],before,[],before,[],hW',hr _ _ _,hold _ hsp0,hvars _,World.keptBut_mono (fun p hp=>⟨hp,.inr (.inl hp)⟩) (hb.frame (·∈before)),fun h=>by cases h⟩
end
end
end Go.Proofs.YtccekmeifanipaaGreat
