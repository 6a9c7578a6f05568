/- What stands in the store, as plain data; how it lies in cells. No program is named. -/
import Derived.Test.YtgjabfpkbcdkcaaGreatDoorBase
namespace Go.Proofs.YtgjabfpkbcdkcaaGreatDoor
set_option linter.unusedVariables false
open Go.RowKit

structure ResD where
  cpu : Int
  mem : Int
deriving DecidableEq
structure GroupD where
  count : Int
  ask : ResD
deriving DecidableEq
structure JobD where
  id : Int
  ty : Int
  prio : Int
  par : Int
  groups : List GroupD
  ver : Int
  stopped : Bool
deriving DecidableEq
structure NodD where
  id : Int
  cap : ResD
  up : Bool
  drain : Bool
  boot : Int
  epoch : Int
  seq : Int
deriving DecidableEq
structure AllocD where
  id : Int
  job : Int
  ver : Int
  group : Int
  index : Int
  node : Int
  epoch : Int
  ask : ResD
  stop : Bool
  state : Int
deriving DecidableEq
structure EvalD where
  job : Int
  prio : Int
  state : Int
  index : Int
deriving DecidableEq
structure DepD where
  job : Int
  ver : Int
  state : Int
  index : Int
deriving DecidableEq
structure ResultD where
  code : Int
  value : Int
  allocs : List AllocD
deriving DecidableEq
structure SeenD where
  client : Int
  req : Int
  answer : ResultD
deriving DecidableEq
structure StoreD where
  index : Int
  next : Int
  jobs : List JobD
  stable : List JobD
  nodes : List NodD
  allocs : List AllocD
  evals : List EvalD
  deploys : List DepD
  seen : List SeenD
deriving DecidableEq

def GroupD.cells (x : GroupD) : List Value := [.int .i64 x.count, .int .i64 x.ask.cpu, .int .i64 x.ask.mem]
def NodD.cells (x : NodD) : List Value := [.int .i64 x.id, .int .i64 x.cap.cpu, .int .i64 x.cap.mem, .bool x.up, .bool x.drain, .int .i64 x.boot, .int .i64 x.epoch, .int .i64 x.seq]
def AllocD.cells (x : AllocD) : List Value := [.int .i64 x.id, .int .i64 x.job, .int .i64 x.ver, .int .i64 x.group, .int .i64 x.index, .int .i64 x.node, .int .i64 x.epoch, .int .i64 x.ask.cpu, .int .i64 x.ask.mem, .bool x.stop, .int .i64 x.state]
def EvalD.cells (x : EvalD) : List Value := [.int .i64 x.job, .int .i64 x.prio, .int .i64 x.state, .int .i64 x.index]
def DepD.cells (x : DepD) : List Value := [.int .i64 x.job, .int .i64 x.ver, .int .i64 x.state, .int .i64 x.index]
/-- a job beside its slice of groups; an answered request beside its slice -/
abbrev JobV := JobD × Value
abbrev SeenV := SeenD × Value
def JobV.cells (x : JobV) : List Value := [.int .i64 x.1.id, .int .i64 x.1.ty, .int .i64 x.1.prio, .int .i64 x.1.par, x.2, .int .i64 x.1.ver, .bool x.1.stopped]
def SeenV.cells (x : SeenV) : List Value := [.int .i64 x.1.client, .int .i64 x.1.req, .int .i64 x.1.answer.code, .int .i64 x.1.answer.value, x.2]

/-- the place of the first that is so, as the program tells it -/
def idxI {α : Type} (p : α → Bool) (l : List α) : Int := match l.findIdx? p with | some i => (i : Int) | none => -1
section
variable {α : Type} {p : α → Bool} {l : List α}
theorem idx_hit {k : Nat} {x : α} (hno : ∀ j < k, ∀ y, l[j]? = some y → p y = false) (hx : l[k]? = some x) (hp : p x = true) : idxI p l = k := by
  obtain ⟨hk, rfl⟩ := List.getElem?_eq_some_iff.1 hx
  have : l.findIdx? p = some k := by
    rw [List.findIdx?_eq_some_iff_getElem]
    refine ⟨hk, hp, fun j hj => ?_⟩
    have := hno j hj _ (List.getElem?_eq_getElem (by omega))
    simp [this]
  simp [idxI, this]
theorem idx_none (hno : ∀ j < l.length, ∀ y, l[j]? = some y → p y = false) : idxI p l = -1 := by
  have : l.findIdx? p = none := by
    rw [List.findIdx?_eq_none_iff]
    intro x hx
    obtain ⟨i, hi⟩ := List.getElem?_of_mem hx
    exact hno i (List.getElem?_eq_some_iff.1 hi).1 x hi
  simp [idxI, this]
/-- either none is so, or the first that is -/
theorem idx_cases (p : α → Bool) (l : List α) : (idxI p l = -1 ∧ l.find? p = none ∧ ∀ x ∈ l, p x = false) ∨ ∃ (i : Nat) (x : α), idxI p l = i ∧ l[i]? = some x ∧ p x = true ∧ l.find? p = some x ∧ ∀ j < i, ∀ y, l[j]? = some y → p y = false := by
  cases h : l.findIdx? p with
  | none =>
    have h' := List.findIdx?_eq_none_iff.1 h
    exact .inl ⟨by simp [idxI, h], List.find?_eq_none.2 (fun x hx => by simp [h' x hx]), h'⟩
  | some i =>
    obtain ⟨hi, hp, hno⟩ := List.findIdx?_eq_some_iff_getElem.1 h
    have hno' : ∀ j < i, ∀ y, l[j]? = some y → p y = false := fun j hj y hy => by
      obtain ⟨hj', rfl⟩ := List.getElem?_eq_some_iff.1 hy
      simpa using hno j hj
    refine .inr ⟨i, l[i], by simp [idxI, h], List.getElem?_eq_getElem hi, hp, ?_, hno'⟩
    rw [List.find?_eq_some_iff_getElem]
    exact ⟨hp, i, hi, rfl, fun j hj => by simpa using hno j hj⟩
theorem idx_map {β : Type} (f : β → α) (p : α → Bool) (l : List β) : idxI p (l.map f) = idxI (fun x => p (f x)) l := by
  simp only [idxI, List.findIdx?_map]
  rfl
end

/-! ### results that lie in variables of their own -/
theorem run_loadVar {P : Program} {ty : TypeId} {sz : Nat} (E : StructT P ty sz) {w : World} {g : Nat} {t : TypeId} {cs : Array Value} (hg : Blk w g t cs) (hi : cs.size = sz) : (loadVar ty ⟨g, 0, none⟩).run P w = .ok (.agg cs) w := by
  obtain ⟨⟨fs, hu⟩, hs⟩ := E
  have hl : (loadCells ⟨g, 0, none⟩ cs.toList.length).run P w = .ok cs.toList.toArray w :=
    run_loadCells_list (P := P) w ⟨g, 0, none⟩ cs.toList (fun j v hv => by
      have hadd : (⟨g, 0, none⟩ : Addr).add j = ⟨g, j, none⟩ := by unfold Addr.add; split <;> simp_all
      rw [hadd, hg.cell]; simpa using hv)
  simp only [Array.length_toList, Array.toArray_toList] at hl
  obtain ⟨i, hi1, hi2⟩ := Option.map_eq_some_iff.1 hs
  simp [loadVar, isAgg, run_underlying hu, sizeOf, typeInfo, hi1, hi2, ← hi, hl, Result.andThen]
section
variable {P : Program} {fn : Func} {w : World} {tmps : Array Value}
theorem results_cell {t : Tmp} {ty : TypeId} (h : fn.results = #[.cell t ty]) {sz : Nat} (E : StructT P ty sz) {g : Nat} (hp : tmps.getD t undef = .pointer (some ⟨g, 0, none⟩)) {tt : TypeId} {cs : Array Value} (hg : Blk w g tt cs) (hi : cs.size = sz) :
    (results fn tmps).run P w = .ok (.agg cs) w := by
  have := run_loadVar E hg hi
  simp only [Array.getD_eq_getD_getElem?] at hp
  simp [results, h, hp, asAddr, this]
theorem results_cell_tmp {t u : Tmp} {ty : TypeId} (h : fn.results = #[.cell t ty, .tmp u]) {sz : Nat} (E : StructT P ty sz) {g : Nat} (hp : tmps.getD t undef = .pointer (some ⟨g, 0, none⟩)) {tt : TypeId} {cs : Array Value} (hg : Blk w g tt cs) (hi : cs.size = sz) :
    (results fn tmps).run P w = .ok (.tuple #[.agg cs, tmps.getD u undef]) w := by
  have := run_loadVar E hg hi
  simp only [Array.getD_eq_getD_getElem?] at hp
  simp [results, h, hp, asAddr, this, Result.andThen]
theorem results_cell2 {t t' : Tmp} {ty ty' : TypeId} (h : fn.results = #[.cell t ty, .cell t' ty']) {sz sz' : Nat} (E : StructT P ty sz) (E' : StructT P ty' sz') {g g' : Nat} (hp : tmps.getD t undef = .pointer (some ⟨g, 0, none⟩)) (hp' : tmps.getD t' undef = .pointer (some ⟨g', 0, none⟩))
    {tt tt' : TypeId} {cs cs' : Array Value} (hg : Blk w g tt cs) (hi : cs.size = sz) (hg' : Blk w g' tt' cs') (hi' : cs'.size = sz') :
    (results fn tmps).run P w = .ok (.tuple #[.agg cs, .agg cs']) w := by
  have h1 := run_loadVar E hg hi
  have h2 := run_loadVar E' hg' hi'
  simp only [Array.getD_eq_getD_getElem?] at hp hp'
  simp [results, h, hp, hp', asAddr, h1, h2, Result.andThen]
end

/-! ### a whole slice is appended to a row of the call's own -/
theorem flatten_len {sz : Nat} : ∀ {ys : List (List Value)}, (∀ y ∈ ys, y.length = sz) → ys.flatten.length = ys.length * sz
  | [], _ => by simp
  | y :: r, h => by rw [List.flatten_cons, List.length_append, h y (List.mem_cons_self ..), flatten_len (fun z hz => h z (List.mem_cons_of_mem _ hz)), List.length_cons, Nat.add_mul]; omega
theorem flatten_at {sz : Nat} : ∀ {ys : List (List Value)}, (∀ y ∈ ys, y.length = sz) → ∀ {i : Nat} {y : List Value}, ys[i]? = some y → ∀ {j : Nat} {u : Value}, y[j]? = some u → ys.flatten[i * sz + j]? = some u
  | [], _, i, y, h, _, _, _ => by simp at h
  | z :: r, h, 0, y, hy, j, u, hu => by
    simp at hy; subst hy
    rw [List.flatten_cons, Nat.zero_mul, Nat.zero_add, List.getElem?_append_left (List.getElem?_eq_some_iff.1 hu).1]; exact hu
  | z :: r, h, i + 1, y, hy, j, u, hu => by
    have := flatten_at (fun z hz => h z (List.mem_cons_of_mem _ hz)) (i := i) (by simpa using hy) hu
    have hz := h z (List.mem_cons_self ..)
    rw [List.flatten_cons, List.getElem?_append_right (by rw [hz, Nat.add_mul]; omega), hz, show (i + 1) * sz + j - sz = i * sz + j from by rw [Nat.add_mul]; omega]
    exact this
theorem Sl.news {w : World} {sz m : Nat} {ad : Addr} {ys : List (List Value)} (h : Sl w sz (some ad) m ys) : ys.flatten.length = m * sz ∧ ∀ j u, ys.flatten[j]? = some u → w.cell? (ad.add j) = some u := by
  obtain ⟨hm, hc⟩ := h
  have hlen : ∀ y ∈ ys, y.length = sz := fun y hy => by
    obtain ⟨i, hi⟩ := List.getElem?_of_mem hy
    obtain ⟨_, _, _, hl, _⟩ := hc i y hi
    exact hl
  have hfl := flatten_len hlen
  refine ⟨by rw [hfl, hm], fun j u hu => ?_⟩
  have hj : j < ys.length * sz := by
    have := (List.getElem?_eq_some_iff.1 hu).1
    omega
  have h0 : 0 < sz := Nat.pos_of_ne_zero (fun e => by subst e; omega)
  have hi : j / sz < ys.length := (Nat.div_lt_iff_lt_mul h0).2 hj
  obtain ⟨b, off, hA, hl, hcc⟩ := hc (j / sz) ys[j / sz] (List.getElem?_eq_getElem hi)
  cases hA
  have hjm : j / sz * sz + j % sz = j := by rw [Nat.mul_comm]; exact Nat.div_add_mod j sz
  have hmod : j % sz < ys[j / sz].length := by rw [hl]; exact Nat.mod_lt _ h0
  have e1 := flatten_at hlen (List.getElem?_eq_getElem hi) (List.getElem?_eq_getElem hmod)
  rw [hjm, hu] at e1
  have e2 := Option.some.inj e1
  have hadd : (⟨b, off, none⟩ : Addr).add j = ⟨b, off + j, none⟩ := by unfold Addr.add; split <;> simp_all
  rw [hadd, show off + j = off + j / sz * sz + j % sz by omega, e2]
  exact hcc _ _ (List.getElem?_eq_getElem hmod)
section
variable {P : Program} {w : World} {ops : Array Oper} {rest : List Oper} {o : Oper} {a : Act} {Q : Exit → Act → World → Prop}
theorem wpList_appN (hgd : o.guard = none) (s x : Operand) (t : TypeId) (ho : o.op = .call { callee := .builtin .append, args := #[s, x], argTypes := #[t, t] })
    (base : Nat) {e sz : Nat} (E : SliceT P t e sz) (v : Value) (n : Nat) (xs : List Value) (hs : a.eval s = v) (hown : w.ownsRow base e sz v n xs)
    (ad : Addr) (m c : Nat) (ys : List (List Value)) (hx : a.eval x = .slice (some ad) m c) (hl : Sl w sz (some ad) m ys) (h1 : ∀ y ∈ ys, y.all Value.oneCell' = true)
    (hn : n + m ≤ 67108864) (hbase : base ≤ w.heap.size)
    (h : ∀ v' w', w'.ownsRow base e sz v' (n + m) (xs ++ ys.flatten) → w.grownBy w' v.ownBlock → wpList P ops Q rest (a.put o.dst v') w') : wpList P ops Q (o :: rest) a w := by
  obtain ⟨ht, i, z, hi, hz, hzs, hsz, h0, hle, hby⟩ := E
  obtain ⟨n1, n2⟩ := hl.news
  refine wpList_append_own w hgd s x t ho base e i z sz i.bytes ht hi hz hsz rfl hzs h0 v n xs hs hown ad m c ys.flatten hx n1 n2 (fun u hu => ?_) (by unfold maxLen; omega) ?_ hbase (fun v' w' r1 r2 _ => h v' w' r1 r2)
  · obtain ⟨y, hy, huy⟩ := List.mem_flatten.1 hu
    exact List.all_eq_true.1 (h1 y hy) u huy
  · have := Nat.mul_le_mul hn hby; omega
end
end Go.Proofs.YtgjabfpkbcdkcaaGreatDoor
