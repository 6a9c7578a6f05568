/- What stands in memory for a client's machine. No function is walked. -/
import Derived.Test.YtockcifkphfnlaaGreatDoorAgF
import Derived.Test.YtockcifkphfnlaaGreatDoorAk16
import Derived.Test.YtockcifkphfnlaaGreatDoorAkLay
namespace Go.Proofs.YtockcifkphfnlaaGreatDoor
set_option linter.unusedVariables false
set_option linter.unusedSimpArgs false
open Go.RowKit
open Go.Maps Go.WideMaps

theorem ULi : Tryz.prog.underlying 3 = some (.int .i64) := Tryz.underlying3
theorem KLi : Keyed Tryz.prog 3 := Maps.int_keyed ULi
theorem inj_i : ∀ x y : Int, Value.int .i64 x = Value.int .i64 y → x = y := fun x y h => by injection h
theorem ULt : Tryz.prog.underlying 79 = some (.map 3 96) := Tryz.underlying79
theorem STAgent : StructT Tryz.prog 84 36 := .of (by kernel_rfl)
theorem STTask : StructT Tryz.prog 96 12 := .of (by kernel_rfl)
theorem int_key {k : Int} (h : In64 k) : keyOf Tryz.prog 3 (Value.int .i64 k) = some (.int .i64 k) := Go.Maps.keyOf_int_mk ULi (by unfold In64 at h; simp [Lit.wf, IntKind.min, IntKind.max, IntKind.signed, IntKind.bits]; omega)
def taskV (t : Ag.TaskD) : Value := .agg (t.1.cells ++ ([.int .i64 t.2] : List Value)).toArray
/-- the map's entries are stamped, each once -/
def StI (w : World) (b : Nat) : Prop := ∃ es clock, w.heap[b]? = some (.map es clock) ∧ Go.MapKept.Stamped es clock ∧ ∀ x ∈ es.toList, Go.MapKept.IsKey (.int .i64) x.key
/-- the map in block b reads as the tasks T -/
structure TM (w : World) (b : Nat) (T : Ag.Tasks) : Prop where
  out : ∃ L : Ag.Tasks, MapIs Tryz.prog 3 (fun k : Int => Value.int .i64 k) taskV w b L ∧ L.Perm T
  st : StI w b
  asc : Ag.TAsc T
  keys : ∀ p ∈ T, In64 p.1
theorem TM.ext {w w' : World} {S : Nat → Prop} {b : Nat} {T : Ag.Tasks} (h : TM w b T) (hx : Ext S w w') (hb : ¬ S b) : TM w' b T := by
  obtain ⟨L, h1, h2⟩ := h.out
  obtain ⟨es, clock, s1, s2⟩ := h.st
  exact ⟨⟨L, h1.ext hx hb, h2⟩, ⟨es, clock, hx.heap s1 hb, s2⟩, h.asc, h.keys⟩
theorem TM.lt {w : World} {b : Nat} {T : Ag.Tasks} (h : TM w b T) : b < w.heap.size := by
  obtain ⟨L, h1, _⟩ := h.out
  exact h1.lt
theorem TM.ne {w : World} {b g t : Nat} {cs : Array Value} {T : Ag.Tasks} (h : TM w b T) (hg : Blk w g t cs) : b ≠ g := by
  obtain ⟨L, h1, _⟩ := h.out
  exact h1.ne_blk hg
theorem TM.new (w : World) : TM (w.alloc (.map #[] 0)) w.heap.size [] := ⟨⟨[], MapIs.new w, List.Perm.refl _⟩, ⟨#[], 0, heap_alloc_new w _, Go.MapKept.stamped_empty 0, by simp⟩, by simp [Ag.TAsc], by simp⟩
theorem TM.isMap {w : World} {b : Nat} {T : Ag.Tasks} (h : TM w b T) : ∃ es c, w.heap[b]? = some (.map es c) := by
  obtain ⟨L, ⟨es, c, h1, _⟩, _⟩ := h.out
  exact ⟨es, c, h1⟩
def beatCells (l : List (Int × Int)) : List Value := l.flatMap fun p => [.int .i64 p.1, .int .i64 p.2]
/-- the machine's cells: its disk in block b, its tasks in block mt -/
def Ag.AgD.cells (s : Ag.AgD) (b mt : Nat) : Array Value :=
  (([.int .i64 2, .int .i64 0, .int .i64 0, .bool false, .bool false, .int .i64 0, .int .i64 0, .int .i64 0, .int .i64 s.servers, .pointer (some ⟨b, 0, none⟩), .int .i64 s.boot, .bool s.down, .int .i64 s.clock, .int .i64 s.epoch, .int .i64 s.lease, .int .i64 s.seq, .int .i64 s.taken] : List Value) ++ (beatCells s.beats ++ ([.map (some mt), .int .i64 s.count, .int .i64 s.hint] : List Value))).toArray
theorem beat_len {l : List (Int × Int)} (h : l.length = 8) : (beatCells l).length = 16 := by
  unfold beatCells
  have : ∀ l : List (Int × Int), (l.flatMap fun p => ([.int .i64 p.1, .int .i64 p.2] : List Value)).length = 2 * l.length := by
    intro l
    induction l with
    | nil => rfl
    | cons p r ih => rw [List.flatMap_cons, List.length_append, ih, List.length_cons, List.length_cons, List.length_cons, List.length_nil]; omega
  rw [this, h]
/-- block q is one that the machine's methods may write -/
def AgB (B : Nat) (w : World) (q : Nat) : Prop := B ≤ q + 2 ∧ ((∃ cs, Blk w q 84 cs) ∨ (∃ cs, Blk w q 90 cs) ∨ (∃ cs, Blk w q 103 cs) ∨ ∃ es c, w.heap[q]? = some (.map es c))
section
variable {w w' w'' : World} {S Ok Ok' : Nat → Prop} {a b mt B : Nat} {s s' : Ag.AgD} {d d' : Dk.DiskD}
theorem AgB.ty {q t : Nat} {cs : Array Value} (hb : Blk w q t cs) (h1 : t ≠ 84) (h2 : t ≠ 90) (h3 : t ≠ 103) : ¬ AgB B w q := fun h => by
  rcases h.2 with ⟨cs', h⟩ | ⟨cs', h⟩ | ⟨cs', h⟩ | ⟨es, c, h⟩
  · exact absurd rfl (Blk.ne h hb h1.symm)
  · exact absurd rfl (Blk.ne h hb h2.symm)
  · exact absurd rfl (Blk.ne h hb h3.symm)
  · have hb' : w.heap[q]? = some (.cells cs t (0, 0)) := hb
    rw [h] at hb'
    cases hb'
theorem AgB.back {q : Nat} (hx : Ext (AgB B w) w w') (hq : q < w.heap.size) (h : AgB B w' q) : AgB B w q := by
  by_cases hn : AgB B w q
  · exact hn
  · unfold AgB Blk at h
    rw [hx.block q hq hn] at h
    exact h
theorem AgB.trans (hx : Ext (AgB B w) w w') (hy : Ext (AgB B w') w' w'') : Ext (AgB B w) w w'' := hx.trans hy (fun q hb h => AgB.back hx hb h)
theorem AgB.ofd {M : Nat → Prop} (hb : B ≤ b) (hx : Ext (DkB M b w) w w') : Ext (AgB B w) w w' := hx.mono (fun q _ e => ⟨by have := e.1; omega, by rcases e.2 with h | h | h; exact .inr (.inl h); exact .inr (.inr (.inl h)); exact .inr (.inr (.inr h.1))⟩)
theorem AgB.fresh {w0 : World} (hb : w0.heap.size + 2 ≤ B) (h1 : Ext Nothing w0 w) (h : Ext (AgB B w) w w') : Ext Nothing w0 w' := h1.trans h (fun q hq e => by have := e.1; omega)
/-- the machine in block a -/
structure AgIs (w : World) (Ok : Nat → Prop) (B a b mt : Nat) (s : Ag.AgD) (d : Dk.DiskD) : Prop where
  blk : Blk w a 84 (s.cells b mt)
  disk : DiskIs (fun q => q = mt) w Ok b d
  tasks : TM w mt s.tasks
  good : Dk.Good d
  beats : s.beats.length = 8
  ge : B ≤ a + 2 ∧ B ≤ b ∧ B ≤ mt + 2
theorem AgB.off : Off w (AgB B w) Ok := fun q cs h hb => absurd h (AgB.ty hb (by decide) (by decide) (by decide))
end
end Go.Proofs.YtockcifkphfnlaaGreatDoor
