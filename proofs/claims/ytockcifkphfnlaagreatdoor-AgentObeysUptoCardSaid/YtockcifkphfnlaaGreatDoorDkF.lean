/- The disk, plain: files by name, what was done since the last Sync, how many operations are left; no program is named. -/
import Derived.WalkKit
namespace Go.Proofs.YtockcifkphfnlaaGreatDoor
set_option linter.unusedVariables false
set_option linter.unusedSimpArgs false
namespace Dk

abbrev Str := List UInt8
abbrev Files := List (Str × List UInt8)
def find (l : Files) (s : Str) : Option (List UInt8) := (l.find? (fun f => f.1 == s)).map (·.2)
def without (l : Files) (s : Str) : Files := l.filter (fun f => !(f.1 == s))
def with_ (l : Files) (f : Str × List UInt8) : Files := (without l f.1).takeWhile (fun g => decide (g.1 < f.1)) ++ f :: (without l f.1).dropWhile (fun g => decide (g.1 < f.1))
/-- something that was done: kind 0 Append, 1 Put, 2 Remove, 3 Rename -/
structure DidD where
  kind : Nat
  name : Str
  to_ : Str
  data : List UInt8
def does (l : Files) (x : DidD) : Files :=
  if x.kind = 0 then with_ l (x.name, (find l x.name).getD [] ++ x.data)
  else if x.kind = 1 then with_ l (x.name, x.data)
  else if x.kind = 3 then with_ (without l x.name) (x.to_, (find l x.name).getD [])
  else without l x.name
structure DiskD where
  dur : Files
  done : List DidD
  /-- operations left, below 0: no end -/
  left : Int
def DiskD.files (d : DiskD) : Files := d.done.foldl does d.dur
def new : DiskD := ⟨[], [], -1⟩
def letter (b : UInt8) : Bool := (97 ≤ b && b ≤ 122) || (48 ≤ b && b ≤ 57) || b == 46 || b == 45
def nameOk (s : Str) : Bool := s.all letter && (!s.isEmpty && decide (s.length ≤ 32))
def DiskD.counted (d : DiskD) : DiskD := if 0 < d.left then { d with left := d.left - 1 } else d
def DiskD.did (d : DiskD) (x : DidD) : DiskD := DiskD.counted { d with done := d.done ++ [x] }
/-- how many bytes a file would have -/
def size (d : DiskD) (kind : Nat) (s : Str) (data : List UInt8) : Nat := (if kind = 0 then ((find d.files s).getD []).length else 0) + data.length
/-- may a file have so many bytes? -/
def full (d : DiskD) (kind : Nat) (s : Str) (data : List UInt8) : Bool := ((find d.files s).isNone && decide (64 ≤ d.files.length)) || decide (1048576 < size d kind s data)
/-- Append (kind 0) and Put (kind 1): the new disk, and the answer -/
def DiskD.write (d : DiskD) (kind : Nat) (s : Str) (data : List UInt8) : DiskD × Int :=
  if nameOk s = false then (d, 1)
  else if d.left = 0 then (d, 11)
  else if full d kind s data then (d, 2)
  else (d.did ⟨kind, s, [], data⟩, 0)
def DiskD.read (d : DiskD) (s : Str) : List UInt8 × Int :=
  if nameOk s = false then ([], 1)
  else match find d.files s with
    | none => ([], 12)
    | some l => (l, 0)
/-- Remove (kind 2) and Rename (kind 3) -/
def DiskD.move (d : DiskD) (x : DidD) (b : Str) : DiskD × Int :=
  if (!nameOk x.name || !nameOk b) = true then (d, 1)
  else if d.left = 0 then (d, 11)
  else if (find d.files x.name).isNone then (d, 12)
  else (d.did x, 0)
def DiskD.remove (d : DiskD) (s : Str) : DiskD × Int := d.move ⟨2, s, [], []⟩ s
def DiskD.rename (d : DiskD) (s t : Str) : DiskD × Int := d.move ⟨3, s, t, []⟩ t
def DiskD.list (d : DiskD) : List Str := d.files.map (·.1)
def DiskD.sync (d : DiskD) : DiskD × Int :=
  if d.left = 0 then (d, 11) else (DiskD.counted { d with dur := d.files, done := [] }, 0)
def DiskD.cutAt (d : DiskD) (n : Int) : DiskD × Int :=
  if n < 0 ∨ 1099511627776 < n then (d, 1) else ({ d with left := n }, 0)
def units (x : DidD) : Nat := if x.kind = 0 ∧ 0 < x.data.length then x.data.length else 1
def allUnits (l : List DidD) : Nat := (l.map units).sum
/-- what is left of p units of what was done -/
def torn : Files → List DidD → Nat → Files
  | l, [], _ => l
  | l, x :: r, p => if p = 0 then l else if units x ≤ p then torn (does l x) r (p - units x) else does l { x with data := x.data.take p }
def pick (d : DiskD) (k : Int) : Nat := (k % ((allUnits d.done : Int) + 1)).toNat
def DiskD.crash (d : DiskD) (k : Int) : DiskD := ⟨torn d.dur d.done (pick d k), [], -1⟩

/-! ### files by name -/
def keys (l : Files) : List Str := l.map (·.1)
abbrev Asc (l : Files) : Prop := (keys l).Pairwise (· < ·)
theorem lt_irrefl' (a : Str) : ¬ a < a := List.lt_irrefl a
theorem lt_trans' {a b c : Str} (h : a < b) (k : b < c) : a < c := List.lt_trans h k
theorem lt_or_gt' {a b : Str} (h : a ≠ b) : a < b ∨ b < a := by
  rcases List.le_total a b with h1 | h1
  · by_cases h2 : a < b
    · exact .inl h2
    · exact absurd (List.le_antisymm h1 (List.not_lt.1 h2)) h
  · by_cases h2 : b < a
    · exact .inr h2
    · exact absurd (List.le_antisymm (List.not_lt.1 h2) h1) h
theorem without_keys (l : Files) (s : Str) : keys (without l s) = (keys l).filter (fun k => !(k == s)) := by
  induction l with
  | nil => rfl
  | cons f r ih =>
    unfold without keys at *
    rw [List.filter_cons, List.map_cons, List.filter_cons]
    split <;> simp_all
theorem without_asc {l : Files} (h : Asc l) (s : Str) : Asc (without l s) := by
  unfold Asc
  rw [without_keys]
  exact h.filter _
theorem mem_without {l : Files} {s : Str} {f : Str × List UInt8} : f ∈ without l s ↔ f ∈ l ∧ f.1 ≠ s := by
  unfold without
  rw [List.mem_filter]
  simp
theorem with_perm (l : Files) (f : Str × List UInt8) : (with_ l f).Perm (f :: without l f.1) := by
  unfold with_
  refine List.perm_middle.trans ?_
  rw [List.takeWhile_append_dropWhile]
theorem with_mem {l : Files} {f g : Str × List UInt8} : g ∈ with_ l f ↔ g = f ∨ (g ∈ l ∧ g.1 ≠ f.1) := by
  rw [(with_perm l f).mem_iff, List.mem_cons, mem_without]
theorem ins_asc : ∀ {l : Files} {f : Str × List UInt8}, Asc l → (∀ g ∈ l, g.1 ≠ f.1) → Asc (l.takeWhile (fun g => decide (g.1 < f.1)) ++ f :: l.dropWhile (fun g => decide (g.1 < f.1)))
  | [], f, _, _ => by simp [Asc, keys]
  | g :: r, f, h, hn => by
    have h' : (∀ k ∈ keys r, g.1 < k) ∧ Asc r := by
      have := h
      unfold Asc keys at this ⊢
      rw [List.map_cons, List.pairwise_cons] at this
      exact this
    by_cases hg : g.1 < f.1
    · rw [List.takeWhile_cons_of_pos (by simpa using hg), List.dropWhile_cons_of_pos (by simpa using hg)]
      have ih := ins_asc (f := f) h'.2 (fun x hx => hn x (List.mem_cons_of_mem _ hx))
      unfold Asc keys at ih ⊢
      rw [List.cons_append, List.map_cons, List.pairwise_cons]
      refine ⟨fun k hk => ?_, ih⟩
      obtain ⟨x, hx, rfl⟩ := List.mem_map.1 hk
      rcases List.mem_append.1 hx with hx | hx
      · exact h'.1 _ (List.mem_map_of_mem ((List.takeWhile_sublist _).mem hx))
      · rcases List.mem_cons.1 hx with rfl | hx
        · exact hg
        · exact h'.1 _ (List.mem_map_of_mem ((List.dropWhile_sublist _).mem hx))
    · rw [List.takeWhile_cons_of_neg (by simpa using hg), List.dropWhile_cons_of_neg (by simpa using hg)]
      have hfg : f.1 < g.1 := (lt_or_gt' (hn g (List.mem_cons_self ..))).resolve_left hg
      unfold Asc keys at h ⊢
      rw [List.nil_append, List.map_cons, List.pairwise_cons]
      refine ⟨fun k hk => ?_, h⟩
      rw [List.map_cons, List.mem_cons] at hk
      rcases hk with rfl | hk
      · exact hfg
      · exact lt_trans' hfg (h'.1 k hk)
theorem with_asc {l : Files} (h : Asc l) (f : Str × List UInt8) : Asc (with_ l f) := ins_asc (without_asc h _) (fun g hg => (mem_without.1 hg).2)
theorem does_asc {l : Files} (h : Asc l) (x : DidD) : Asc (does l x) := by
  unfold does
  split
  · exact with_asc h _
  · split
    · exact with_asc h _
    · split
      · exact with_asc (without_asc h _) _
      · exact without_asc h _
theorem foldl_asc {l : Files} (h : Asc l) : ∀ xs : List DidD, Asc (xs.foldl does l)
  | [] => h
  | x :: r => foldl_asc (does_asc h x) r
theorem asc_find {l : Files} (h : Asc l) {s : Str} {v : List UInt8} : find l s = some v ↔ (s, v) ∈ l := by
  unfold find
  constructor
  · intro e
    cases hf : l.find? (fun f => f.1 == s) with
    | none => rw [hf] at e; cases e
    | some f =>
      rw [hf] at e
      have h1 := List.find?_some hf
      have h2 := List.mem_of_find?_eq_some hf
      simp only [beq_iff_eq] at h1
      simp only [Option.map_some, Option.some.injEq] at e
      obtain ⟨a, b⟩ := f
      simp only at h1 e
      rw [← h1, ← e]
      exact h2
  · intro hm
    cases hf : l.find? (fun f => f.1 == s) with
    | none =>
      have := List.find?_eq_none.1 hf _ hm
      simp at this
    | some f =>
      have h1 := List.find?_some hf
      have h2 := List.mem_of_find?_eq_some hf
      simp only [beq_iff_eq] at h1
      have : f = (s, v) := by
        by_cases he : f = (s, v)
        · exact he
        · exfalso
          have hp : l.Pairwise (fun a b => a.1 < b.1) := by
            have := h
            unfold Asc keys at this
            exact List.pairwise_map.1 this
          have hh := List.Pairwise.forall_of_forall_of_flip (R := fun a b : Str × List UInt8 => a = b ∨ a.1 ≠ b.1) (l := l) (fun a _ => .inl rfl) (hp.imp (fun {a b} hab => .inr (fun e => lt_irrefl' a.1 (by rw [e] at hab ⊢; exact hab)))) (hp.imp (fun {a b} hab => .inr (fun e => lt_irrefl' a.1 (by rw [e] at hab; exact hab))))
          rcases hh h2 hm with e | e
          · exact he e
          · exact e h1
      rw [this]
      rfl
theorem find_none {l : Files} {s : Str} : find l s = none ↔ s ∉ keys l := by
  unfold find keys
  rw [Option.map_eq_none_iff, List.find?_eq_none]
  constructor
  · intro h hm
    obtain ⟨f, hf, rfl⟩ := List.mem_map.1 hm
    exact h f hf (by simp)
  · intro h f hf e
    simp only [beq_iff_eq] at e
    exact h (List.mem_map.2 ⟨f, hf, e⟩)
end Dk
end Go.Proofs.YtockcifkphfnlaaGreatDoor
