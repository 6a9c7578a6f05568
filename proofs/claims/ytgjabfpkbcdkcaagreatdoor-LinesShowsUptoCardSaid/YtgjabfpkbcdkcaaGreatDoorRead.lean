/- Readings: what an argument's reading gives as lists of cells; the law's last step: true, and the arguments as they were. No function is named. -/
import Derived.Test.YtgjabfpkbcdkcaaGreatDoorBase
import Derived.Test.YtgjabfpkbcdkcaaGreatDoorRows
import Derived.ProofKit
import Derived.Deep.Slices
import Derived.JoinedCond
import Derived.Deep.CondSized
namespace Go.Proofs.YtgjabfpkbcdkcaaGreatDoor
set_option linter.unusedVariables false
open Go.RowKit Go.ChangeShapes Go.WideShapes Go.ChangeAt Go.Deep

/-! ### what the bound gives -/
theorem bulk_one {H : Type} (d : DataW H) : 1 ≤ Rows.uptoBulk d := by
  cases d with
  | lit l => cases l <;> simp [Rows.uptoBulk]
  | nil => simp [Rows.uptoBulk]
  | ptr d => simp [Rows.uptoBulk]
  | slice elems spare => simp [Rows.uptoBulk]
  | agg parts => simp [Rows.uptoBulk]
  | iface t d => simp [Rows.uptoBulk]
  | map entries => simp [Rows.uptoBulk]
  | held h => simp [Rows.uptoBulk]
theorem bulk_part {H : Type} {d : DataW H} {l : List (DataW H)} (h : d ∈ l) : Rows.uptoBulk d ≤ Rows.uptoBulkAll l := by
  induction l with
  | nil => cases h
  | cons x r ih =>
    simp only [Rows.uptoBulkAll]
    cases List.mem_cons.1 h with
    | inl e => subst e; omega
    | inr e => have := ih e; omega
theorem bulk_len {H : Type} (l : List (DataW H)) : l.length ≤ Rows.uptoBulkAll l := by
  induction l with
  | nil => simp [Rows.uptoBulkAll]
  | cons x r ih => have := bulk_one x; simp only [Rows.uptoBulkAll, List.length_cons]; omega

section
variable {H : Type} {enc : TypeId × Value → H} {P : Program} {w : World} {base : Nat} {spare : Nat → Bool} {held : Bool}
/-- one cell reads, as something of bulk at most B -/
def Leaf (enc : TypeId × Value → H) (P : Program) (w : World) (base : Nat) (spare : Nat → Bool) (held : Bool) (B : Nat) (t : TypeId) (c : Value) : Prop :=
  ∃ n y, DataW.trod enc P w base spare held n t [c] = some y ∧ Rows.uptoBulk y.1 ≤ B
def Leaves (enc : TypeId × Value → H) (P : Program) (w : World) (base : Nat) (spare : Nat → Bool) (held : Bool) (B : Nat) : List TypeId → List Value → Prop
  | [], [] => True
  | t :: ts, c :: cs => Leaf enc P w base spare held B t c ∧ Leaves enc P w base spare held B ts cs
  | _, _ => False
theorem Leaves.append {B : Nat} : ∀ {ts ts' : List TypeId} {cs cs' : List Value}, Leaves enc P w base spare held B ts cs → Leaves enc P w base spare held B ts' cs' → Leaves enc P w base spare held B (ts ++ ts') (cs ++ cs')
  | [], _, [], _, _, h => h
  | t :: ts, _, c :: cs, _, h, h' => ⟨h.1, Leaves.append h.2 h'⟩
  | [], _, _ :: _, _, h, _ => h.elim
  | _ :: _, _, [], _, h, _ => h.elim
/-- the types of a struct's cells, in their order -/
def flatT (P : Program) : Nat → TypeId → List TypeId
  | 0, t => [t]
  | n + 1, t => match P.underlying t with
    | some (.struct fs) => fs.toList.flatMap fun f => flatT P n f.type
    | _ => [t]
def offsOk (P : Program) : List Field → Nat → Option Nat
  | [], k => some k
  | f :: fs, k => if f.offset = k then offsOk P fs (k + P.cellsOf f.type) else none
def flatOk (P : Program) : Nat → TypeId → Bool
  | 0, t => P.cellsOf t == 1 && (match P.underlying t with | some (.array _ _) => false | _ => true)
  | n + 1, t => match P.underlying t with
    | some (.struct fs) => offsOk P fs.toList 0 == some (P.cellsOf t) && fs.toList.all fun f => flatOk P n f.type
    | some (.array _ _) => false
    | _ => P.cellsOf t == 1
theorem flat_no_array {P : Program} {d t : Nat} (h : flatOk P d t = true) : ∀ k e, P.underlying t ≠ some (.array k e) := by
  intro k e he
  cases d <;> simp [flatOk, he] at h
theorem flat_len_one : ∀ {cs : List Value} {y : DataW H × List MemPlace} {n t : Nat}, DataW.trod enc P w base spare held n t cs = some y → (∀ fs, P.underlying t ≠ some (.struct fs)) → (∀ k e, P.underlying t ≠ some (.array k e)) → ∃ c, cs = [c] := by
  intro cs y n t h hs ha
  cases n with
  | zero => simp [DataW.trod] at h
  | succ n =>
    unfold DataW.trod at h
    split at h
    all_goals first
      | exact ⟨_, rfl⟩
      | (rename_i hu; exact absurd hu (hs _))
      | (rename_i hu; exact absurd hu (ha _ _))
      | simp at h
theorem leaves_fields {B n : Nat} (hrec : ∀ {t : TypeId} {cs : List Value} {m : Nat} {y : DataW H × List MemPlace}, flatOk P n t = true → DataW.trod enc P w base spare held m t cs = some y → Rows.uptoBulk y.1 ≤ B → Leaves enc P w base spare held B (flatT P n t) cs) :
    ∀ (fs : List Field) (k : Nat) (cs : List Value), offsOk P fs k = some cs.length → (fs.all fun f => flatOk P n f.type) = true →
      (∀ f ∈ fs, ∃ m y, DataW.trod enc P w base spare held m f.type ((cs.drop f.offset).take (P.cellsOf f.type)) = some y ∧ Rows.uptoBulk y.1 ≤ B) → Leaves enc P w base spare held B (fs.flatMap fun f => flatT P n f.type) (cs.drop k)
  | [], k, cs, ho, _, _ => by
    simp only [offsOk, Option.some.injEq] at ho
    rw [ho, List.drop_length]; exact trivial
  | f :: fs, k, cs, ho, ha, hf => by
    simp only [offsOk] at ho
    split at ho
    · rename_i hk
      simp only [List.all_cons, Bool.and_eq_true] at ha
      obtain ⟨m, y, h1, h2⟩ := hf f (List.mem_cons_self ..)
      have h3 := hrec ha.1 h1 h2
      have h4 := leaves_fields hrec fs (k + P.cellsOf f.type) cs ho ha.2 (fun g hg => hf g (List.mem_cons_of_mem _ hg))
      have h5 : cs.drop k = (cs.drop f.offset).take (P.cellsOf f.type) ++ cs.drop (k + P.cellsOf f.type) := by
        rw [hk, ← List.drop_drop, List.take_append_drop]
      rw [h5, List.flatMap_cons]
      exact h3.append h4
    · cases ho
/-- a reading gives each cell's reading -/
theorem leaves {B : Nat} : ∀ {d : Nat} {t : TypeId} {cs : List Value} {m : Nat} {y : DataW H × List MemPlace}, flatOk P d t = true → DataW.trod enc P w base spare held m t cs = some y → Rows.uptoBulk y.1 ≤ B → Leaves enc P w base spare held B (flatT P d t) cs
  | 0, t, cs, m, y, hok, h, hB => by
    have ha := flat_no_array hok
    by_cases hs : ∃ fs, P.underlying t = some (.struct fs)
    · obtain ⟨fs, hs⟩ := hs
      obtain ⟨xs, n, _, _, hl, _⟩ := DataW.trod_struct hs h
      simp only [flatOk, Bool.and_eq_true, beq_iff_eq] at hok
      rw [hok.1] at hl
      obtain ⟨c, rfl⟩ := List.length_eq_one_iff.1 hl
      exact ⟨⟨m, y, h, hB⟩, trivial⟩
    · obtain ⟨c, rfl⟩ := flat_len_one h (fun fs e => hs ⟨fs, e⟩) ha
      exact ⟨⟨m, y, h, hB⟩, trivial⟩
  | d + 1, t, cs, m, y, hok, h, hB => by
    have ha := flat_no_array hok
    by_cases hs : ∃ fs, P.underlying t = some (.struct fs)
    · obtain ⟨fs, hs⟩ := hs
      obtain ⟨xs, n, _, hy, hl, hxl, hf⟩ := DataW.trod_struct hs h
      simp only [flatOk, hs, Bool.and_eq_true, beq_iff_eq] at hok
      simp only [flatT, hs]
      have h0 := leaves_fields (n := d) (B := B) (fun h1 h2 h3 => leaves h1 h2 h3) fs.toList 0 cs (by rw [hl]; exact hok.1) hok.2 (fun f hm => by
        obtain ⟨i, hi⟩ := List.getElem?_of_mem hm
        have hi' : fs[i]? = some f := by simpa using hi
        have h6 := hf i f hi'
        have hil : i < xs.length := by rw [hxl]; exact (Array.getElem?_eq_some_iff.1 hi').1
        rw [List.getElem?_eq_getElem hil] at h6
        refine ⟨n, xs[i], h6, Nat.le_trans ?_ hB⟩
        subst hy
        simp only [Rows.uptoBulk]
        have := bulk_part (List.mem_map.2 ⟨xs[i], List.getElem_mem hil, rfl⟩ : xs[i].1 ∈ xs.map (·.1))
        omega)
      simpa using h0
    · have h7 : flatT P (d + 1) t = [t] := by
        simp only [flatT]; split
        · rename_i fs he; exact absurd ⟨fs, he⟩ hs
        · rfl
      rw [h7]
      obtain ⟨c, rfl⟩ := flat_len_one h (fun fs e => hs ⟨fs, e⟩) ha
      exact ⟨⟨m, y, h, hB⟩, trivial⟩
theorem Leaf.int {B : Nat} {t : TypeId} {c : Value} {k : IntKind} (ht : P.underlying t = some (.int k)) (h : Leaf enc P w base spare held B t c) : ∃ a, c = .int k a ∧ (Lit.int k a).wf = true := by
  obtain ⟨n, y, h1, _⟩ := h
  obtain ⟨a, e1, _, e2⟩ := DataW.trod_int ht h1
  exact ⟨a, by simpa using e1, e2⟩
theorem Leaf.bool {B : Nat} {t : TypeId} {c : Value} (ht : P.underlying t = some .bool) (h : Leaf enc P w base spare held B t c) : ∃ a, c = .bool a := by
  obtain ⟨n, y, h1, _⟩ := h
  obtain ⟨a, e1, _⟩ := DataW.trod_bool ht h1
  exact ⟨a, by simpa using e1⟩
/-- a slice opened: its elements as lists of cells, each with what its own reading gives -/
theorem Leaf.slice {α : Type} {B sz : Nat} {t e : TypeId} {c : Value} (f : α → List Value) (ok : α → Prop) (ht : P.underlying t = some (.slice e)) (hC : P.cellsOf e = sz) (hsz : 0 < sz)
    (hel : ∀ n cs y, DataW.trod enc P w base spare held n e cs = some y → Rows.uptoBulk y.1 ≤ B → ∃ x : α, cs = f x ∧ ok x)
    (h : Leaf enc P w base spare held B t c) : ∃ A n cap, ∃ xs : List α, c = .slice A n cap ∧ Sl w sz A n (xs.map f) ∧ (∀ x ∈ xs, ok x) ∧ n + 1 ≤ B ∧ n ≤ maxLen := by
  obtain ⟨n, y, h1, hB⟩ := h
  rcases open_slice ht h1 with ⟨e1, rfl⟩ | ⟨a, len, cap, m, n', D, Pl, e1, hb, hl, hcap, hm, rfl, hi⟩
  · obtain rfl : c = .slice none 0 0 := by simpa using e1
    exact ⟨none, 0, 0, [], rfl, Sl.nil _ _ _, by simp, by simpa [Rows.uptoBulk] using hB, by unfold maxLen; omega⟩
  · obtain rfl : c = .slice (some a) len cap := by simpa using e1
    have hB' : Rows.uptoBulkAll ((List.range len).map D) + 1 ≤ B := by
      simp only [Rows.uptoBulk] at hB; omega
    have hlen : len + 1 ≤ B := by
      have := bulk_len ((List.range len).map D)
      simp at this; omega
    have hml : len ≤ m := by rw [hm]; split <;> omega
    clear hm
    have hx : ∀ i, i < len → ∃ x : α, ok x ∧ a.spot = none ∧ (f x).length = sz ∧ ∀ j u, (f x)[j]? = some u → w.cell? ⟨a.block, a.off + i * sz + j, none⟩ = some u := by
      intro i hlt
      obtain ⟨cs', hc, ht'⟩ := hi i (by omega)
      rw [hC] at hc
      obtain ⟨_, hcl, hat⟩ := World.cells?_some hc
      obtain ⟨x, rfl, hox⟩ := hel _ _ _ ht' (by
        show Rows.uptoBulk (D i) ≤ B
        have := bulk_part (List.mem_map.2 ⟨i, List.mem_range.2 hlt, rfl⟩ : D i ∈ (List.range len).map D)
        omega)
      have hsp : a.spot = none := by
        have h0 := hat 0 hsz
        rw [List.getElem?_eq_getElem (by omega)] at h0
        cases hs : a.spot with
        | none => rfl
        | some s =>
          exfalso
          by_cases hi0 : i * sz = 0
          · have : ((a.add (i * sz)).add 0) = a := by simp [Addr.add, hi0]
            rw [this] at h0
            simp only [World.cell?, hs] at h0
            split at h0 <;> simp at h0
          · have hi1 : i ≠ 0 := by rintro rfl; simp at hi0
            obtain ⟨cs0, hc0, _⟩ := hi 0 (by omega)
            rw [hC] at hc0
            obtain ⟨_, hcl0, hat0⟩ := World.cells?_some hc0
            have h1 := hat0 0 hsz
            rw [List.getElem?_eq_getElem (by omega)] at h1
            have : ((a.add (0 * sz)).add 0) = a := by simp [Addr.add]
            rw [this] at h1
            simp only [World.cell?, hs] at h1
            split at h1 <;> simp at h1
      refine ⟨x, hox, hsp, hcl, fun j u hu => ?_⟩
      have hj : j < sz := by rw [← hcl]; exact (List.getElem?_eq_some_iff.1 hu).1
      have h0 := hat j hj
      rw [hu] at h0
      have : (a.add (i * sz)).add j = ⟨a.block, a.off + i * sz + j, none⟩ := by
        obtain ⟨ab, ao, asp⟩ := a
        simp only at hsp
        subst hsp
        unfold Addr.add
        by_cases h1 : i * sz = 0 <;> by_cases h2 : j = 0 <;> simp [h1, h2]
      rw [this] at h0
      exact h0
    obtain ⟨xs, hxl, hxs⟩ : ∃ xs : List α, xs.length = len ∧ ∀ i x, xs[i]? = some x → ok x ∧ a.spot = none ∧ (f x).length = sz ∧ ∀ j u, (f x)[j]? = some u → w.cell? ⟨a.block, a.off + i * sz + j, none⟩ = some u := by
      clear hlen hml hB hB' hl hcap h1
      have : ∀ k, k ≤ len → ∃ xs : List α, xs.length = k ∧ ∀ i x, xs[i]? = some x → ok x ∧ a.spot = none ∧ (f x).length = sz ∧ ∀ j u, (f x)[j]? = some u → w.cell? ⟨a.block, a.off + i * sz + j, none⟩ = some u := by
        intro k
        induction k with
        | zero => intro _; exact ⟨[], rfl, by simp⟩
        | succ k ih =>
          intro hk
          obtain ⟨xs, h1, h2⟩ := ih (by omega)
          obtain ⟨x, h3⟩ := hx k (by omega)
          refine ⟨xs ++ [x], by simp [h1], fun i z hz => ?_⟩
          rcases Nat.lt_or_ge i xs.length with h | h
          · rw [List.getElem?_append_left h] at hz; exact h2 i z hz
          · rw [List.getElem?_append_right h] at hz
            obtain ⟨h4, h5⟩ := List.getElem?_eq_some_iff.1 hz
            simp at h4 h5
            subst h5
            have : i = k := by omega
            subst this
            exact h3
      exact this len (Nat.le_refl _)
    refine ⟨some a, len, cap, xs, rfl, ⟨by simpa using hxl.symm, fun i cs hcs => ?_⟩, fun x hx => ?_, hlen, by omega⟩
    · rw [List.getElem?_map] at hcs
      obtain ⟨x, hx1, rfl⟩ := Option.map_eq_some_iff.1 hcs
      obtain ⟨_, h2, h3, h4⟩ := hxs i x hx1
      exact ⟨a.block, a.off, by obtain ⟨ab, ao, asp⟩ := a; simp only at h2; subst h2; rfl, h3, h4⟩
    · obtain ⟨i, hi⟩ := List.getElem?_of_mem hx
      exact (hxs i x hi).1

theorem trodAll_stays (hl : laidOutB P = true) {W W' : World} {sp' : Nat → Bool} : ∀ {ts : List TypeId} {vs : List Value} {ds : List (DataW H)} {ps : List MemPlace},
    (∀ t ∈ ts, P.readableRec t = true ∧ t < P.types.size) → DataW.TrodAll enc P W 0 (fun _ => true) true ts vs ds ps → (∀ p ∈ ps, W.sameAt W' p) → (∀ p ∈ ps, sp' p.block = true) → DataW.TrodAll enc P W' 0 sp' true ts vs ds ps
  | [], [], [], _, _, h, _, _ => h
  | t :: ts, v :: vs, d :: ds, ps, hr, h, hs, hp => by
    obtain ⟨p, q, h1, h2, rfl⟩ := h
    have h3 := hr t (List.mem_cons_self ..)
    exact ⟨p, q, WideElems.Trod_stays hl h3.1 h3.2 h1 (fun x hx => hs x (List.mem_append_left _ hx)) (fun x hx => hp x (List.mem_append_left _ hx)),
      trodAll_stays hl (fun u hu => hr u (List.mem_cons_of_mem _ hu)) h2 (fun x hx => hs x (List.mem_append_right _ hx)) (fun x hx => hp x (List.mem_append_right _ hx)), rfl⟩
  | [], [], _ :: _, _, _, h, _, _ => h.elim
  | [], _ :: _, _, _, _, h, _, _ => h.elim
  | _ :: _, [], _, _, _, h, _, _ => h.elim
  | _ :: _, _ :: _, [], _, _, h, _, _ => h.elim

/-- A LAW's LAST STEP: it returned true, and nothing that was there has turned. -/
theorem law_post {f : Func} {s : ChangeSpec} {apart : Bool} {W W' : World} {args : Array Value} {ds gs : List (DataW H)} {before : List MemPlace} {tb : TypeId}
    (hl : laidOutB P = true) (hpar : ∀ t ∈ f.params.toList, P.readableRec t = true ∧ t < P.types.size) (hres : f.resultTypes = #[tb]) (htb : P.underlying tb = some .bool) (hv : s.vars = [])
    (hW : DataW.Whole enc P f.params.toList s.vars apart W args.toList ds gs before)
    (h1 : (s.fn H (ds ++ gs)).results = [.lit (.bool true)]) (h2 : (s.fn H (ds ++ gs)).args = ds) (h3 : (s.fn H (ds ++ gs)).vars = []) (hb : Below W.heap.size W W') :
    s.post enc P f apart true false false W args (.bool true) W' := by
  have hlt : ∀ p ∈ before, p.block < W.heap.size := fun p hp => hW.lt p hp
  have hW' := hW
  obtain ⟨p, q, hA, hV, hpq, hz, hn⟩ := hW
  rw [hv] at hV
  obtain ⟨rfl, rfl⟩ := trodVars_none hV
  rw [List.append_nil] at hpq
  subst hpq
  have hold : ∀ sp : Nat → Bool, (∀ p' ∈ before, sp p'.block = true) → DataW.TrodAll enc P W' 0 sp true f.params.toList args.toList (s.fn H (ds ++ [])).args before := fun sp hsp => by
    rw [h2]
    exact trodAll_stays hl hpar hA (fun x hx => hb.same (hlt x hx)) hsp
  have hr : ∀ (b : Nat) (sp : Nat → Bool) (hd : Bool), DataW.TrodAll enc P W' b sp hd f.resultTypes.toList ((Value.bool true).resultList f.resultTypes.size) (s.fn H (ds ++ [])).results [] := fun b sp hd => by
    rw [h1, hres]
    exact trodAll_mk1 ⟨1, by simp [DataW.trod, Value.cells, htb]⟩
  have hvars : ∀ sp : Nat → Bool, DataW.TrodVars enc P W' sp s.vars (s.fn H (ds ++ [])).vars [] := fun sp => by rw [hv, h3]; rfl
  have hsp0 : ∀ p' ∈ before, (fun b => decide (b < W.heap.size)) p'.block = true := fun p' hp => by simpa using hlt p' hp
  refine ⟨ds, [], before, [], before, [], hW', hr _ _ _, hold _ hsp0, hvars _, World.keptBut_mono (fun p hp => ⟨hp, .inr (.inl hp)⟩) (hb.frame (· ∈ before)), fun h => by cases h⟩
end
end Go.Proofs.YtgjabfpkbcdkcaaGreatDoor
