/- What stands in memory for the program's disk: two maps of files, the deeds as closures. No function is walked. -/
import Derived.Test.YtockcifkphfnlaaGreatDoorKeep
import Derived.Test.YtockcifkphfnlaaGreatDoorQuiet
import Derived.Test.YtockcifkphfnlaaGreatDoorRow
import Derived.Test.YtockcifkphfnlaaGreatDoorLow
import Derived.Test.YtockcifkphfnlaaGreatDoorDkA
namespace Go.Proofs.YtockcifkphfnlaaGreatDoor
set_option linter.unusedVariables false
set_option linter.unusedSimpArgs false
open Go.RowKit
open Go.Maps Go.WideMaps
variable {M : Nat → Prop}

theorem STDisk : StructT Tryz.prog 90 5 := .of (by kernel_rfl)
theorem STDeed : StructT Tryz.prog 103 2 := .of (by kernel_rfl)
theorem SRDeed : SliceT Tryz.prog 88 103 2 := .of (by kernel_rfl)
theorem str_keyed : Keyed Tryz.prog 9 := Go.Maps.string_keyed Tryz.underlying9
theorem filesT : Tryz.prog.underlying 87 = some (.map 9 38) := Tryz.underlying87
abbrev strV (s : Dk.Str) : Value := .string ⟨s.toArray⟩
abbrev bCell (b : UInt8) : List Value := [.int .u8 (b.toNat : Int)]
theorem strV_inj (x y : Dk.Str) (h : strV x = strV y) : x = y := by
  injection h with h
  injection h with h
  exact List.toArray_inj h
theorem str_key {s : Dk.Str} (h : s.length ≤ maxLen) : keyOf Tryz.prog 9 (strV s) = some (.string s) := Go.WideMaps.keyOf_string_mk Tryz.underlying9 (s := ⟨s.toArray⟩) (by simpa [ByteArray.size] using h)
/-- a slice of bytes of the disk's own; its block is one of those of Ok -/
def BytesV (w : World) (Ok : Nat → Prop) (v : Value) (l : List UInt8) : Prop :=
  ∃ A n c, v = .slice A n c ∧ (Sl w 1 A n (l.map bCell) ∧ n ≤ c) ∧ ∀ b, A.map (·.block) = some b → l ≠ [] → Ok b ∧ ∃ cs, Blk w b 5 cs
/-- the blocks of S hold no bytes of those of Ok -/
def Off (w : World) (S Ok : Nat → Prop) : Prop := ∀ b cs, S b → Blk w b 5 cs → ¬ Ok b
section
variable {w w' : World} {S Ok Ok' : Nat → Prop}
theorem Off.none : Off w Nothing Ok := fun _ _ h => h.elim
theorem BytesV.keep {v : Value} {l : List UInt8} (h : BytesV w Ok v l) (hx : Ext S w w') (hS : Off w S Ok) : BytesV w' Ok v l := by
  obtain ⟨A, n, c, rfl, hs, hb⟩ := h
  refine ⟨A, n, c, rfl, ⟨hs.1.ext hx (fun b hb1 hne hs1 => ?_), hs.2⟩, fun b hb1 hne => ?_⟩
  · obtain ⟨h1, cs, h2⟩ := hb b hb1 (fun e => hne (by rw [e]; rfl))
    exact hS b cs hs1 h2 h1
  · obtain ⟨h1, cs, h2⟩ := hb b hb1 hne
    exact ⟨h1, cs, h2.ext hx (fun hs1 => hS b cs hs1 h2 h1)⟩
theorem BytesV.mono {v : Value} {l : List UInt8} (h : BytesV w Ok v l) (hok : ∀ b, b < w.heap.size → Ok b → Ok' b) : BytesV w Ok' v l := by
  obtain ⟨A, n, c, rfl, hs, hb⟩ := h
  exact ⟨A, n, c, rfl, hs, fun b hb1 hne => by
    obtain ⟨h1, cs, h2⟩ := hb b hb1 hne
    exact ⟨hok b h2.lt h1, cs, h2⟩⟩
theorem BytesV.nil (A : Option Addr) (c : Nat) : BytesV w Ok (.slice A 0 c) [] := ⟨A, 0, c, rfl, ⟨Sl.nil _ _ _, Nat.zero_le _⟩, fun _ _ h => absurd rfl h⟩
theorem BytesV.own {base n : Nat} {v : Value} {l : List UInt8} (h : w.ownsRow base 5 1 v n (l.flatMap bCell)) (hn : n = l.length) (hok : ∀ b, base ≤ b → Ok b) : BytesV w Ok v l := by
  obtain ⟨A, c, rfl⟩ := own_slice h
  refine ⟨A, n, c, rfl, ⟨Sl.of_own (fun _ => rfl) h hn, ?_⟩, fun b hb hne => ?_⟩
  · rcases h.2 with ⟨h1, h0⟩ | ⟨g, cap, cur, hv, _, _, hnc, _⟩
    · omega
    · injection hv with _ _ hc
      omega
  rcases h.2 with ⟨_, h0⟩ | ⟨g, cap, cur, hv, hbg, hg, _⟩
  · exact absurd (List.length_eq_zero_iff.1 (by omega)) hne
  · injection hv with hA _ _
    subst hA
    simp only [Option.map_some, Option.some.injEq] at hb
    subst hb
    exact ⟨hok _ hbg, cur, hg⟩
end
/-- the map's entries are stamped, each once -/
def StB (w : World) (b : Nat) : Prop := ∃ es clock, w.heap[b]? = some (.map es clock) ∧ Go.MapKept.Stamped es clock ∧ ∀ x ∈ es.toList, Go.MapKept.IsKey .string x.key
theorem StB.ext {w w' : World} {S : Nat → Prop} {b : Nat} (h : StB w b) (hx : Ext S w w') (hb : ¬ S b) : StB w' b := by
  obtain ⟨es, clock, h1, h2⟩ := h
  exact ⟨es, clock, hx.heap h1 hb, h2⟩
/-- the map in block b reads as the files F -/
structure FM (w : World) (Ok : Nat → Prop) (b : Nat) (F : Dk.Files) : Prop where
  out : ∃ L : List (Dk.Str × (List UInt8 × Value)), MapIs Tryz.prog 9 strV (fun p : List UInt8 × Value => p.2) w b L ∧ (∀ p ∈ L, BytesV w Ok p.2.2 p.2.1) ∧ (L.map fun p => (p.1, p.2.1)).Perm F
  st : StB w b
section
variable {w w' : World} {S Ok Ok' : Nat → Prop} {b : Nat} {F : Dk.Files}
theorem FM.keep (h : FM w Ok b F) (hx : Ext S w w') (hb : ¬ S b) (hS : Off w S Ok) : FM w' Ok b F := by
  obtain ⟨L, h1, h2, h3⟩ := h.out
  exact ⟨⟨L, h1.ext hx hb, fun p hp => (h2 p hp).keep hx hS, h3⟩, h.st.ext hx hb⟩
theorem FM.mono (h : FM w Ok b F) (hok : ∀ b, b < w.heap.size → Ok b → Ok' b) : FM w Ok' b F := by
  obtain ⟨L, h1, h2, h3⟩ := h.out
  exact ⟨⟨L, h1, fun p hp => (h2 p hp).mono hok, h3⟩, h.st⟩
theorem FM.lt (h : FM w Ok b F) : b < w.heap.size := by
  obtain ⟨L, h1, _⟩ := h.out
  exact h1.lt
theorem FM.ne (h : FM w Ok b F) {g : Nat} {t : TypeId} {cs : Array Value} (hg : Blk w g t cs) : b ≠ g := by
  obtain ⟨L, h1, _⟩ := h.out
  exact h1.ne_blk hg
theorem FM.new (w : World) (Ok : Nat → Prop) : FM (w.alloc (.map #[] 0)) Ok w.heap.size [] := ⟨⟨[], MapIs.new w, by simp, by simp⟩, ⟨#[], 0, heap_alloc_new w _, Go.MapKept.stamped_empty 0, by simp⟩⟩
end
/-- the closure of a deed: a Put -/
def DeedV (w : World) (Ok : Nat → Prop) (v : Value) (x : Dk.DidD) : Prop :=
  x.kind = 1 ∧ ∃ q r c, v = .func (.func 50) #[] #[.pointer (some ⟨r, 0, none⟩), .pointer (some ⟨q, 0, none⟩)] ∧ Blk w q 9 #[strV x.name] ∧ Blk w r 38 #[c] ∧ BytesV w Ok c x.data
/-- block q is one that the disk's operations may write: the disk's own, a row of deeds, a map -/
def DkB (M : Nat → Prop) (b : Nat) (w : World) (q : Nat) : Prop := b ≤ q + 2 ∧ ((∃ cs, Blk w q 90 cs) ∨ (∃ cs, Blk w q 103 cs) ∨ ((∃ es c, w.heap[q]? = some (.map es c)) ∧ ¬ M q))
section
variable {w w' w'' : World} {S Ok Ok' : Nat → Prop} {B : Nat}
theorem DkB.off : Off w (DkB M B w) Ok := fun b cs h hb => by
  rcases h.2 with ⟨cs', h⟩ | ⟨cs', h⟩ | ⟨⟨es, c, h⟩, _⟩
  · exact absurd rfl (Blk.ne h hb (by decide))
  · exact absurd rfl (Blk.ne h hb (by decide))
  · have hb' : w.heap[b]? = some (.cells cs 5 (0, 0)) := hb
    rw [h] at hb'
    cases hb'
theorem DkB.blk {g : Nat} {t : TypeId} {cs : Array Value} (hb : Blk w g t cs) (h1 : t ≠ 90) (h2 : t ≠ 103) : ¬ DkB M B w g := fun h => by
  rcases h.2 with ⟨cs', h⟩ | ⟨cs', h⟩ | ⟨⟨es, c, h⟩, _⟩
  · exact absurd rfl (Blk.ne h hb h1.symm)
  · exact absurd rfl (Blk.ne h hb h2.symm)
  · have hb' : w.heap[g]? = some (.cells cs t (0, 0)) := hb
    rw [h] at hb'
    cases hb'
theorem DkB.back {q : Nat} (hx : Ext (DkB M B w) w w') (hq : q < w.heap.size) (h : DkB M B w' q) : DkB M B w q := by
  by_cases hn : DkB M B w q
  · exact hn
  · unfold DkB Blk at h
    rw [hx.block q hq hn] at h
    exact h
theorem DkB.trans (hx : Ext (DkB M B w) w w') (hy : Ext (DkB M B w') w' w'') : Ext (DkB M B w) w w'' := hx.trans hy (fun b hb h => DkB.back hx hb h)
theorem Blk.dk {g : Nat} {t : TypeId} {cs : Array Value} (hb : Blk w g t cs) (hx : Ext (DkB M B w) w w') (h1 : t ≠ 90) (h2 : t ≠ 103) : Blk w' g t cs := hb.ext hx (DkB.blk hb h1 h2)
/-- S is away from the boxes that closures hold: blocks of one cell -/
def Box (w : World) (S : Nat → Prop) : Prop := ∀ b c, S b → ¬ Blk w b 9 #[c] ∧ ¬ Blk w b 38 #[c]
theorem Box.none : Box w Nothing := fun _ _ h => h.elim
theorem DkB.box : Box w (DkB M B w) := fun b cs h => ⟨fun hb => DkB.blk hb (by decide) (by decide) h, fun hb => DkB.blk hb (by decide) (by decide) h⟩
theorem DeedV.keep {v : Value} {x : Dk.DidD} (h : DeedV w Ok v x) (hx : Ext S w w') (hS : Off w S Ok) (hB : Box w S) : DeedV w' Ok v x := by
  obtain ⟨h0, q, r, c, h1, h2, h3, h4⟩ := h
  exact ⟨h0, q, r, c, h1, h2.ext hx (fun e => (hB q _ e).1 h2), h3.ext hx (fun e => (hB r _ e).2 h3), h4.keep hx hS⟩
theorem DeedV.mono {v : Value} {x : Dk.DidD} (h : DeedV w Ok v x) (hok : ∀ b, b < w.heap.size → Ok b → Ok' b) : DeedV w Ok' v x := by
  obtain ⟨h0, q, r, c, h1, h2, h3, h4⟩ := h
  exact ⟨h0, q, r, c, h1, h2, h3, h4.mono hok⟩
end
abbrev DeedC := Dk.DidD × Value
def DeedC.cells (y : DeedC) : List Value := [.int .i64 (Dk.units y.1 : Int), y.2]
/-- the disk in block b: the maps bd and bn, the row of its deeds -/
structure DiskAt (M : Nat → Prop) (w : World) (Ok : Nat → Prop) (b bd bn : Nat) (A : Option Addr) (n c : Nat) (L : Int) (ys : List DeedC) (d : Dk.DiskD) : Prop where
  blk : Blk w b 90 #[.map (some bd), .map (some bn), .slice A n c, .bool (decide (0 ≤ d.left)), .int .i64 L]
  left : 0 ≤ d.left → L = d.left
  l0 : 0 ≤ L
  l1 : L ≤ 1099511627776
  dur : FM w Ok bd d.dur
  now : FM w Ok bn d.files
  ne : bd ≠ bn ∧ b ≤ bd + 2 ∧ b ≤ bn + 2 ∧ ¬ M bd ∧ ¬ M bn
  own : w.ownsRow b 103 2 (.slice A n c) n (ys.flatMap DeedC.cells)
  len : n = ys.length
  data : ys.map (·.1) = d.done
  deeds : ∀ y ∈ ys, DeedV w Ok y.2 y.1
structure DiskIs (M : Nat → Prop) (w : World) (Ok : Nat → Prop) (b : Nat) (d : Dk.DiskD) : Prop where
  out : ∃ bd bn A n c L ys, DiskAt M w Ok b bd bn A n c L ys d
section
variable {w w' : World} {S Ok Ok' : Nat → Prop} {b bd bn n c : Nat} {A : Option Addr} {L : Int} {ys : List DeedC} {d : Dk.DiskD}
theorem DiskAt.keep (h : DiskAt M w Ok b bd bn A n c L ys d) (hx : Ext S w w') (hS : Off w S Ok) (hB : Box w S) (hD : ∀ q, S q → ¬ DkB M b w q) : DiskAt M w' Ok b bd bn A n c L ys d := by
  obtain ⟨Ld, e1, _⟩ := h.dur.out
  obtain ⟨es, ck, m1, _⟩ := e1
  obtain ⟨Ln, e2, _⟩ := h.now.out
  obtain ⟨es2, ck2, m2, _⟩ := e2
  refine ⟨h.blk.ext hx (fun e => hD _ e ⟨by omega, .inl ⟨_, h.blk⟩⟩), h.left, h.l0, h.l1, h.dur.keep hx (fun e => hD _ e ⟨h.ne.2.1, .inr (.inr ⟨⟨_, _, m1⟩, h.ne.2.2.2.1⟩)⟩) hS, h.now.keep hx (fun e => hD _ e ⟨h.ne.2.2.1, .inr (.inr ⟨⟨_, _, m2⟩, h.ne.2.2.2.2⟩)⟩) hS, h.ne, own_ext h.own hx (fun g hg e => ?_), h.len, h.data, fun y hy => (h.deeds y hy).keep hx hS hB⟩
  rcases h.own.2 with ⟨h1, _⟩ | ⟨g', cap, cur, hv, hgb, hgg, _⟩
  · injection h1 with h1 _ _
    subst h1
    cases hg
  · injection hv with hA _ _
    subst hA
    simp only [Value.ownBlock, Option.some.injEq] at hg
    subst hg
    exact hD _ e ⟨by omega, .inr (.inl ⟨cur, hgg⟩)⟩
theorem DiskIs.keep (h : DiskIs M w Ok b d) (hx : Ext S w w') (hS : Off w S Ok) (hB : Box w S) (hD : ∀ q, S q → ¬ DkB M b w q) : DiskIs M w' Ok b d := by
  obtain ⟨bd, bn, A, n, c, L, ys, h⟩ := h.out
  exact ⟨bd, bn, A, n, c, L, ys, h.keep hx hS hB hD⟩
theorem DiskIs.keep0 (h : DiskIs M w Ok b d) (hx : Ext Nothing w w') : DiskIs M w' Ok b d := h.keep hx Off.none Box.none (fun _ e => e.elim)
theorem DiskAt.keep0 (h : DiskAt M w Ok b bd bn A n c L ys d) (hx : Ext Nothing w w') : DiskAt M w' Ok b bd bn A n c L ys d := h.keep hx Off.none Box.none (fun _ e => e.elim)
theorem DiskAt.mono (h : DiskAt M w Ok b bd bn A n c L ys d) (hok : ∀ b, b < w.heap.size → Ok b → Ok' b) : DiskAt M w Ok' b bd bn A n c L ys d :=
  ⟨h.blk, h.left, h.l0, h.l1, h.dur.mono hok, h.now.mono hok, h.ne, h.own, h.len, h.data, fun y hy => (h.deeds y hy).mono hok⟩
theorem DiskIs.mono (h : DiskIs M w Ok b d) (hok : ∀ b, b < w.heap.size → Ok b → Ok' b) : DiskIs M w Ok' b d := by
  obtain ⟨bd, bn, A, n, c, L, ys, h⟩ := h.out
  exact ⟨bd, bn, A, n, c, L, ys, h.mono hok⟩
/-- all that the disk has lies below the world's end -/
theorem DiskIs.top (h : DiskIs M w Ok b d) : DiskIs M w (fun q => q < w.heap.size) b d := h.mono (fun _ hb _ => hb)
/-- a write to the disk's own block -/
theorem DiskAt.own1 {L' : Int} {d' : Dk.DiskD} (h : DiskAt M w Ok b bd bn A n c L ys d) (hx : Ext (fun q => q = b) w w') (hb : Blk w' b 90 #[.map (some bd), .map (some bn), .slice A n c, .bool (decide (0 ≤ d'.left)), .int .i64 L']) (hd : d'.dur = d.dur) (he : d'.done = d.done) (hl : 0 ≤ d'.left → L' = d'.left) (h0 : 0 ≤ L') (h1 : L' ≤ 1099511627776) : DiskAt M w' Ok b bd bn A n c L' ys d' := by
  have hoff : Off w (fun q => q = b) Ok := fun q cs e hq => by subst e; exact absurd rfl (Blk.ne h.blk hq (by decide))
  have hbox : Box w (fun q => q = b) := fun q cs e => by subst e; exact ⟨fun hq => absurd rfl (Blk.ne h.blk hq (by decide)), fun hq => absurd rfl (Blk.ne h.blk hq (by decide))⟩
  have hf : d'.files = d.files := by unfold Dk.DiskD.files; rw [hd, he]
  exact ⟨hb, hl, h0, h1, by rw [hd]; exact h.dur.keep hx (fun e => h.dur.ne h.blk e) hoff, by rw [hf]; exact h.now.keep hx (fun e => h.now.ne h.blk e) hoff, h.ne, own_ext h.own hx (fun g hg e => by subst e; exact own_ne h.own h.blk (by decide) hg), h.len, by rw [he]; exact h.data, fun y hy => (h.deeds y hy).keep hx hoff hbox⟩
theorem DiskAt.dkb (h : DiskAt M w Ok b bd bn A n c L ys d) (hx : Ext (fun q => q = b) w w') : Ext (DkB M b w) w w' := hx.mono (fun q _ e => by have e : q = b := e; subst e; exact ⟨by omega, .inl ⟨_, h.blk⟩⟩)
end
end Go.Proofs.YtockcifkphfnlaaGreatDoor
