/- What stands in memory for the document's disk: rows of files, the row of what was done; appends of whole slices. No function is walked. -/
import Derived.Test.YtlfpfhdagkkliaaDoorDkO
import Derived.Test.YtlfpfhdagkkliaaDoorDkC
namespace Go.Proofs.YtlfpfhdagkkliaaDoor
set_option linter.unusedVariables false
set_option linter.unusedSimpArgs false
open Go.RowKit

theorem STFile : StructT Tryd.prog 65 2 := .of (by kernel_rfl)
theorem STDid : StructT Tryd.prog 85 4 := .of (by kernel_rfl)
theorem STRDisk : StructT Tryd.prog 61 3 := .of (by kernel_rfl)
theorem SRFile : SliceT Tryd.prog 58 65 2 := .of (by kernel_rfl)
theorem SRDid : SliceT Tryd.prog 59 85 4 := .of (by kernel_rfl)
theorem SRByte : SliceT Tryd.prog 29 5 1 := .of (by kernel_rfl)
/-- a file, and the value of its data -/
abbrev FileC := (Dk.Str × List UInt8) × Value
def FileC.cells (y : FileC) : List Value := [strV y.1.1, y.2]
structure FilesAt (w : World) (Ok : Nat → Prop) (A : Option Addr) (n c : Nat) (ys : List FileC) : Prop where
  sl : Sl w 2 A n (ys.map FileC.cells)
  cap : n ≤ c
  addr : A = none ∨ ∃ b o, A = some ⟨b, o, none⟩
  blk : ∀ b, A.map (·.block) = some b → ys ≠ [] → ∃ cs, Blk w b 65 cs
  data : ∀ y ∈ ys, BytesV w Ok y.2 y.1.2
/-- v is a list of files that reads as F -/
def FilesV (w : World) (Ok : Nat → Prop) (v : Value) (F : Dk.Files) : Prop := ∃ A n c ys, v = .slice A n c ∧ FilesAt w Ok A n c ys ∧ ys.map (·.1) = F
/-- the blocks of S hold no files -/
def FOff (w : World) (S : Nat → Prop) : Prop := ∀ b cs, S b → ¬ Blk w b 65 cs
section
variable {w w' : World} {S Ok Ok' : Nat → Prop} {A : Option Addr} {n c : Nat} {ys : List FileC} {v : Value} {F : Dk.Files}
theorem FOff.none : FOff w Nothing := fun _ _ h => h.elim
theorem FilesAt.keep (h : FilesAt w Ok A n c ys) (hx : Ext S w w') (hS : Off w S Ok) (hF : FOff w S) : FilesAt w' Ok A n c ys := by
  refine ⟨h.sl.ext hx (fun b hb hne hs => ?_), h.cap, h.addr, fun b hb hne => ?_, fun y hy => (h.data y hy).keep hx hS⟩
  · obtain ⟨cs, h1⟩ := h.blk b hb (fun e => hne (by rw [e]; rfl))
    exact hF b cs hs h1
  · obtain ⟨cs, h1⟩ := h.blk b hb hne
    exact ⟨cs, h1.ext hx (fun hs => hF b cs hs h1)⟩
theorem FilesAt.keep0 (h : FilesAt w Ok A n c ys) (hx : Ext Nothing w w') : FilesAt w' Ok A n c ys := h.keep hx Off.none FOff.none
theorem FilesAt.mono (h : FilesAt w Ok A n c ys) (hok : ∀ b, b < w.heap.size → Ok b → Ok' b) : FilesAt w Ok' A n c ys := ⟨h.sl, h.cap, h.addr, h.blk, fun y hy => (h.data y hy).mono hok⟩
theorem FilesV.keep (h : FilesV w Ok v F) (hx : Ext S w w') (hS : Off w S Ok) (hF : FOff w S) : FilesV w' Ok v F := by
  obtain ⟨A, n, c, ys, h1, h2, h3⟩ := h
  exact ⟨A, n, c, ys, h1, h2.keep hx hS hF, h3⟩
theorem FilesV.keep0 (h : FilesV w Ok v F) (hx : Ext Nothing w w') : FilesV w' Ok v F := h.keep hx Off.none FOff.none
theorem FilesV.mono (h : FilesV w Ok v F) (hok : ∀ b, b < w.heap.size → Ok b → Ok' b) : FilesV w Ok' v F := by
  obtain ⟨A, n, c, ys, h1, h2, h3⟩ := h
  exact ⟨A, n, c, ys, h1, h2.mono hok, h3⟩
theorem FilesV.nil : FilesV w Ok (.slice none 0 0) [] := ⟨none, 0, 0, [], rfl, ⟨Sl.nil _ _ _, Nat.le_refl _, .inl rfl, fun _ h => by simp at h, by simp⟩, rfl⟩
theorem FilesAt.own {base : Nat} (h : w.ownsRow base 65 2 v n (ys.flatMap FileC.cells)) (hn : n = ys.length) (hd : ∀ y ∈ ys, BytesV w Ok y.2 y.1.2) : ∃ A c, v = .slice A n c ∧ FilesAt w Ok A n c ys := by
  obtain ⟨A, c, rfl⟩ := own_slice h
  refine ⟨A, c, rfl, Sl.of_own (fun _ => rfl) h hn, ?_, ?_, ?_, hd⟩
  · rcases h.2 with ⟨h1, h0⟩ | ⟨g, cap, cur, hv, _, _, hnc, _⟩
    · omega
    · injection hv with _ _ hc
      omega
  · rcases h.2 with ⟨h1, h0⟩ | ⟨g, cap, cur, hv, _⟩
    · injection h1 with h1
      exact .inl h1
    · injection hv with hv
      exact .inr ⟨g, 0, hv⟩
  · intro b hb hne
    rcases h.2 with ⟨_, h0⟩ | ⟨g, cap, cur, hv, hbg, hg, _⟩
    · exact absurd (List.length_eq_zero_iff.1 (by omega)) hne
    · injection hv with hA _ _
      subst hA
      simp only [Option.map_some, Option.some.injEq] at hb
      subst hb
      exact ⟨cur, hg⟩
theorem FilesV.own {base : Nat} (h : w.ownsRow base 65 2 v n (ys.flatMap FileC.cells)) (hn : n = ys.length) (hd : ∀ y ∈ ys, BytesV w Ok y.2 y.1.2) : FilesV w Ok v (ys.map (·.1)) := by
  obtain ⟨A, c, h1, h2⟩ := FilesAt.own h hn hd
  exact ⟨A, n, c, ys, h1, h2, rfl⟩
/-- a window into a slice: its head and its tail -/
theorem slice_head {T e sz : Nat} {xs : List (List Value)} (h : Sl w sz A n xs) (ha : A = none ∨ ∃ b o, A = some ⟨b, o, none⟩) (k : Nat) (hk : k ≤ n) (hc : n ≤ c) (ht : Tryd.prog.underlying T = some (.slice e)) (hz : ∀ W, (Go.sizeOf e).run Tryd.prog W = .ok sz W) :
    (∀ W, (Instr.slice T (.slice A n c) none (some (.int .i64 (k : Int))) none).run Tryd.prog W = .ok (.slice A k c) W) ∧ Sl w sz A k (xs.take k) := by
  have ht' : Tryd.prog.underlying T = some (.slice (Tryd.prog.elem T)) := by simp [Program.elem, ht]
  have he : Tryd.prog.elem T = e := by simp [Program.elem, ht]
  refine ⟨fun W => ?_, ?_, fun i cs hi => ?_⟩
  · rw [run_slice_h W T A n c ht' .i64 k (by omega) (by omega), he, hz]
    rcases ha with rfl | ⟨b, o, rfl⟩ <;> simp [Result.andThen, sliced, Addr.add]
  · rw [List.length_take, ← h.1]; omega
  · refine h.2 i cs ?_
    rw [List.getElem?_take] at hi
    split at hi
    · exact hi
    · cases hi
theorem slice_tail {T e sz : Nat} {xs : List (List Value)} (h : Sl w sz A n xs) (ha : A = none ∨ ∃ b o, A = some ⟨b, o, none⟩) (k : Nat) (hk : k ≤ n) (hc : n ≤ c) (ht : Tryd.prog.underlying T = some (.slice e)) (hz : ∀ W, (Go.sizeOf e).run Tryd.prog W = .ok sz W) :
    ∃ A', (∀ W, (Instr.slice T (.slice A n c) (some (.int .i64 (k : Int))) none none).run Tryd.prog W = .ok (.slice A' (n - k) (c - k)) W) ∧ Sl w sz A' (n - k) (xs.drop k) ∧ (A' = none → A = none) := by
  have ht' : Tryd.prog.underlying T = some (.slice (Tryd.prog.elem T)) := by simp [Program.elem, ht]
  have he : Tryd.prog.elem T = e := by simp [Program.elem, ht]
  have hlen := h.1
  have key : ∀ W, (Instr.slice T (.slice A n c) (some (.int .i64 (k : Int))) none none).run Tryd.prog W = .ok (sliced A k n c sz) W := fun W => by
    rw [run_slice_l W T A n c ht' .i64 k (by omega) (by omega), he, hz]
    simp [Result.andThen]
  by_cases hck : c = k
  · refine ⟨A, fun W => by rw [key, sliced, if_pos hck], ?_, fun e => e⟩
    rw [List.drop_of_length_le (by omega), show n - k = 0 by omega]
    exact Sl.nil _ _ _
  · refine ⟨A.map (·.add (k * sz)), fun W => by rw [key, sliced, if_neg hck], ⟨by rw [List.length_drop]; omega, fun i cs hi => ?_⟩, fun e => by simpa using e⟩
    rw [List.getElem?_drop] at hi
    obtain ⟨b, o, rfl, hl, hcell⟩ := h.2 _ cs hi
    refine ⟨b, o + k * sz, by simp [Addr.add], hl, fun j u hu => ?_⟩
    have := hcell j u hu
    rw [show o + k * sz + i * sz + j = o + (k + i) * sz + j by rw [Nat.add_mul]; omega]
    exact this
/-- an append of a whole slice, nil or not, to a row of the call's own -/
theorem wpList_appA {P : Program} {ops : Array Oper} {rest : List Oper} {o : Oper} {a : Act} {Q : Exit → Act → World → Prop} (hgd : o.guard = none) (s x : Operand) (t : TypeId) (ho : o.op = .call { callee := .builtin .append, args := #[s, x], argTypes := #[t, t] })
    (base : Nat) {e sz : Nat} (E : SliceT P t e sz) (v : Value) (n : Nat) (xs : List Value) (hs : a.eval s = v) (hown : w.ownsRow base e sz v n xs)
    (A : Option Addr) (m c : Nat) (ys : List (List Value)) (hx : a.eval x = .slice A m c) (hl : Sl w sz A m ys) (h1 : ∀ y ∈ ys, y.all Value.oneCell' = true)
    (hn : n + m ≤ 67108864) (hbase : base ≤ w.heap.size)
    (h : ∀ A' c' w', w'.ownsRow base e sz (.slice A' (n + m) c') (n + m) (xs ++ ys.flatten) → w.grownBy w' v.ownBlock → wpList P ops Q rest (a.put o.dst (.slice A' (n + m) c')) w') : wpList P ops Q (o :: rest) a w := by
  cases A with
  | some ad => exact wpList_appN hgd s x t ho base E v n xs hs hown ad m c ys hx hl h1 hn hbase (fun v' w' r1 r2 => by obtain ⟨A', c', rfl⟩ := own_slice r1; exact h A' c' w' r1 r2)
  | none =>
    have hy : ys = [] := by
      cases ys with
      | nil => rfl
      | cons y r =>
        obtain ⟨b, o, e, _⟩ := hl.2 0 y rfl
        cases e
    have hm : m = 0 := by rw [hl.1, hy]; rfl
    subst hy hm
    obtain ⟨ht, i, z, hi, hz, hzs, hsz, h0, hle, hby⟩ := E
    have hrun : (Builtin.append_ #[t, t] o.type #[v, .slice none 0 c]).run P w = .ok v w := by
      rcases hown.2 with ⟨rfl, rfl⟩ | ⟨g, cap, cur, rfl, _, _, hnc, _⟩
      · simp [Builtin.append_, run_underlying ht, sizeOf, typeInfo, hi, Builtin.lenOf, Builtin.firstCells]
      · simp [Builtin.append_, run_underlying ht, sizeOf, typeInfo, hi, Builtin.lenOf, Builtin.firstCells, hnc, storeCells]
    obtain ⟨A', c', rfl⟩ := own_slice hown
    refine wpList_plain hgd fun K hK => ?_
    unfold Oper.wp
    simp [execOp, ho, resolve, invoke, builtin, hs, hx, hrun, Result.andThen]
    exact hK _ _ (h A' c' w (by simpa using hown) ⟨rfl, rfl, rfl, Nat.le_refl _, fun _ _ _ => rfl⟩)
end
/-- something that was done, the name that is written for To, the value of its data -/
abbrev DidC := Dk.DidD × (Dk.Str × Value)
def DidC.cells (y : DidC) : List Value := [.int .i64 (y.1.kind : Int), strV y.1.name, strV y.2.1, y.2.2]
structure DidI (w : World) (Ok : Nat → Prop) (y : DidC) : Prop where
  data : BytesV w Ok y.2.2 y.1.data
  to_ : y.1.kind = 3 → y.2.1 = y.1.to_
theorem DidI.keep {w w' : World} {S Ok : Nat → Prop} {y : DidC} (h : DidI w Ok y) (hx : Ext S w w') (hS : Off w S Ok) : DidI w' Ok y := ⟨h.data.keep hx hS, h.to_⟩
theorem DidI.mono {w : World} {Ok Ok' : Nat → Prop} {y : DidC} (h : DidI w Ok y) (hok : ∀ b, b < w.heap.size → Ok b → Ok' b) : DidI w Ok' y := ⟨h.data.mono hok, h.to_⟩
/-- block q is one that the document's disk may write -/
def RdB (r : Nat) (w : World) (q : Nat) : Prop := r ≤ q ∧ ((∃ cs, Blk w q 61 cs) ∨ ∃ cs, Blk w q 85 cs)
section
variable {w w' w'' : World} {S Ok Ok' : Nat → Prop} {B : Nat}
theorem RdB.ty {q t : Nat} {cs : Array Value} (hb : Blk w q t cs) (h1 : t ≠ 61) (h2 : t ≠ 85) : ¬ RdB B w q := fun h => by
  rcases h.2 with ⟨cs', h⟩ | ⟨cs', h⟩
  · exact absurd rfl (Blk.ne h hb h1.symm)
  · exact absurd rfl (Blk.ne h hb h2.symm)
theorem RdB.off : Off w (RdB B w) Ok := fun b cs h hb => absurd h (RdB.ty hb (by decide) (by decide))
theorem RdB.foff : FOff w (RdB B w) := fun b cs h hb => absurd h (RdB.ty hb (by decide) (by decide))
theorem RdB.box : Box w (RdB B w) := fun b cs h => ⟨fun hb => RdB.ty hb (by decide) (by decide) h, fun hb => RdB.ty hb (by decide) (by decide) h⟩
theorem RdB.back {q : Nat} (hx : Ext (RdB B w) w w') (hq : q < w.heap.size) (h : RdB B w' q) : RdB B w q := by
  by_cases hn : RdB B w q
  · exact hn
  · unfold RdB Blk at h
    rw [hx.block q hq hn] at h
    exact h
theorem RdB.trans (hx : Ext (RdB B w) w w') (hy : Ext (RdB B w') w' w'') : Ext (RdB B w) w w'' := hx.trans hy (fun b hb h => RdB.back hx hb h)
theorem RdB.fresh {w0 : World} {b : Nat} (hb : w0.heap.size ≤ b) (h1 : Ext Nothing w0 w) (h : Ext (RdB b w) w w') : Ext Nothing w0 w' := h1.trans h (fun q hq e => by have := e.1; omega)
theorem DkB.foff : FOff w (DkB B w) := fun b cs h hb => DkB.blk hb (by decide) (by decide) h
end
/-- the document's disk in block r -/
structure RefAt (w : World) (Ok : Nat → Prop) (r : Nat) (fv : Value) (A : Option Addr) (n c : Nat) (zs : List DidC) (d : Dk.DiskD) : Prop where
  blk : Blk w r 61 #[fv, .slice A n c, .int .i64 d.left]
  dur : FilesV w Ok fv d.dur
  own : w.ownsRow r 85 4 (.slice A n c) n (zs.flatMap DidC.cells)
  len : n = zs.length
  done : zs.map (·.1) = d.done
  dids : ∀ y ∈ zs, DidI w Ok y
  lim : -1 ≤ d.left ∧ d.left ≤ 1099511627776
def RefIs (w : World) (Ok : Nat → Prop) (r : Nat) (d : Dk.DiskD) : Prop := ∃ fv A n c zs, RefAt w Ok r fv A n c zs d
section
variable {w w' w'' : World} {S Ok Ok' : Nat → Prop} {r n c : Nat} {A : Option Addr} {fv : Value} {zs : List DidC} {d : Dk.DiskD}
theorem RefAt.keep (h : RefAt w Ok r fv A n c zs d) (hx : Ext S w w') (hS : Off w S Ok) (hF : FOff w S) (hR : ∀ q, S q → ¬ RdB r w q) : RefAt w' Ok r fv A n c zs d := by
  refine ⟨h.blk.ext hx (fun e => hR _ e ⟨Nat.le_refl _, .inl ⟨_, h.blk⟩⟩), h.dur.keep hx hS hF, own_ext h.own hx (fun g hg e => ?_), h.len, h.done, fun y hy => (h.dids y hy).keep hx hS, h.lim⟩
  rcases h.own.2 with ⟨h1, _⟩ | ⟨g', cap, cur, hv, hgb, hgg, _⟩
  · injection h1 with h1 _ _
    subst h1
    cases hg
  · injection hv with hA _ _
    subst hA
    simp only [Value.ownBlock, Option.some.injEq] at hg
    subst hg
    exact hR _ e ⟨hgb, .inr ⟨cur, hgg⟩⟩
theorem RefAt.keep0 (h : RefAt w Ok r fv A n c zs d) (hx : Ext Nothing w w') : RefAt w' Ok r fv A n c zs d := h.keep hx Off.none FOff.none (fun _ e => e.elim)
theorem RefAt.mono (h : RefAt w Ok r fv A n c zs d) (hok : ∀ b, b < w.heap.size → Ok b → Ok' b) : RefAt w Ok' r fv A n c zs d := ⟨h.blk, h.dur.mono hok, h.own, h.len, h.done, fun y hy => (h.dids y hy).mono hok, h.lim⟩
/-- a write to the block r -/
theorem RefAt.set {cs : Array Value} (hB : Blk w r 61 cs) (hx : Ext (fun q => q = r) w w') (hb : Blk w' r 61 #[fv, .slice A n c, .int .i64 d.left]) (hd : FilesV w Ok fv d.dur) (ho : w.ownsRow r 85 4 (.slice A n c) n (zs.flatMap DidC.cells)) (hl : n = zs.length) (he : zs.map (·.1) = d.done) (hz : ∀ y ∈ zs, DidI w Ok y) (hm : -1 ≤ d.left ∧ d.left ≤ 1099511627776) : RefAt w' Ok r fv A n c zs d := by
  have hoff : Off w (fun q => q = r) Ok := fun q cs e hq => by subst e; exact absurd rfl (Blk.ne hB hq (by decide))
  have hfo : FOff w (fun q => q = r) := fun q cs e hq => by subst e; exact absurd rfl (Blk.ne hB hq (by decide))
  exact ⟨hb, hd.keep hx hoff hfo, own_ext ho hx (fun g hg e => by subst e; exact own_ne ho hB (by decide) hg), hl, he, fun y hy => (hz y hy).keep hx hoff, hm⟩
theorem RefAt.rdb (h : RefAt w Ok r fv A n c zs d) (hx : Ext (fun q => q = r) w w') : Ext (RdB r w) w w' := hx.mono (fun q _ e => by have e : q = r := e; subst e; exact ⟨Nat.le_refl _, .inl ⟨_, h.blk⟩⟩)
theorem RefIs.keep (h : RefIs w Ok r d) (hx : Ext S w w') (hS : Off w S Ok) (hF : FOff w S) (hR : ∀ q, S q → ¬ RdB r w q) : RefIs w' Ok r d := by
  obtain ⟨fv, A, n, c, zs, h⟩ := h
  exact ⟨fv, A, n, c, zs, h.keep hx hS hF hR⟩
theorem RefIs.keep0 (h : RefIs w Ok r d) (hx : Ext Nothing w w') : RefIs w' Ok r d := h.keep hx Off.none FOff.none (fun _ e => e.elim)
theorem RefIs.mono (h : RefIs w Ok r d) (hok : ∀ b, b < w.heap.size → Ok b → Ok' b) : RefIs w Ok' r d := by
  obtain ⟨fv, A, n, c, zs, h⟩ := h
  exact ⟨fv, A, n, c, zs, h.mono hok⟩
end
end Go.Proofs.YtlfpfhdagkkliaaDoor
