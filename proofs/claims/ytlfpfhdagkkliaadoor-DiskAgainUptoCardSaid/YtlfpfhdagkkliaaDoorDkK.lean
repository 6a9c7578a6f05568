/- The plain side of DiskKeeps: what a disk's files were at any deed since the last Sync is among the states; and the append of one cell that leaves blocks of one cell alone. -/
import Derived.Test.YtlfpfhdagkkliaaDoorDkO
namespace Go.Proofs.YtlfpfhdagkkliaaDoor
set_option linter.unusedVariables false
set_option linter.unusedSimpArgs false
open Go.RowKit

namespace Dk
def tellF (F : Files) : Str := (F.map tell).flatten
/-- each deed is one unit, and the files at each of them are told in ss -/
structure Cov (d : DiskD) (ss : List Str) : Prop where
  ones : ∀ x ∈ d.done, units x = 1
  mem : ∀ j, tellF (d.at_ j) ∈ ss
theorem told_eq (d : DiskD) : d.told = tellF d.files := rfl
theorem cov_new : Cov new [[]] := ⟨by simp [new], fun j => by simp [DiskD.at_, new, tellF]⟩
theorem cov_same {d d' : DiskD} {ss : List Str} (h : Cov d ss) (h1 : d'.dur = d.dur) (h2 : d'.done = d.done) (y : Str) : Cov d' (ss ++ [y]) :=
  ⟨by rw [h2]; exact h.ones, fun j => by
    have := h.mem j
    unfold DiskD.at_ at this ⊢
    rw [h1, h2]
    exact List.mem_append.2 (.inl this)⟩
theorem cov_did {d : DiskD} {ss : List Str} (h : Cov d ss) {x : DidD} (hx : units x = 1) : Cov (d.did x) (ss ++ [(d.did x).told]) := by
  refine ⟨fun y hy => ?_, fun j => ?_⟩
  · rw [did_done] at hy
    rcases List.mem_append.1 hy with hy | hy
    · exact h.ones y hy
    · rw [List.mem_singleton.1 hy]; exact hx
  · rcases Nat.lt_or_ge d.done.length j with hj | hj
    · refine List.mem_append.2 (.inr (List.mem_singleton.2 ?_))
      unfold DiskD.told DiskD.files DiskD.at_ tellF
      rw [List.take_of_length_le (by rw [did_len]; omega)]
    · refine List.mem_append.2 (.inl ?_)
      have := h.mem j
      unfold DiskD.at_ at this ⊢
      rw [did_dur, did_done, List.take_append_of_le_length hj]
      exact this
theorem cov_write {d : DiskD} {ss : List Str} (h : Cov d ss) {k : Nat} {s : Str} {data : List UInt8} (hk : k ≠ 0 ∨ data.length ≤ 1) : Cov (d.write k s data).1 (ss ++ [(d.write k s data).1.told]) := by
  unfold DiskD.write
  split
  · exact cov_same h rfl rfl _
  · split
    · exact cov_same h rfl rfl _
    · split
      · exact cov_same h rfl rfl _
      · refine cov_did h ?_
        unfold units
        simp only
        split <;> omega
theorem cov_move {d : DiskD} {ss : List Str} (h : Cov d ss) {x : DidD} {b : Str} (hx : x.kind ≠ 0) : Cov (d.move x b).1 (ss ++ [(d.move x b).1.told]) := by
  unfold DiskD.move
  split
  · exact cov_same h rfl rfl _
  · split
    · exact cov_same h rfl rfl _
    · split
      · exact cov_same h rfl rfl _
      · refine cov_did h ?_
        unfold units
        split <;> omega
theorem cov_cut {d : DiskD} {ss : List Str} (h : Cov d ss) (n : Int) : Cov (d.cutAt n).1 (ss ++ [(d.cutAt n).1.told]) := by
  unfold DiskD.cutAt
  split
  · exact cov_same h rfl rfl _
  · exact cov_same (d' := { d with left := n }) h rfl rfl _
theorem cov_sync0 {d : DiskD} {ss : List Str} (h : Cov d ss) (hr : d.sync.2 ≠ 0) : Cov d.sync.1 (ss ++ [d.sync.1.told]) := by
  unfold DiskD.sync at hr ⊢
  split at hr
  · rw [if_pos (by assumption)]
    exact cov_same h rfl rfl _
  · exact absurd rfl hr
theorem cov_sync {d : DiskD} (hr : d.sync.2 = 0) : Cov d.sync.1 [d.sync.1.told] := by
  unfold DiskD.sync at hr ⊢
  split at hr
  · simp at hr
  · rw [if_neg (by assumption)]
    have e1 : (DiskD.counted { d with dur := d.files, done := [] }).done = [] := by rw [counted_done]
    refine ⟨by simp only; rw [e1]; simp, fun j => ?_⟩
    simp only
    refine List.mem_singleton.2 ?_
    generalize DiskD.counted { d with dur := d.files, done := [] } = z at e1 ⊢
    unfold DiskD.told DiskD.files DiskD.at_ tellF
    rw [e1]
    simp
theorem cov_end {d : DiskD} {ss : List Str} (h : Cov d ss) (k : Int) : (d.crash k).told ∈ ss := by
  have := h.mem (pick d k)
  unfold DiskD.told DiskD.crash DiskD.files
  simp only [List.foldl_nil]
  rw [torn_ones h.ones]
  exact this
theorem cov_len {d : DiskD} (h : ∀ j, FilesOk (d.at_ j)) : d.told.length ≤ 67111040 := by
  have h1 := tell_len (F := d.files) (by rw [← at_all]; exact h _) d.files.length
  rw [List.take_length] at h1
  exact h1
end Dk
/-- the row's block, where an append may write into it: it has not one cell -/
def RowS (w : World) (v : Value) (sz e g : Nat) : Prop := v.ownBlock = some g ∧ ∃ cs, Blk w g e cs ∧ cs.size ≠ sz
/-- wpList_app1 for a row that is nil or has elements: a block of one element stays -/
theorem wpList_app1k {P : Program} {w : World} {ops : Array Oper} {rest : List Oper} {o : Oper} {a : Act} {Q : Exit → Act → World → Prop} (hgd : o.guard = none) (s x : Operand) (t : TypeId) (ho : o.op = .call { callee := .builtin .append, args := #[s, x], argTypes := #[t, t] })
    (base : Nat) {e sz : Nat} (E : SliceT P t e sz) (v : Value) (n : Nat) (xs : List Value) (hs : a.eval s = v) (hown : w.ownsRow base e sz v n xs) (hv : v = .slice none 0 0 ∨ 0 < n)
    (g c : Nat) (cs : Array Value) (hx : a.eval x = .slice (some ⟨g, 0, none⟩) 1 c) (hg : Blk w g e cs) (hcs : cs.size = sz) (h1 : cs.toList.all Value.oneCell' = true)
    (hn : n < 67108864) (hbase : base ≤ w.heap.size)
    (h : ∀ A' c' w', w'.ownsRow base e sz (.slice A' (n + 1) c') (n + 1) (xs ++ cs.toList) → Ext (RowS w v sz e) w w' → wpList P ops Q rest (a.put o.dst (.slice A' (n + 1) c')) w') : wpList P ops Q (o :: rest) a w := by
  obtain ⟨ht, i, z, hi, hz, hzs, hsz, h0, hle, hby⟩ := E
  have hnews : ∀ j u, cs.toList[j]? = some u → w.cell? ((⟨g, 0, none⟩ : Addr).add j) = some u := fun j u hu => by
    have hadd : (⟨g, 0, none⟩ : Addr).add j = ⟨g, j, none⟩ := by unfold Addr.add; split <;> simp_all
    rw [hadd, hg.cell]; simpa using hu
  have hone : ∀ u ∈ cs.toList, u.oneCell' = true := fun u hu => List.all_eq_true.1 h1 u hu
  have hl : cs.toList.length = 1 * sz := by simpa using hcs
  have hb : (n + 1) * i.bytes ≤ 140737488355328 := by have := Nat.mul_le_mul (show n + 1 ≤ 67108864 by omega) hby; omega
  obtain ⟨v', w', hr, r1, r2, _⟩ := run_append_own (P := P) w base t o.type e i z sz i.bytes ht hi hz hsz rfl hzs h0 v n xs hown ⟨g, 0, none⟩ 1 c cs.toList hl hnews hone (by unfold maxLen; omega) hb hbase
  have hE : Ext (RowS w v sz e) w w' := by
    rcases hown.2 with ⟨rfl, rfl⟩ | ⟨gg, cap, cur, rfl, hbg, hgg, hnc, hcm, hcz, htake⟩
    · exact (Ext.of_grown (S := Nothing) r2 (fun g hg => by simp [Value.ownBlock] at hg)).mono (fun _ _ e => e.elim)
    · by_cases hroom : n + 1 ≤ cap
      · refine Ext.of_grown r2 (fun q hq => ⟨hq, cur, ?_, ?_⟩)
        · simp only [Value.ownBlock, Option.some.injEq] at hq
          subst hq
          exact hgg
        · rw [hcz]
          have hn0 : 0 < n := by rcases hv with hv | hv; cases hv; exact hv
          have := Nat.mul_le_mul_right sz (show 2 ≤ cap by omega)
          omega
      · subst hsz
        have hr2 := run_append_grow (P := P) w t o.type e i z ht hi hz ⟨gg, 0, none⟩ n cap xs hown.1 (hown.cells (g := gg) rfl) ⟨g, 0, none⟩ 1 c cs.toList hl hnews (by omega) (by omega) (growslice_fits (by omega) hb)
        rw [hr] at hr2
        injection hr2 with _ e2
        rw [e2]
        exact ((Ext.refl _ _).drew).alloc _
  obtain ⟨A', c', rfl⟩ := own_slice r1
  refine wpList_plain hgd fun K hK => ?_
  unfold Oper.wp execOp
  simp only [ho, resolve, invoke, builtin, Sem.run_bind, Sem.run_pure, Result.andThen_ok, List.map_toArray, List.map_cons, List.map_nil, hs, hx, hr]
  exact hK _ _ (h A' c' w' r1 hE)
/-- an append to a row of strings: the disk stays -/
theorem DiskIs.row {w w' : World} {Ok : Nat → Prop} {b : Nat} {d : Dk.DiskD} {v : Value} (h : DiskIs w Ok b d) (hx : Ext (RowS w v 1 9) w w') : DiskIs w' Ok b d := by
  refine h.keep hx (fun q cs hS hq => ?_) (fun q c hS => ⟨fun hq => ?_, fun hq => ?_⟩) (fun q hS => ?_)
  · obtain ⟨_, cs', h1, _⟩ := hS
    exact absurd rfl (Blk.ne h1 hq (by decide))
  · obtain ⟨_, cs', h1, h2⟩ := hS
    have e : w.heap[q]? = some (.cells cs' 9 (0, 0)) := h1
    have e2 : w.heap[q]? = some (.cells #[c] 9 (0, 0)) := hq
    rw [e] at e2
    injection e2 with e2
    injection e2 with e2
    rw [e2] at h2
    exact h2 rfl
  · obtain ⟨_, cs', h1, _⟩ := hS
    exact absurd rfl (Blk.ne h1 hq (by decide))
  · obtain ⟨_, cs', h1, _⟩ := hS
    exact DkB.blk h1 (by decide) (by decide)
/-- a disk's operation leaves a row of strings alone -/
theorem own_dk {w w' : World} {B base n : Nat} {v : Value} {xs : List Value} (h : w.ownsRow base 9 1 v n xs) (hx : Ext (DkB B w) w w') : w'.ownsRow base 9 1 v n xs :=
  own_ext h hx (fun g hg e => by
    rcases h.2 with ⟨rfl, rfl⟩ | ⟨g', cap, cur, rfl, _, hgg, _⟩
    · simp [Value.ownBlock] at hg
    · simp only [Value.ownBlock, Option.some.injEq] at hg
      subst hg
      exact DkB.blk hgg (by decide) (by decide) e)
theorem SStr : SliceT Tryd.prog 34 9 1 := .of (by kernel_rfl)
/-- a window of one byte -/
theorem window1 (W : World) (b o n c k : Nat) (h : k < c) : (Instr.slice 29 (.slice (some ⟨b, o, none⟩) n c) (some (.int .i64 (k : Int))) (some (.int .i64 ((k : Int) + 1))) none).run Tryd.prog W = .ok (.slice (some ⟨b, o + k, none⟩) 1 (c - k)) W := by
  have h1 := Go.Lib.run_slice_window (P := Tryd.prog) W 29 5 Tryd.underlying29 Tryd.sizeOf5 b o n c k (k + 1) (by omega) (by omega)
  simpa using h1
theorem Sl.window {w : World} {p o m k : Nat} {data : List UInt8} (h : Sl w 1 (some ⟨p, o, none⟩) m (data.map bCell)) (hk : k < data.length) : Sl w 1 (some ⟨p, o + k, none⟩) 1 ([data[k]].map bCell) := by
  have hm : m = data.length := by simpa using h.len
  refine ⟨rfl, fun i cs hi => ?_⟩
  obtain ⟨hj, q, off, hA, hc⟩ := h.get (Ext.refl _ _) (k := k) (by omega)
  injection hA with hA
  injection hA with e1 e2
  subst e1 e2
  cases i with
  | zero =>
    obtain rfl : bCell data[k] = cs := by simpa using hi
    refine ⟨p, o + k, rfl, rfl, fun j u hu => ?_⟩
    have := hc j u hu
    simpa using this
  | succ i => simp at hi
/-- DiskKeeps between two appends: the states that there were since the last Sync are ss -/
structure KeepI (w wr : World) (b N : Nat) (sv : Value) (ss : List Dk.Str) (d : Dk.DiskD) (Ok : Nat → Prop) : Prop where
  own : wr.ownsRow w.heap.size 9 1 sv ss.length (ss.map strV)
  ne : 0 < ss.length
  len : ss.length ≤ 1 + N
  disk : DiskIs wr Ok b d
  good : Dk.Good d
  cov : Dk.Cov d ss
  done : d.done.length ≤ N
  ext : Ext Nothing w wr
/-- behind an operation, ahead of the append of what it left -/
structure KeepM (w wr : World) (b N : Nat) (sv : Value) (ss : List Dk.Str) (d : Dk.DiskD) (Ok : Nat → Prop) : Prop where
  own : wr.ownsRow w.heap.size 9 1 sv ss.length (ss.map strV)
  hv : sv = .slice none 0 0 ∨ 0 < ss.length
  len : ss.length ≤ 1 + N
  disk : DiskIs wr Ok b d
  good : Dk.Good d
  cov : Dk.Cov d (ss ++ [d.told])
  done : d.done.length ≤ N + 1
  ext : Ext Nothing w wr
section
variable {w wr w6 w7 w8 : World} {b N : Nat} {sv sv' : Value} {ss : List Dk.Str} {d d' : Dk.DiskD} {Ok Ok' : Nat → Prop}
theorem KeepI.e0 (h : KeepI w wr b N sv ss d Ok) (hx : Ext Nothing wr w6) : KeepI w w6 b N sv ss d Ok := ⟨own_ext h.own hx (fun _ _ e => e), h.ne, h.len, h.disk.keep0 hx, h.good, h.cov, h.done, h.ext.tr hx⟩
theorem KeepI.op (h : KeepI w wr b N sv ss d Ok) (hb : w.heap.size + 2 ≤ b) (hd : DiskIs w6 Ok' b d') (hx : Ext (DkB b wr) wr w6) (hg : Dk.Good d') (hc : Dk.Cov d' (ss ++ [d'.told])) (hl : d'.done.length ≤ d.done.length + 1) : KeepM w w6 b N sv ss d' Ok' :=
  ⟨own_dk h.own hx, .inr h.ne, h.len, hd, hg, hc, by have := h.done; omega, DkB.fresh hb h.ext hx⟩
theorem KeepI.skip (h : KeepI w wr b N sv ss d Ok) : KeepM w wr b N sv ss d Ok := ⟨h.own, .inr h.ne, h.len, h.disk, h.good, Dk.cov_same h.cov rfl rfl _, by have := h.done; omega, h.ext⟩
theorem KeepI.write (h : KeepI w wr b N sv ss d Ok) (hb : w.heap.size + 2 ≤ b) {k : Nat} {s : Dk.Str} {data : List UInt8} (hd : DiskIs w6 Ok' b (d.write k s data).1) (hx : Ext (DkB b wr) wr w6) (hk : k ≤ 1) (h1 : k ≠ 0 ∨ data.length ≤ 1) : KeepM w w6 b N sv ss (d.write k s data).1 Ok' :=
  h.op hb hd hx (Dk.good_write h.good hk s data) (Dk.cov_write h.cov h1) (Dk.write_len ..)
theorem KeepI.remove (h : KeepI w wr b N sv ss d Ok) (hb : w.heap.size + 2 ≤ b) {s : Dk.Str} (hd : DiskIs w6 Ok' b (d.remove s).1) (hx : Ext (DkB b wr) wr w6) : KeepM w w6 b N sv ss (d.remove s).1 Ok' :=
  h.op hb hd hx (Dk.good_move h.good (.inl ⟨rfl, rfl⟩) rfl) (Dk.cov_move h.cov (by simp)) (Dk.move_len ..)
theorem KeepI.rename (h : KeepI w wr b N sv ss d Ok) (hb : w.heap.size + 2 ≤ b) {s t : Dk.Str} (hd : DiskIs w6 Ok' b (d.rename s t).1) (hx : Ext (DkB b wr) wr w6) : KeepM w w6 b N sv ss (d.rename s t).1 Ok' :=
  h.op hb hd hx (Dk.good_move h.good (.inr ⟨rfl, rfl⟩) rfl) (Dk.cov_move h.cov (by simp)) (Dk.move_len ..)
theorem KeepI.cut (h : KeepI w wr b N sv ss d Ok) (hb : w.heap.size + 2 ≤ b) {n : Int} (hd : DiskIs w6 Ok' b (d.cutAt n).1) (hx : Ext (DkB b wr) wr w6) : KeepM w w6 b N sv ss (d.cutAt n).1 Ok' :=
  h.op hb hd hx (Dk.good_cut h.good n) (Dk.cov_cut h.cov n) (by unfold Dk.DiskD.cutAt; split <;> simp)
theorem KeepI.sync0 (h : KeepI w wr b N sv ss d Ok) (hb : w.heap.size + 2 ≤ b) (hd : DiskIs w6 Ok' b d.sync.1) (hx : Ext (DkB b wr) wr w6) (hr : d.sync.2 ≠ 0) : KeepM w w6 b N sv ss d.sync.1 Ok' :=
  h.op hb hd hx (Dk.good_sync h.good) (Dk.cov_sync0 h.cov hr) (by have := Dk.sync_len d; omega)
theorem KeepI.sync1 (h : KeepI w wr b N sv ss d Ok) (hb : w.heap.size + 2 ≤ b) (hd : DiskIs w6 Ok' b d.sync.1) (hx : Ext (DkB b wr) wr w6) (hr : d.sync.2 = 0) : KeepM w w6 b N (.slice none 0 0) [] d.sync.1 Ok' :=
  ⟨World.ownsRow_nil _ _ _ _, .inl rfl, by simp, hd, Dk.good_sync h.good, Dk.cov_sync hr, by have := Dk.sync_len d; have := h.done; omega, DkB.fresh hb h.ext hx⟩
theorem KeepM.app {A8 : Option Addr} {c8 : Nat} (h : KeepM w w6 b N sv ss d Ok) (hx : Ext Nothing w6 w7) (hown : w8.ownsRow w.heap.size 9 1 (.slice A8 (ss.length + 1) c8) (ss.length + 1) (ss.map strV ++ (#[strV d.told] : Array Value).toList)) (hE : Ext (RowS w7 sv 1 9) w7 w8) : KeepI w w8 b (N + 1) (.slice A8 (ss ++ [d.told]).length c8) (ss ++ [d.told]) d Ok := by
  have ho7 := own_ext h.own hx (fun _ _ e => e)
  have e8 : (ss ++ [d.told]).length = ss.length + 1 := by simp
  refine ⟨by rw [e8]; simpa using hown, by simp, by have := h.len; simp; omega, (h.disk.keep0 hx).row hE, h.good, h.cov, h.done, (h.ext.tr hx).trans hE (fun q hq e => ?_)⟩
  obtain ⟨e, _⟩ := e
  have := (ho7.lt q e).1
  omega
theorem KeepM.own7 (h : KeepM w w6 b N sv ss d Ok) (hx : Ext Nothing w6 w7) : w7.ownsRow w.heap.size 9 1 sv ss.length (ss.map strV) := own_ext h.own hx (fun _ _ e => e)
theorem KeepI.mono {N' : Nat} (h : KeepI w wr b N sv ss d Ok) (hN : N ≤ N') : KeepI w wr b N' sv ss d Ok := ⟨h.own, h.ne, by have := h.len; omega, h.disk, h.good, h.cov, by have := h.done; omega, h.ext⟩
end
end Go.Proofs.YtlfpfhdagkkliaaDoor
