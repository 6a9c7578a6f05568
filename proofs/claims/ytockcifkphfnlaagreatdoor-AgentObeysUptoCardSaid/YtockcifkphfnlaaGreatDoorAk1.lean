/- The program's disk: look-ups, New, counted, room, Cut. -/
import Derived.Test.YtockcifkphfnlaaGreatDoorAkM
namespace Go.Proofs.YtockcifkphfnlaaGreatDoor
set_option linter.unusedVariables false
set_option linter.unusedSimpArgs false
open Go.RowKit
open Go.Maps Go.WideMaps
variable {M : Nat → Prop}

/-- what a look-up in the files gives -/
theorem fm_look {w : World} {Ok : Nat → Prop} {b : Nat} {F : Dk.Files} (h : FM w Ok b F) (hA : Dk.Asc F) {s : Dk.Str} (hs : s.length ≤ maxLen) :
    ∃ v, BytesV w Ok v ((Dk.find F s).getD []) ∧ ∀ W, Ext Nothing w W → ∀ ok, (Instr.lookup 87 (.map (some b)) (strV s) ok).run Tryz.prog W = .ok (if ok then .tuple #[v, .bool (Dk.find F s).isSome] else v) W := by
  obtain ⟨L, h1, h2, h3⟩ := h.out
  have hg : (aget s L).map (·.1) = Dk.find F s := by rw [aget_map, Dk.aget_eq, Dk.perm_find h3 hA]
  refine ⟨(aget s L).elim (.slice none 0 0) (·.2), ?_, fun W hx ok => ?_⟩
  · cases hq : aget s L with
    | none =>
      rw [hq] at hg
      rw [← hg]
      exact BytesV.nil _ _
    | some p =>
      rw [hq] at hg
      rw [← hg]
      have hm : (s, p) ∈ L := aget_mem hq
      exact h2 _ hm
  · have hr := (h1.ext hx (fun e => e)).look str_keyed strV_inj filesT (z := .slice none 0 0) (Tryz.zeroValue38 W) (str_key hs) ok
    rw [hr]
    have hsome : (aget s L).isSome = (Dk.find F s).isSome := by rw [← hg, Option.isSome_map]
    rw [hsome]
theorem fm_len {w : World} {Ok : Nat → Prop} {b : Nat} {F : Dk.Files} (h : FM w Ok b F) : (Builtin.len_ #[87] 3 #[.map (some b)]).run Tryz.prog w = .ok (.int .i64 (F.length : Int)) w := by
  obtain ⟨L, ⟨es, c, h1, h2, _⟩, _, h3⟩ := h.out
  have he : es.size = F.length := by
    have e1 := congrArg List.length h2
    have e2 := h3.length_eq
    simp only [List.length_map, Array.length_toList] at e1 e2
    omega
  simp [Builtin.len_, run_underlying filesT, MapKept.run_getObj_map h1, Result.andThen, go_sem, he]
set_option maxRecDepth 20000 in
set_option maxHeartbeats 4000000 in
theorem dkNew (w : World) (Ok : Nat → Prop) (hMM : ∀ q, M q → q < w.heap.size) : Calls Tryz.prog 7 #[] w fun e w' => ∃ b, e = .returned (.pointer (some ⟨b, 0, none⟩)) ∧ DiskIs M w' Ok b Dk.new ∧ w.heap.size + 2 ≤ b ∧ Ext Nothing w w' := by
  have hmm := @run_makeMap Tryz.prog
  go_enter Tryz.func7, Tryz.ntmps7
  go_wp2
  go_ret
  have hx : Ext Nothing w (((w.alloc (.map #[] 0)).alloc (.map #[] 0)).alloc (.cells #[.map (some w.heap.size), .map (some (w.heap.size + 1)), .slice none 0 0, .bool false, .int .i64 0] 90)) := Ext.auto
  refine ⟨_, rfl, ⟨w.heap.size, w.heap.size + 1, none, 0, 0, 0, [], ?_⟩, by omega, hx⟩
  have e1 : ((w.alloc (.map #[] 0)).alloc (.map #[] 0)).heap.size = w.heap.size + 1 + 1 := by simp
  have e2 : (w.alloc (.map #[] 0)).heap.size = w.heap.size + 1 := by simp
  refine ⟨Blk.new' _ _ _ (by rw [e1]), fun h => by simp [Dk.new] at h, by omega, by omega, ((FM.new w Ok).keep (S := Nothing) Ext.auto (fun e => e) Off.none), ?_, ⟨by omega, by omega, by omega, fun e => by have := hMM _ e; omega, fun e => by have := hMM _ e; omega⟩, World.ownsRow_nil _ _ _ _, rfl, rfl, by simp⟩
  have := FM.new (w.alloc (.map #[] 0)) Ok
  rw [e2] at this
  exact this.keep (S := Nothing) Ext.auto (fun e => e) Off.none
set_option maxRecDepth 20000 in
set_option maxHeartbeats 4000000 in
theorem dkCounted {Ok : Nat → Prop} {b bd bn n c : Nat} {A : Option Addr} {L : Int} {ys : List DeedC} {d : Dk.DiskD} (w : World) (h : DiskAt M w Ok b bd bn A n c L ys d) :
    Calls Tryz.prog 52 #[.pointer (some ⟨b, 0, none⟩)] w fun e w' => e = .returned (.tuple #[]) ∧ (∃ L', DiskAt M w' Ok b bd bn A n c L' ys d.counted) ∧ Ext (fun q => q = b) w w' := by
  have k4 : w.cell? ⟨b, 4, none⟩ = some (.int .i64 L) := h.blk.cell 4
  have f4 : w.frozen? ⟨b, 4, none⟩ = false := h.blk.frozen 4
  have h0 := h.l0
  have h1 := h.l1
  go_enter Tryz.func52, Tryz.ntmps52
  go_wp2
  go_end0
  have hx : Ext (fun q => q = b) w (w.setCell ⟨b, 4, none⟩ (.int .i64 (max 0 (L - 1)))) := Ext.set1 _ _ _ _
  refine ⟨rfl, ⟨max 0 (L - 1), ?_⟩, hx⟩
  have hl : decide (0 ≤ d.counted.left) = decide (0 ≤ d.left) := by
    unfold Dk.DiskD.counted
    split
    · rename_i hp
      simp only [decide_eq_decide]
      omega
    · rfl
  have hblk := h.blk.set_ 4 (.int .i64 (max 0 (L - 1)))
  have hd : d.counted.dur = d.dur ∧ d.counted.done = d.done := by unfold Dk.DiskD.counted; split <;> exact ⟨rfl, rfl⟩
  refine h.own1 hx (by rw [hl]; exact hblk) hd.1 hd.2 (fun h2 => ?_) (by omega) (by omega)
  unfold Dk.DiskD.counted at h2 ⊢
  split
  · rename_i hp
    have := h.left (by omega)
    show _ = d.left - 1
    omega
  · rename_i hp
    rw [if_neg hp] at h2
    have := h.left h2
    omega
set_option maxRecDepth 20000 in
set_option maxHeartbeats 4000000 in
theorem dkRoom {Ok : Nat → Prop} {b bd bn n c : Nat} {A : Option Addr} {L : Int} {ys : List DeedC} {d : Dk.DiskD} (s : Dk.Str) (k : Nat) (w : World) (h : DiskAt M w Ok b bd bn A n c L ys d) (hA : Dk.Asc d.files) (hl : d.files.length ≤ 64) (hs : s.length ≤ maxLen) (hk : k ≤ 1099511627776) :
    Calls Tryz.prog 48 #[.pointer (some ⟨b, 0, none⟩), strV s, .int .i64 (k : Int)] w fun e w' => e = .returned (.bool (!(((Dk.find d.files s).isNone && decide (64 ≤ d.files.length)) || decide (1048576 < k)))) ∧ Ext Nothing w w' := by
  have k1 : w.cell? ⟨b, 1, none⟩ = some (.map (some bn)) := h.blk.cell 1
  obtain ⟨v, _, hlk⟩ := fm_look h.now hA hs
  have hlk := hlk w (Ext.refl _ _) true
  have hln := fm_len h.now
  rw [if_pos rfl] at hlk
  rw [show (Dk.find d.files s).isNone = !(Dk.find d.files s).isSome by cases Dk.find d.files s <;> rfl]
  generalize (Dk.find d.files s).isSome = q at hlk ⊢
  generalize d.files.length = m at hln hl ⊢
  cases v1 : decide ((k : Int) ≤ 1048576) with
  | false =>
    have hk1 : decide (1048576 < k) = true := by simp at v1; simp; omega
    go_enter Tryz.func48, Tryz.ntmps48
    go_wp2
    go_ret
    exact ⟨by rw [hk1]; simp, Ext.refl _ _⟩
  | true =>
    have hk1 : decide (1048576 < k) = false := by simp at v1; simp; omega
    cases q with
    | true =>
      go_enter Tryz.func48, Tryz.ntmps48
      go_wp2
      go_ret
      exact ⟨by rw [hk1]; simp, Ext.refl _ _⟩
    | false =>
      cases v2 : decide ((m : Int) < 64) with
      | false =>
        have hk2 : decide (64 ≤ m) = true := by simp at v2; simp; omega
        go_enter Tryz.func48, Tryz.ntmps48
        go_wp2
        go_ret
        exact ⟨by rw [hk1, hk2]; simp, Ext.refl _ _⟩
      | true =>
        have hk2 : decide (64 ≤ m) = false := by simp at v2; simp; omega
        go_enter Tryz.func48, Tryz.ntmps48
        go_wp2
        go_ret
        exact ⟨by rw [hk1, hk2]; simp, Ext.refl _ _⟩
set_option maxRecDepth 20000 in
set_option maxHeartbeats 4000000 in
theorem dkCut {Ok : Nat → Prop} {b : Nat} {d : Dk.DiskD} (k : Int) (w : World) (h : DiskIs M w Ok b d) :
    Calls Tryz.prog 18 #[.pointer (some ⟨b, 0, none⟩), .int .i64 k] w fun e w' => e = .returned (.int .i64 (d.cutAt k).2) ∧ DiskIs M w' Ok b (d.cutAt k).1 ∧ Ext (DkB M b w) w w' := by
  obtain ⟨bd, bn, A, n, c, L, ys, h⟩ := h.out
  have f3 : w.frozen? ⟨b, 3, none⟩ = false := h.blk.frozen 3
  have k3 : w.cell? ⟨b, 3, none⟩ = some (.bool (decide (0 ≤ d.left))) := h.blk.cell 3
  have f4 : w.frozen? ⟨b, 4, none⟩ = false := h.blk.frozen 4
  have k4 : w.cell? ⟨b, 4, none⟩ = some (.int .i64 L) := h.blk.cell 4
  by_cases hk : k < 0 ∨ 1099511627776 < k
  · have hF := Lib.hid (show d.cutAt k = (d, 1) by unfold Dk.DiskD.cutAt; rw [if_pos hk])
    go_enter Tryz.func18, Tryz.ntmps18
    rcases hk with hk | hk
    · go_wp2
      go_ret
      exact ⟨by rw [hF.out]; rfl, by rw [hF.out]; exact ⟨bd, bn, A, n, c, L, ys, h⟩, Ext.refl _ _⟩
    · have hk2 : decide (k < 0) = false := by simp; omega
      go_wp2
      go_ret
      exact ⟨by rw [hF.out]; rfl, by rw [hF.out]; exact ⟨bd, bn, A, n, c, L, ys, h⟩, Ext.refl _ _⟩
  · have hF := Lib.hid (show d.cutAt k = ({ d with left := k }, 0) by unfold Dk.DiskD.cutAt; rw [if_neg hk])
    have hk1 : decide (k < 0) = false := by simp; omega
    have hk2 : decide (1099511627776 < k) = false := by simp; omega
    have HK := Lib.hid hk
    clear hk
    go_enter Tryz.func18, Tryz.ntmps18
    go_wp2
    go_ret
    have hx : Ext (fun q => q = b) w ((w.setCell ⟨b, 3, none⟩ (.bool true)).setCell ⟨b, 4, none⟩ (.int .i64 k)) := (Ext.set1 w b 3 _).trans (Ext.set1 _ b 4 _) (fun _ _ e => e)
    have hb := (h.blk.set_ 3 (.bool true)).set_ 4 (.int .i64 k)
    have h9 := HK.out
    refine ⟨by rw [hF.out]; rfl, ?_, h.dkb hx⟩
    rw [hF.out]
    exact ⟨bd, bn, A, n, c, k, ys, h.own1 hx (by rw [show decide (0 ≤ ({ d with left := k } : Dk.DiskD).left) = true by simp; omega]; exact hb) rfl rfl (fun _ => rfl) (by omega) (by omega)⟩
end Go.Proofs.YtockcifkphfnlaaGreatDoor
