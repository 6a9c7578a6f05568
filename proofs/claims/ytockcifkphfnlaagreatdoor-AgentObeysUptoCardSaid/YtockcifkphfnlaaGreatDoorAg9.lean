/- A machine starts on its disk. -/
import Derived.Test.YtockcifkphfnlaaGreatDoorAg8
import Derived.Test.YtockcifkphfnlaaGreatDoorAgN
import Derived.Test.YtockcifkphfnlaaGreatDoorAgA
import Derived.Lib.SlBytesRow
import Derived.Shelf.Bytes.SlSmallAll
import Derived.BigQuiet
namespace Go.Proofs.YtockcifkphfnlaaGreatDoor
set_option linter.unusedVariables false
set_option linter.unusedSimpArgs false
open Go.RowKit

theorem DiskIs.re {M Ok : Nat → Prop} {w : World} {b m2 : Nat} {d : Dk.DiskD} (h : DiskIs M w Ok b d) (hm : w.heap.size ≤ m2) : DiskIs (fun q => q = m2) w Ok b d := by
  obtain ⟨bd, bn, A, n, c, L, ys, hd⟩ := h.out
  have e1 := hd.dur.lt
  have e2 := hd.now.lt
  exact ⟨bd, bn, A, n, c, L, ys, ⟨hd.blk, hd.left, hd.l0, hd.l1, hd.dur, hd.now, ⟨hd.ne.1, hd.ne.2.1, hd.ne.2.2.1, fun e => by have e : bd = m2 := e; omega, fun e => by have e : bn = m2 := e; omega⟩, hd.own, hd.len, hd.data, hd.deeds⟩⟩
theorem run_conv {w : World} {A : Option Addr} {n : Nat} {l : List UInt8} (h : Sl w 1 A n (l.map bCell)) (c : Nat) :
    (convert 38 9 (.slice A n c)).run Tryz.prog w = .ok (strV l) w := by
  have hn : n = l.length := by have := h.len; simpa using this
  cases hl : l with
  | nil =>
    subst hl
    obtain rfl : n = 0 := hn
    exact run_convert_bytes_zero w _ _ Tryz.underlying38 Tryz.underlying5 A c _ Tryz.underlying9
  | cons x r =>
    rw [← hl]
    obtain ⟨_, b, o, hA, hc⟩ := h.get (Ext.refl _ _) (k := 0) (by rw [hn, hl]; simp)
    subst hA
    subst hn
    refine Go.Lib.run_convert_whole w _ _ _ Tryz.underlying38 Tryz.underlying5 Tryz.underlying9 b o ⟨l.toArray⟩ (fun i hi => ?_) c
    have hi' : i < l.length := hi
    obtain ⟨hj, b', o', hA', hc'⟩ := h.get (Ext.refl _ _) (k := i) hi'
    injection hA' with hA'
    injection hA' with hb ho
    subst hb ho
    have := hc' 0 (.int .u8 (l[i].toNat : Int)) (by simp)
    have h9 : w.cell? ⟨b, o + i, none⟩ = some (.int .u8 (l[i].toNat : Int)) := by simpa using this
    exact h9
theorem STNodeG : StructT Tryz.prog 30 8 := .of (by kernel_rfl)
set_option maxRecDepth 20000 in
set_option maxHeartbeats 16000000 in
theorem agStart {M Ok : Nat → Prop} {B b : Nat} {d : Dk.DiskD} {k sv : Int} (w : World) (h : DiskIs M w Ok b d) (hg : Dk.Good d) (hb : B ≤ b) (hB : B ≤ w.heap.size + 2) (htab : HTabB B w) (hs0 : 1 ≤ sv) (hs1 : sv ≤ 5) (hdn : d.done.length < 67108863) (hk : (k = 0 ∧ Dk.find d.files Ag.bootName = none) ∨ (1 ≤ k ∧ k < 1099511627776 ∧ Dk.find d.files Ag.bootName = some (Lib.itoa k))) (hok : (Ag.boots (Ag.fresh sv k) d).2.2 = 0) :
    Calls Tryz.prog 6 #[.agg #[.int .i64 2, .int .i64 0, .int .i64 0, .bool false, .bool false, .int .i64 0, .int .i64 0, .int .i64 0], .int .i64 sv, .pointer (some ⟨b, 0, none⟩)] w fun e w' => ∃ a mt, e = .returned (.tuple #[.pointer (some ⟨a, 0, none⟩), .int .i64 0]) ∧ AgIs w' (OkN w Ok) B a b mt (Ag.boots (Ag.fresh sv k) d).1 (Ag.boots (Ag.fresh sv k) d).2.1 ∧ w.heap.size ≤ a ∧ Ext (AgB B w) w w' := by
  have hmm := @run_makeMap Tryz.prog
  have n1 : ¬ sv < 1 := by omega
  have n2 : ¬ 5 < sv := by omega
  go_enter Tryz.func6, Tryz.ntmps6
  go_upto_region 3 with (first | go_skip | go_guarded)
  have hx0 : Ext Nothing w (w.alloc (.cells #[.int .i64 2, .int .i64 0, .int .i64 0, .bool false, .bool false, .int .i64 0, .int .i64 0, .int .i64 0] 30)) := Ext.auto
  have hN0 := Blk.new w 30 #[.int .i64 2, .int .i64 0, .int .i64 0, .bool false, .bool false, .int .i64 0, .int .i64 0, .int .i64 0]
  generalize w.heap.size = nb at hN0 ⊢
  generalize (w.alloc (.cells #[.int .i64 2, .int .i64 0, .int .i64 0, .bool false, .bool false, .int .i64 0, .int .i64 0, .int .i64 0] 30)) = w1 at hx0 hN0 ⊢
  have h1 := h.keep0 hx0
  clear n1 n2 hs0 hs1
  have hcall := dkRead Ag.bootName w1 h1 hg (by decide)
  have hcall : Calls Tryz.prog 20 #[.pointer (some ⟨b, 0, none⟩), .string ⟨#[98, 111, 111, 116]⟩] w1 _ := hcall
  go_upto_if 41 with (first | go_skip | go_guarded | (go_at_call 20; (with_reducible refine hcall.mono ?_); rintro e w2 ⟨v, rfl, hv, hx2⟩))
  clear hcall
  have hxa := hx0.tr hx2
  have htab2 := htab.e0 hxa
  obtain ⟨A, n, c, rfl, ⟨hsl, hnc⟩, _⟩ := hv
  have hN2 := hN0.e0 hx2
  clear hx0 hx2 h1 hN0
  generalize hr : d.read Ag.bootName = r at hsl ⊢
  obtain ⟨dt, er⟩ := r
  dsimp only at hsl ⊢
  go_cut [10] from 41 to 66 (fun e wx => e = .int .i64 k ∧ Ext Nothing w2 wx)
  case first =>
    rcases hk with ⟨hk0, hf⟩ | ⟨hk0, hk1, hf⟩
    · have hR : d.read Ag.bootName = ([], 12) := by unfold Dk.DiskD.read; rw [if_neg (by decide), hf]
      obtain ⟨rfl, rfl⟩ : dt = [] ∧ er = 12 := by rw [hr] at hR; injection hR with e1 e2; exact ⟨e1, e2⟩
      subst hk0
      go_wp2_with (first | go_skip | go_guarded)
      go_meet
      exact ⟨rfl, Ext.refl _ _⟩
    · have hR : d.read Ag.bootName = (Lib.itoa k, 0) := by unfold Dk.DiskD.read; rw [if_neg (by decide), hf]
      obtain ⟨rfl, rfl⟩ : dt = Lib.itoa k ∧ er = 0 := by rw [hr] at hR; injection hR with e1 e2; exact ⟨e1, e2⟩
      have hcv := run_conv hsl c
      have hat := agAtoi k w2 (by omega) (by omega)
      go_upto_region 7 with (first | go_skip | go_guarded | (go_at_call 21; (with_reducible refine hat.mono ?_); rintro e w3 ⟨rfl, hx3⟩))
      refine zS (S := fun W' => Ext Nothing w3 W') (by kernel_rfl) ?_
      have hd : Ext Nothing w3 w3.drew := (Ext.refl _ _).drew
      generalize w3.drew = Wd at hd ⊢
      have hS := hd
      have hsl3 := hsl.ext0 hx3
      have m1 : ¬ k < 1 := by omega
      have m2 : ¬ 1099511627776 ≤ k := by omega
      have HK := Lib.hid (show 0 ≤ k ∧ k ≤ 1099511627776 by omega)
      clear hk0 hk1 hcv
      refine zT 0 (.nilIface) rfl (by kernel_rfl) (by rfl) hS (fun _ _ _ h => h) (fun W' hS' => by go_simp) ?_
      (try simp only [Act.put, zA, zB, zC, zD, zE, zF])
      refine zT 1 (.bool false) rfl (by kernel_rfl) (by rfl) hS (fun _ _ _ h => h) (fun W' hS' => by go_simp) ?_
      (try simp only [Act.put, zA, zB, zC, zD, zE, zF])
      refine zT 2 (.bool false) rfl (by kernel_rfl) (by rfl) hS (fun _ _ _ h => h) (fun W' hS' => by go_simp) ?_
      (try simp only [Act.put, zA, zB, zC, zD, zE, zF])
      refine zT 3 (.int .i64 k) rfl (by kernel_rfl) (by rfl) hS (fun _ _ _ h => h) (fun W' hS' => by go_simp) ?_
      (try simp only [Act.put, zA, zB, zC, zD, zE, zF])
      refine zT 4 (.bool false) rfl (by kernel_rfl) (by rfl) hS (fun _ _ _ h => h) (fun W' hS' => by go_simp) ?_
      (try simp only [Act.put, zA, zB, zC, zD, zE, zF])
      refine zT 5 (.bool false) rfl (by kernel_rfl) (by rfl) hS (fun _ _ _ h => h) (fun W' hS' => by go_simp) ?_
      (try simp only [Act.put, zA, zB, zC, zD, zE, zF])
      refine zT 6 (.bool false) rfl (by kernel_rfl) (by rfl) hS (fun _ _ _ h => h) (fun W' hS' => by go_simp) ?_
      (try simp only [Act.put, zA, zB, zC, zD, zE, zF])
      refine zT 7 (.int .i64 k) rfl (by kernel_rfl) (by rfl) hS (fun _ _ _ h => h) (fun W' hS' => by go_simp) ?_
      (try simp only [Act.put, zA, zB, zC, zD, zE, zF])
      refine zT 8 (.bool false) rfl (by kernel_rfl) (by rfl) hS (fun _ _ _ h => h) (fun W' hS' => by go_simp) ?_
      (try simp only [Act.put, zA, zB, zC, zD, zE, zF])
      refine zT 9 (.bool false) rfl (by kernel_rfl) (by rfl) hS (fun _ _ _ h => h) (fun W' hS' => by go_simp) ?_
      (try simp only [Act.put, zA, zB, zC, zD, zE, zF])
      refine zT 10 (.bool false) rfl (by kernel_rfl) (by rfl) hS (fun _ _ _ h => h) (fun W' hS' => by go_simp) ?_
      (try simp only [Act.put, zA, zB, zC, zD, zE, zF])
      refine zT 11 (.int .i64 k) rfl (by kernel_rfl) (by rfl) hS (fun _ _ _ h => h) (fun W' hS' => by go_simp) ?_
      (try simp only [Act.put, zA, zB, zC, zD, zE, zF])
      refine zT 13 (.slice A n c) rfl (by kernel_rfl) (by rfl) hS (fun _ _ _ h => h) (fun W' hS' => by go_simp) ?_
      (try simp only [Act.put, zA, zB, zC, zD, zE, zF])
      refine zT 14 (strV (Lib.itoa k)) rfl (by kernel_rfl) (by rfl) hS (fun _ _ _ h => h) (fun W' hS' => by have q9 := run_conv (hsl3.ext0 hS') c; go_simp) ?_
      (try simp only [Act.put, zA, zB, zC, zD, zE, zF])
      refine zO 12 (by kernel_rfl) ?_
      refine wpOp_call rfl (by rfl) ?_ ((agItoa k Wd HK.out.1 HK.out.2 ((htab2.e0 hx3).e0 hd).here).mono ?_)
      · go_simp
      rintro e w4 ⟨rfl, hx4⟩
      refine ⟨_, rfl, hS.tr hx4, ?_⟩
      (try simp only [Act.put, zA, zB, zC, zD, zE, zF])
      refine zO 15 (by kernel_rfl) ?_
      refine wpOp_val (v := .bool false) rfl (by rfl) (by go_simp) ⟨hS.tr hx4, ?_⟩
      (try simp only [Act.put, zA, zB, zC, zD, zE, zF])
      refine zO 16 (by kernel_rfl) ?_
      refine wpOp_val (v := .bool false) rfl (by rfl) (by go_simp) ⟨hS.tr hx4, wpAnyH_done (by kernel_rfl) ?_ _⟩
      (try simp only [Act.put, zA, zB, zC, zD, zE, zF])
      go_wp2_with (first | go_skip | go_guarded)
      go_meet
      exact ⟨rfl, hx3.tr (hd.tr hx4)⟩
  case rest =>
    obtain ⟨rfl, hxc⟩ := hcut
    have hxb := hxa.tr hxc
    have hN3 := hN2.e0 hxc
    have htab3 := htab2.e0 hxc
    have hzb := hxb.size
    have h3 := h.keep0 hxb
    have hkb : 0 ≤ k ∧ k ≤ 1099511627776 := by rcases hk with e | e <;> omega
    clear hxa hxc hN2 htab2 hsl hnc hr hk
    obtain ⟨w3, rfl⟩ : ∃ z : World, z = wc := ⟨_, rfl⟩
    go_upto_region 11 with (first | go_skip | go_guarded | ((with_reducible refine isLd 30 rfl ?_); refine wpList_load_blk rfl 30 _ rfl STNodeG nb rfl #[.int .i64 2, .int .i64 0, .int .i64 0, .bool false, .bool false, .int .i64 0, .int .i64 0, .int .i64 0] hN3 rfl ?_) | ((with_reducible refine isBd 84 rfl ?_); refine wpList_build rfl _ _ rfl (Ag.AgD.cells (Ag.fresh sv k) b w3.heap.size) (by kernel_rfl) ?_))
    have hsz : (w3.alloc (.map #[] 0)).heap.size = w3.heap.size + 1 := by simp
    have hxm : Ext Nothing w3 ((w3.alloc (.map #[] 0)).alloc (.cells (Ag.AgD.cells (Ag.fresh sv k) b w3.heap.size) 84)) := Ext.auto
    have hBa : Blk ((w3.alloc (.map #[] 0)).alloc (.cells (Ag.AgD.cells (Ag.fresh sv k) b w3.heap.size) 84)) (w3.heap.size + 1) 84 (Ag.AgD.cells (Ag.fresh sv k) b w3.heap.size) := by have h9 := Blk.new (w3.alloc (.map #[] 0)) 84 (Ag.AgD.cells (Ag.fresh sv k) b w3.heap.size); rw [hsz] at h9; exact h9
    have hTm : TM ((w3.alloc (.map #[] 0)).alloc (.cells (Ag.AgD.cells (Ag.fresh sv k) b w3.heap.size) 84)) w3.heap.size [] := (TM.new w3).ext (show Ext Nothing _ ((w3.alloc (.map #[] 0)).alloc (.cells (Ag.AgD.cells (Ag.fresh sv k) b w3.heap.size) 84)) from Ext.auto) (fun e => e)
    have hI : AgIs ((w3.alloc (.map #[] 0)).alloc (.cells (Ag.AgD.cells (Ag.fresh sv k) b w3.heap.size) 84)) Ok B (w3.heap.size + 1) b w3.heap.size (Ag.fresh sv k) d := ⟨hBa, (h3.re (Nat.le_refl _)).keep0 hxm, hTm, hg, rfl, ⟨by omega, hb, by omega⟩⟩
    have htab4 := htab3.e0 hxm
    have hxw := hxb.tr hxm
    have hzw := hxw.size
    clear hBa hTm hxm hsz h3 htab3 hxb
    generalize ((w3.alloc (.map #[] 0)).alloc (.cells (Ag.AgD.cells (Ag.fresh sv k) b w3.heap.size) 84)) = w5 at hI htab4 hxw hzw ⊢
    have hcall := agBoots w5 hI htab4 hkb.1 hkb.2 hdn
    rw [hok] at hcall
    go_wp2_with (first | go_skip | go_guarded | (go_at_call 23; (with_reducible refine hcall.mono ?_); rintro e w6 ⟨rfl, hI6, hx6⟩))
    go_ret2
    exact ⟨_, _, rfl, hI6.mono (fun q _ e => by rcases e with e | e; exact .inl e; exact .inr (by omega)), by omega, AgB.trans (hxw.mono (fun _ _ e => e.elim)) hx6⟩
end Go.Proofs.YtockcifkphfnlaaGreatDoor
