/- The plain side of DiskWhole, DiskElse, DiskAgain. -/
import Derived.Test.YtlfpfhdagkkliaaDoorRd11
namespace Go.Proofs.YtlfpfhdagkkliaaDoor
set_option linter.unusedVariables false
set_option linter.unusedSimpArgs false
open Go.RowKit

namespace Dk
theorem write_dur (d : DiskD) (k : Nat) (s : Str) (data : List UInt8) : (d.write k s data).1.dur = d.dur := by
  unfold DiskD.write
  repeat' split
  all_goals first | rfl | exact did_dur ..
theorem move_dur (d : DiskD) (x : DidD) (b : Str) : (d.move x b).1.dur = d.dur := by
  unfold DiskD.move
  repeat' split
  all_goals first | rfl | exact did_dur ..
theorem step_dur {d : DiskD} {k : Int} (h5 : k ≠ 5) (h7 : k ≠ 7) (s t : Str) (data : List UInt8) (n : Int) : (step d k s t data n).dur = d.dur := by
  unfold step
  split
  · exact write_dur ..
  · split
    · exact write_dur ..
    · split
      · exact move_dur ..
      · split
        · exact move_dur ..
        · first | rw [if_neg h5] | skip
          split
          · unfold DiskD.cutAt; split <;> rfl
          · first | rfl | rw [if_neg h7]
theorem sync_files (d : DiskD) : d.sync.1.files = d.files := by
  unfold DiskD.sync
  split
  · rfl
  · unfold DiskD.counted DiskD.files
    split <;> rfl
theorem sync_dur {d : DiskD} (h : d.sync.2 = 0) : d.sync.1.dur = d.files := by
  unfold DiskD.sync at h ⊢
  split at h
  · simp at h
  · rw [if_neg (by assumption)]
    unfold DiskD.counted
    simp only
    split <;> rfl
theorem crash0_told {d d' : DiskD} (h : d.sync.2 = 0) (hd : d'.dur = d.sync.1.dur) : (d'.crash 0).told = d.sync.1.told := by
  rw [told_eq, told_eq, crash_zero, hd, sync_dur h, sync_files]
theorem crash_told (d : DiskD) (j k : Int) : ((d.crash j).crash k).told = (d.crash j).told := by
  rw [told_eq, told_eq, crash_again _ (crash_done d j)]
theorem crash_sync (d : DiskD) (k : Int) : (d.crash k).sync.2 = 0 := by simp [DiskD.sync, DiskD.crash]
theorem did_find {d : DiskD} (hA : Asc d.files) {x : DidD} {s : Str} (h1 : s ≠ x.name) (h2 : x.kind = 3 → s ≠ x.to_) : find (d.did x).files s = find d.files s := by
  rw [did_files]
  exact does_else hA h1 h2
theorem step_find {d : DiskD} (hg : Good d) {k : Int} (h7 : k ≠ 7) {s t u : Str} (h1 : u ≠ s) (h2 : u ≠ t) (data : List UInt8) (n : Int) : find (step d k s t data n).files u = find d.files u := by
  have hA := hg.files.asc
  have hw : ∀ k : Nat, k ≤ 1 → find (d.write k s data).1.files u = find d.files u := fun k hk => by
    unfold DiskD.write
    repeat' split
    all_goals first | rfl | exact did_find hA h1 (fun e => by simp at e; omega)
  unfold step
  split
  · exact hw 0 (by omega)
  · split
    · exact hw 1 (by omega)
    · split
      · unfold DiskD.remove DiskD.move
        repeat' split
        all_goals first | rfl | exact did_find hA h1 (fun e => by simp at e)
      · split
        · unfold DiskD.rename DiskD.move
          repeat' split
          all_goals first | rfl | exact did_find hA h1 (fun _ => h2)
        · split
          · rw [sync_files]
          · split
            · unfold DiskD.cutAt; split <;> rfl
            · first | rfl | rw [if_neg h7]
theorem step_read {d : DiskD} (hg : Good d) {k : Int} (h7 : k ≠ 7) {s t u : Str} (h1 : u ≠ s) (h2 : u ≠ t) (data : List UInt8) (n : Int) : (step d k s t data n).read u = d.read u := by
  unfold DiskD.read
  rw [step_find hg h7 h1 h2]
end Dk
theorem list_read {d : Dk.DiskD} (hg : Dk.Good d) {s : Dk.Str} (h : s ∈ d.list) : (d.read s).2 = 0 ∧ s.length ≤ maxLen := by
  unfold Dk.DiskD.list at h
  obtain ⟨⟨nm, l⟩, hm, rfl⟩ := List.mem_map.1 h
  refine ⟨by rw [read_mem hg hm], ?_⟩
  have h9 := hg.files.name _ hm
  unfold Dk.nameOk at h9
  simp only [Bool.and_eq_true, decide_eq_true_eq] at h9
  have h8 : nm.length ≤ 32 := h9.2.2
  show nm.length ≤ maxLen
  unfold maxLen
  omega
/-- the two disks of a law, behind t steps -/
structure Law (w wr : World) (Ok : Nat → Prop) (b r t : Nat) (d f : Dk.DiskD) : Prop where
  both : Both wr Ok b r d f
  done : d.done.length ≤ t
  done2 : f.done.length ≤ t
  ext : Ext Nothing w wr
section
variable {w w1 w2 w3 wr w4 : World} {Ok Ok' : Nat → Prop} {b r t : Nat} {d d' f : Dk.DiskD}
theorem Law.new (hb : w.heap.size + 2 ≤ b) (h1 : DiskIs w1 Ok b Dk.new) (hx1 : Ext Nothing w w1) (hx2 : Ext Nothing w1 w2) (h2 : RefIs w2 Ok r Dk.new) : Law w w2 Ok b r 0 Dk.new Dk.new :=
  ⟨⟨h1.keep0 hx2, h2, Dk.good_new, Dk.good_new, Dk.ren_nil rfl⟩, by simp [Dk.new], by simp [Dk.new], hx1.tr hx2⟩
theorem Law.keep0 (h : Law w wr Ok b r t d f) (hx : Ext Nothing wr w4) : Law w w4 Ok b r t d f := ⟨h.both.keep0 hx, h.done, h.done2, h.ext.tr hx⟩
theorem Law.more (h : Law w wr Ok b r t d f) : Law w wr Ok b r (t + 1) d f := ⟨h.both, by have := h.done; omega, by have := h.done2; omega, h.ext⟩
theorem Law.step (h : Law w wr Ok b r t d f) (hb : w.heap.size + 2 ≤ b) (hr : w.heap.size ≤ r) {x : OpC} (hO : Both w4 Ok' b r (x.step d) (x.step f)) (hx : Ext (BoB b r wr) wr w4) : Law w w4 Ok' b r (t + 1) (x.step d) (x.step f) :=
  ⟨hO, by have h1 := Dk.step_len d x.kind x.name x.to_ x.data x.n; have h2 := h.done; unfold OpC.step; omega, by have h1 := Dk.step_len f x.kind x.name x.to_ x.data x.n; have h2 := h.done2; unfold OpC.step; omega, BoB.fresh hb hr h.ext hx⟩
theorem Law.reads (h : Law w wr Ok b r t d f) (hb : w.heap.size + 2 ≤ b) (hr : w.heap.size ≤ r) {x : OpC} (hx : x.Read w) : ∀ w', Ext (BoB b r wr) wr w' → x.Read w' := fun w' h1 => hx.e0 (BoB.fresh hb hr h.ext h1)
/-- a Sync of the program's disk alone -/
theorem Law.sync (h : Law w wr Ok b r t d f) (hb : w.heap.size + 2 ≤ b) (hd : DiskIs w4 Ok b d.sync.1) (hx : Ext (DkB b wr) wr w4) : Law w w4 Ok b r t d.sync.1 f :=
  ⟨⟨hd, h.both.ref.offd hx, Dk.good_sync h.both.good, h.both.good2, h.both.ren⟩, by have := Dk.sync_len d; have := h.done; omega, h.done2, DkB.fresh hb h.ext hx⟩
end
end Go.Proofs.YtlfpfhdagkkliaaDoor
