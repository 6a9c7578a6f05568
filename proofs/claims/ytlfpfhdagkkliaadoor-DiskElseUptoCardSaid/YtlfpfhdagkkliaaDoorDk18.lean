/- The law's told: the files of a disk, one behind the other. -/
import Derived.Test.YtlfpfhdagkkliaaDoorDk17
import Derived.Lib.SlBytesRow
import Derived.Shelf.Bytes.SlSmallAll
import Derived.BigQuiet
namespace Go.Proofs.YtlfpfhdagkkliaaDoor
set_option linter.unusedVariables false
set_option linter.unusedSimpArgs false
open Go.RowKit

namespace Dk
def tell (f : Str × List UInt8) : List UInt8 := f.1 ++ [61] ++ f.2 ++ [59]
def DiskD.told (d : DiskD) : List UInt8 := (d.files.map tell).flatten
theorem tells_len : ∀ {l : Files}, (∀ f ∈ l, f.1.length ≤ 32 ∧ f.2.length ≤ 1048576) → ((l.map tell).flatten).length ≤ l.length * 1048610
  | [], _ => by simp
  | f :: r, h => by
    have h1 := tells_len (fun g hg => h g (List.mem_cons_of_mem _ hg))
    have h2 := h f (List.mem_cons_self ..)
    rw [List.map_cons, List.flatten_cons, List.length_append, List.length_cons]
    have e : (tell f).length = f.1.length + 1 + f.2.length + 1 := by
      unfold tell
      simp only [List.length_append, List.length_cons, List.length_nil]
    omega
theorem tell_len {F : Files} (h : FilesOk F) (t : Nat) : (((F.take t).map tell).flatten).length ≤ 67111040 := by
  have h1 := tells_len (l := F.take t) (fun f hf => by
    have hf := List.mem_of_mem_take hf
    have hnm := h.name f hf
    unfold nameOk at hnm
    simp only [Bool.and_eq_true, decide_eq_true_eq] at hnm
    exact ⟨hnm.2.2, h.size f hf⟩)
  have h2 : (F.take t).length ≤ 64 := by rw [List.length_take]; have := h.few; omega
  omega
end Dk
theorem byte_nat (b : UInt8) : ((b.toNat : Int)) = (b.toNat : Int) := rfl
theorem run_conv {w : World} {A : Option Addr} {n : Nat} {l : List UInt8} (h : Sl w 1 A n (l.map bCell)) (c : Nat) :
    (convert 29 9 (.slice A n c)).run Tryd.prog w = .ok (strV l) w := by
  have hn : n = l.length := by have := h.len; simpa using this
  cases hl : l with
  | nil =>
    subst hl
    obtain rfl : n = 0 := hn
    exact run_convert_bytes_zero w _ _ Tryd.underlying29 Tryd.underlying5 A c _ Tryd.underlying9
  | cons x r =>
    rw [← hl]
    obtain ⟨_, b, o, hA, hc⟩ := h.get (Ext.refl _ _) (k := 0) (by rw [hn, hl]; simp)
    subst hA
    subst hn
    refine Go.Lib.run_convert_whole w _ _ _ Tryd.underlying29 Tryd.underlying5 Tryd.underlying9 b o ⟨l.toArray⟩ (fun i hi => ?_) c
    have hi' : i < l.length := hi
    obtain ⟨hj, b', o', hA', hc'⟩ := h.get (Ext.refl _ _) (k := i) hi'
    injection hA' with hA'
    injection hA' with hb ho
    subst hb ho
    have := hc' 0 (.int .u8 (l[i].toNat : Int)) (by simp)
    have h9 : w.cell? ⟨b, o + i, none⟩ = some (.int .u8 (l[i].toNat : Int)) := by simpa using this
    exact h9
theorem str_add (a b : List UInt8) : (⟨a.toArray⟩ : ByteArray) ++ (⟨b.toArray⟩ : ByteArray) = ⟨(a ++ b).toArray⟩ := by
  apply ByteArray.ext
  rw [ByteArray.data_append]
  simp
set_option maxRecDepth 20000 in
set_option maxHeartbeats 8000000 in
theorem lawTold {Ok : Nat → Prop} {b : Nat} {d : Dk.DiskD} (w : World) (h : DiskIs w Ok b d) (hg : Dk.Good d) :
    Calls Tryd.prog 15 #[.pointer (some ⟨b, 0, none⟩)] w fun e w' => e = .returned (strV d.told) ∧ Ext Nothing w w' := by
  have hfo := hg.files
  go_enter Tryd.func15, Tryd.ntmps15
  go_upto_region 3 with (first | go_skip | go_guarded | (go_at_call 22; (with_reducible refine (dkList w h hg).mono ?_); rintro e w1 ⟨v, rfl, ho, hx1⟩))
  obtain ⟨A, c, rfl⟩ := own_slice ho
  have ho2 : w1.ownsRow w.heap.size 9 1 (.slice A d.list.length c) d.list.length (d.list.flatMap fun s => [strV s]) := by rw [← List.map_eq_flatMap]; exact ho
  have hsl : Sl w1 1 A d.list.length (d.list.map fun s => [strV s]) := Sl.of_own (f := fun s => [strV s]) (fun _ => rfl) ho2 rfl
  generalize hnl : d.list.length = n at hsl ⊢
  have HNL := Lib.hid hnl
  have hn64 : n ≤ 64 := by rw [← hnl]; unfold Dk.DiskD.list; rw [List.length_map]; exact hfo.few
  have HDE := Lib.hid (show d.told = (d.files.map Dk.tell).flatten from rfl)
  clear ho ho2 hnl
  go_upto_region 4 with fail
  go_loopw [3, 5] (fun out ki wr => ∃ t : Nat, t ≤ n ∧ ki = .int .i64 t ∧ out = strV ((d.files.take t).map Dk.tell).flatten ∧ Ext Nothing w wr ∧ Ext Nothing w1 wr) (fun _ ki _ => n - (intOf ki).toNat)
  case atStart => exact ⟨0, Nat.zero_le _, rfl, rfl, hx1, Ext.refl _ _⟩
  case round =>
    obtain ⟨t, ht, rfl, rfl, hx, hxr⟩ := hrel
    by_cases hlt : t < n
    · obtain ⟨hj, q, off, hAe, hce⟩ := hsl.get hxr hlt
      have hjf : t < d.files.length := by have := HNL.out; unfold Dk.DiskD.list at this; rw [List.length_map] at this; omega
      have hje : d.list[t] = d.files[t].1 := by simp [Dk.DiskD.list]
      have HT := Lib.hid hlt
      have hfm := List.getElem_mem hjf
      have HTK := Lib.hid (show d.files.take (t + 1) = d.files.take t ++ [d.files[t]] by rw [List.take_add_one, List.getElem?_eq_getElem hjf]; rfl)
      have hcs := hce 0 (strV d.list[t]) rfl
      rw [hje] at hcs
      simp only [Nat.mul_one, Nat.add_zero] at hcs
      generalize d.files[t] = f at hcs hfm HTK
      obtain ⟨s, l⟩ := f
      have hnm : Dk.nameOk s = true := hfo.name _ hfm
      have hsl2 : s.length ≤ maxLen := by
        unfold Dk.nameOk at hnm
        simp only [Bool.and_eq_true, decide_eq_true_eq] at hnm
        have := hnm.2.2
        unfold maxLen
        omega
      have HRD := Lib.hid (show d.read s = (l, 0) by
        unfold Dk.DiskD.read
        rw [if_neg (by rw [hnm]; simp), (Dk.asc_find hfo.asc).2 hfm])
      have hal := Dk.tell_len hfo t
      have htf : t ≤ 64 := by omega
      generalize hacc : ((d.files.take t).map Dk.tell).flatten = acc at hal ⊢
      have HACC := Lib.hid hacc
      clear hacc
      have hk0 : (0 : Int) ≤ (t : Int) := by omega
      have hk1 : (t : Int) < n := by omega
      subst hAe
      have hl1 : l.length ≤ 1048576 := hfo.size _ hfm
      have hl2 : s.length ≤ 32 := by
        unfold Dk.nameOk at hnm
        simp only [Bool.and_eq_true, decide_eq_true_eq] at hnm
        exact hnm.2.2
      clear hlt hce hje hsl hnm hfm
      go_upto_region 7 with (first | go_skip | go_guarded | (go_at_call 23; (with_reducible refine (dkRead s wr (h.keep0 hx) hg hsl2).mono ?_); rintro e w3 ⟨v3, rfl, hv3, hx3⟩))
      rw [HRD.out] at hv3 ⊢
      dsimp only at hv3 ⊢
      obtain ⟨A3, n3, c3, rfl, ⟨hs3, _⟩, _⟩ := hv3
      have hcs3 := hx3.cell hcs (fun e => e)
      have hx03 := hx.tr hx3
      have hxr3 := hxr.tr hx3
      clear hx hxr hx3 hcs h hg
      refine zH (S := Nothing) (by kernel_rfl) (fun Wd hS hd => ?_)
      refine zT 0 (strV acc) rfl (by kernel_rfl) (by rfl) hS (fun _ _ _ h => h) (fun W' hS' => by go_simp) ?_
      refine zT 1 (.slice (some ⟨q, off, none⟩) n c) rfl (by kernel_rfl) (by rfl) hS (fun _ _ _ h => h) (fun W' hS' => by go_simp) ?_
      refine zT 2 (.int .i64 (t : Int)) rfl (by kernel_rfl) (by rfl) hS (fun _ _ _ h => h) (fun W' hS' => by go_simp) ?_
      refine zT 3 (.pointer (some ⟨q, off + t, none⟩)) rfl (by kernel_rfl) (by rfl) hS (fun _ _ _ h => h) (fun W' hS' => by go_simp) ?_
      refine zT 4 (strV s) rfl (by kernel_rfl) (by rfl) hS (fun _ _ _ h => h) (fun W' hS' => by have q9 := hS'.cell hcs3 (fun e => e); go_simp) ?_
      (try simp only [Act.put, zA, zB, zC, zD, zE, zF])
      refine zT 5 (strV (acc ++ s)) rfl (by kernel_rfl) (by rfl) hS (fun _ _ _ h => h) (fun W' hS' => by have q9 := str_add acc s; go_simp; omega) ?_
      refine zT 6 (strV (acc ++ (s ++ [61]))) rfl (by kernel_rfl) (by rfl) hS (fun _ _ _ h => h) (fun W' hS' => by have q9 := str_add (acc ++ s) [61]; go_simp; omega) ?_
      refine zT 7 (.slice A3 n3 c3) rfl (by kernel_rfl) (by rfl) hS (fun _ _ _ h => h) (fun W' hS' => by go_simp) ?_
      refine zT 8 (strV l) rfl (by kernel_rfl) (by rfl) hS (fun _ _ _ h => h) (fun W' hS' => by have q9 := run_conv (hs3.ext0 hS') c3; go_simp) ?_
      refine zT 9 (strV (acc ++ (s ++ 61 :: l))) rfl (by kernel_rfl) (by rfl) hS (fun _ _ _ h => h) (fun W' hS' => by have q9 := str_add (acc ++ (s ++ [61])) l; have q8 : ¬ (9223372036854775807 < acc.length + (s.length + 1) + l.length) := (by omega); go_simp) ?_
      refine zT 10 (strV (acc ++ (s ++ 61 :: (l ++ [59])))) rfl (by kernel_rfl) (by rfl) hS (fun _ _ _ h => h) (fun W' hS' => by have q9 : (⟨(acc ++ (s ++ 61 :: l)).toArray⟩ : ByteArray) ++ (⟨#[59]⟩ : ByteArray) = ⟨(acc ++ (s ++ 61 :: l) ++ [59]).toArray⟩ := str_add _ [59]; have q8 : ¬ (9223372036854775807 < acc.length + (s.length + (l.length + 1)) + 1) := (by omega); go_simp) ?_
      (try simp only [Act.put, zA, zB, zC, zD, zE, zF])
      refine zO 11 (by kernel_rfl) ?_
      refine wpOp_val (v := strV (acc ++ (s ++ 61 :: (l ++ [59])))) (w' := Wd) rfl (by rfl) (by go_simp) ⟨hS, wpAnyH_done (by kernel_rfl) ?_ _⟩
      (try simp only [Act.put, zA, zB, zC, zD, zE, zF])
      have hx0d := hx03.tr hd
      have hxrd := hxr3.tr hd
      clear hx03 hxr3 hd hS hcs3 hs3
      generalize hac : acc ++ (s ++ 61 :: (l ++ [59])) = acc2
      have HAC := Lib.hid hac
      clear hac
      go_wp2
      go_roundw
      case rel => exact ⟨t + 1, HT.out, by go_num, by rw [HTK.out, List.map_append, List.flatten_append, HACC.out, ← HAC.out]; simp [Dk.tell], hx0d, hxrd⟩
      case measure => have := HT.out; simp [intOf]; omega
    · have hnl : ¬ ((t : Int) < n) := by omega
      have HE := Lib.hid (show ((d.files.take t).map Dk.tell).flatten = d.told by
        rw [HDE.out, List.take_of_length_le]
        have := HNL.out
        unfold Dk.DiskD.list at this
        rw [List.length_map] at this
        omega)
      rw [HE.out]
      go_wp2
      go_ret
      exact ⟨rfl, hx⟩
end Go.Proofs.YtlfpfhdagkkliaaDoor
