/- The document's disk: Files, counted, did. (printed by wip/gen/rdfiles.py) -/
import Derived.Test.YtlfpfhdagkkliaaDoorRd4
namespace Go.Proofs.YtlfpfhdagkkliaaDoor
set_option linter.unusedVariables false
set_option linter.unusedSimpArgs false
open Go.RowKit

namespace Dk
/-- each file that is renamed is there -/
def Ren (d : DiskD) : Prop := ∀ k x, d.done[k]? = some x → x.kind = 3 → find (d.at_ k) x.name ≠ none
theorem ren_nil {d : DiskD} (h : d.done = []) : Ren d := fun k x hx => by rw [h] at hx; simp at hx
theorem at_succ {d : DiskD} {k : Nat} {x : DidD} (hx : d.done[k]? = some x) : d.at_ (k + 1) = does (d.at_ k) x := by
  unfold DiskD.at_
  rw [List.take_add_one, hx, List.foldl_append]
  rfl
theorem ren_did {d : DiskD} (h : Ren d) {x : DidD} (hx : x.kind = 3 → find d.files x.name ≠ none) : Ren (d.did x) := by
  intro k y hy hk
  rw [did_done] at hy
  rcases Nat.lt_trichotomy k d.done.length with hl | hl | hl
  · rw [List.getElem?_append_left hl] at hy
    have := h k y hy hk
    unfold DiskD.at_ at this ⊢
    rw [did_done, did_dur, List.take_append_of_le_length (by omega)]
    exact this
  · subst hl
    rw [List.getElem?_append_right (Nat.le_refl _), Nat.sub_self] at hy
    have hy : x = y := by simpa using hy
    subst hy
    have := hx hk
    rw [← at_all] at this
    unfold DiskD.at_ at this ⊢
    rw [did_done, did_dur, List.take_append_of_le_length (Nat.le_refl _)]
    exact this
  · rw [List.getElem?_append_right (by omega)] at hy
    have : ([x] : List DidD)[k - d.done.length]? = none := by rw [List.getElem?_eq_none_iff]; simp; omega
    rw [this] at hy
    cases hy
theorem ren_write {d : DiskD} (h : Ren d) {k : Nat} (hk : k ≤ 1) (s : Str) (data : List UInt8) : Ren (d.write k s data).1 := by
  unfold DiskD.write
  repeat' split
  all_goals first | exact h | exact ren_did h (fun e => by simp at e; omega)
theorem ren_move {d : DiskD} (h : Ren d) (x : DidD) (b : Str) : Ren (d.move x b).1 := by
  unfold DiskD.move
  split
  · exact h
  · split
    · exact h
    · split
      · exact h
      · rename_i hf
        exact ren_did h (fun _ => by simpa using hf)
theorem ren_sync {d : DiskD} (h : Ren d) : Ren d.sync.1 := by
  unfold DiskD.sync
  split
  · exact h
  · exact ren_nil (counted_done _)
theorem ren_cut {d : DiskD} (h : Ren d) (n : Int) : Ren (d.cutAt n).1 := by
  unfold DiskD.cutAt
  split
  · exact h
  · exact h
theorem ren_crash (d : DiskD) (k : Int) : Ren (d.crash k) := ren_nil rfl
end Dk
theorem okn_mono {w w' : World} {Ok : Nat → Prop} (h : w.heap.size ≤ w'.heap.size) {q : Nat} (hq : OkN w' (OkN w Ok) q) : OkN w Ok q := by
  rcases hq with hq | hq
  · exact hq
  · exact .inr (by omega)
set_option maxRecDepth 20000 in
set_option maxHeartbeats 8000000 in
theorem rFiles {Ok : Nat → Prop} {r n c : Nat} {fv : Value} {A : Option Addr} {zs : List DidC} {d : Dk.DiskD} (w : World) (h : RefAt w Ok r fv A n c zs d) (hg : Dk.Good d) (hR : Dk.Ren d) (hdl : d.done.length < 67108864) :
    Calls Tryd.prog 33 #[.pointer (some ⟨r, 0, none⟩)] w fun e w' => ∃ v, e = .returned v ∧ FilesV w' (OkN w Ok) v d.files ∧ Ext Nothing w w' := by
  have hsl : Sl w 4 A n (zs.map DidC.cells) := Sl.of_own (f := DidC.cells) (sz := 4) (fun _ => rfl) (by have := h.own; exact this) h.len
  have hnd : n = d.done.length := by rw [h.len, ← h.done, List.length_map]
  have HND := Lib.hid hnd
  have hn : n < 67108864 := by omega
  have hdn := Lib.hid h.done
  clear hnd
  obtain ⟨A0, n0, c0, ys0, rfl, hF0, hy0⟩ := id h.dur
  have k0 : w.cell? ⟨r, 0, none⟩ = some (.slice A0 n0 c0) := h.blk.cell 0
  have hB := h.blk
  go_enter Tryd.func33, Tryd.ntmps33
  go_upto_region 3 with (first | go_skip | go_guarded)
  clear k0
  go_loopw [3, 4] (fun lv ki wr => ∃ t : Nat, t ≤ n ∧ ki = .int .i64 t ∧ ∃ A1 n1 c1 ys, lv = .slice A1 n1 c1 ∧ FilesAt wr (OkN w Ok) A1 n1 c1 ys ∧ ys.map (·.1) = d.at_ t ∧ Ext Nothing w wr) (fun _ ki _ => n - (intOf ki).toNat)
  case atStart => exact ⟨0, Nat.zero_le _, rfl, A0, n0, c0, ys0, rfl, hF0.mono (fun _ _ e => .inl e), by rw [hy0]; simp [Dk.DiskD.at_], Ext.refl _ _⟩
  case round =>
    clear hF0 hy0
    obtain ⟨t, ht, rfl, A1, n1, c1, ys, rfl, hF, hys, hx⟩ := hrel
    have b1 : wr.cell? ⟨r, 1, none⟩ = some (.slice A n c) := (hB.e0 hx).cell 1
    have hfo := hg.at_ t
    have hyl : ys.length ≤ 64 := by have := hfo.few; rw [← hys, List.length_map] at this; exact this
    have hn1 : n1 < 33554432 := by rw [hF.sl.len]; omega
    by_cases hlt : t < n
    · obtain ⟨hjn, q, off, hAe, hce⟩ := hsl.get hx hlt
      have hyd : d.done[t]? = some zs[t].1 := by rw [← hdn.out, List.getElem?_map, List.getElem?_eq_getElem hjn]; rfl
      have hyi := (h.dids _ (List.getElem_mem hjn)).keep hx Off.none
      generalize zs[t] = y at hce hyd hyi
      subst hAe
      have hce : ∀ j u, (#[.int .i64 (y.1.kind : Int), strV y.1.name, strV y.2.1, y.2.2] : Array Value).toList[j]? = some u → wr.cell? ⟨q, off + t * 4 + j, none⟩ = some u := hce
      have HQ := Lib.hid hce
      have hk0 : (0 : Int) ≤ (t : Int) := by omega
      have hk1 : (t : Int) < n := by omega
      have HT := Lib.hid hlt
      have HSC := Lib.hid (Dk.at_succ hyd)
      have hdo := hg.did _ (List.mem_of_getElem? hyd)
      have hrn : y.1.kind = 3 → Dk.find (ys.map (·.1)) y.1.name ≠ none := fun e => by rw [hys]; exact hR t _ hyd e
      have hsz : ∀ z ∈ ys, z.1.2.length ≤ 1048576 := fun z hz => hfo.size _ (by rw [← hys]; exact List.mem_map_of_mem hz)
      have HYS := Lib.hid hys
      clear hce hyd hlt hys
      go_wp2_with (first | go_skip | go_guarded | ((with_reducible refine dW ?_); refine wpList_load_at rfl 85 _ rfl STDid q (off + t * 4) rfl #[.int .i64 (y.1.kind : Int), strV y.1.name, strV y.2.1, y.2.2] HQ.out rfl ?_) | (go_at_call 55; (with_reducible refine (rDoes A1 n1 c1 ys y wr hF hn1 (hyi.mono (fun _ _ e => .inl e)) hdo.kind hdo.data hsz hrn).mono ?_); rintro e w8 ⟨v8, rfl, ⟨A8, n8, c8, ys8, rfl, hF8, hy8⟩, hx8⟩))
      go_roundw
      case rel => exact ⟨t + 1, HT.out, by go_num, A8, n8, c8, ys8, rfl, hF8.mono (fun _ _ e => okn_mono hx.size e), by rw [hy8, HSC.out, HYS.out], hx.tr hx8⟩
      case measure => have := HT.out; simp [intOf]; omega
    · have hnl : ¬ ((t : Int) < n) := by omega
      have HE := Lib.hid (show d.at_ t = d.files by rw [← Dk.at_all]; unfold Dk.DiskD.at_; rw [List.take_of_length_le (by have := HND.out; omega), List.take_length])
      have HYS := Lib.hid hys
      clear hys
      go_wp2_with (first | go_skip | go_guarded)
      go_ret
      exact ⟨_, rfl, ⟨A1, n1, c1, ys, rfl, hF, by rw [HYS.out, HE.out]⟩, hx⟩
set_option maxRecDepth 20000 in
set_option maxHeartbeats 8000000 in
theorem rCounted {Ok : Nat → Prop} {r n c : Nat} {fv : Value} {A : Option Addr} {zs : List DidC} {d : Dk.DiskD} (w : World) (h : RefAt w Ok r fv A n c zs d) :
    Calls Tryd.prog 53 #[.pointer (some ⟨r, 0, none⟩)] w fun e w' => e = .returned (.tuple #[]) ∧ RefAt w' Ok r fv A n c zs d.counted ∧ Ext (fun q => q = r) w w' := by
  have k2 : w.cell? ⟨r, 2, none⟩ = some (.int .i64 d.left) := h.blk.cell 2
  have f2 : w.frozen? ⟨r, 2, none⟩ = false := h.blk.frozen 2
  have hlim := h.lim
  have HL := Lib.hid h.lim
  go_enter Tryd.func53, Tryd.ntmps53
  by_cases hp : 0 < d.left
  · have HP := Lib.hid hp
    go_wp2_with (first | go_skip | go_guarded)
    go_end0
    have hx : Ext (fun q => q = r) w (w.setCell ⟨r, 2, none⟩ (.int .i64 (d.left - 1))) := Ext.set1 _ _ _ _
    have hc : d.counted = { d with left := d.left - 1 } := by unfold Dk.DiskD.counted; rw [if_pos HP.out]
    rw [hc]
    exact ⟨rfl, RefAt.set h.blk hx (h.blk.set_ 2 (.int .i64 (d.left - 1))) h.dur h.own h.len h.done h.dids (by have h1 := HL.out; have h2 := HP.out; constructor <;> simp only <;> omega), hx⟩
  · have hc : d.counted = d := by unfold Dk.DiskD.counted; rw [if_neg hp]
    rw [hc]
    go_wp2_with (first | go_skip | go_guarded)
    go_end0
    exact ⟨rfl, h, Ext.refl _ _⟩
set_option maxRecDepth 20000 in
set_option maxHeartbeats 8000000 in
theorem rDid {Ok : Nat → Prop} {r n c : Nat} {fv : Value} {A : Option Addr} {zs : List DidC} {d : Dk.DiskD} (y : DidC) (w : World) (h : RefAt w Ok r fv A n c zs d) (hy : DidI w Ok y) (hdl : d.done.length < 67108864) :
    Calls Tryd.prog 62 #[.pointer (some ⟨r, 0, none⟩), .agg #[.int .i64 (y.1.kind : Int), strV y.1.name, strV y.2.1, y.2.2]] w fun e w' => e = .returned (.tuple #[]) ∧ RefIs w' Ok r (d.did y.1) ∧ Ext (RdB r w) w w' := by
  have HH := Lib.hid h
  obtain ⟨⟨k, nm, tt, dt⟩, t9, dv⟩ := y
  obtain ⟨Ad, nd, cd, hdv, _⟩ := id hy.data
  have hdv : dv = .slice Ad nd cd := hdv
  subst hdv
  dsimp only
  have hnd : n = d.done.length := by rw [h.len, ← h.done, List.length_map]
  have hn : n < 67108864 := by omega
  clear hnd
  go_enter Tryd.func62, Tryd.ntmps62
  go_upto_region 1 with (first | go_skip | go_guarded)
  have hx1 : Ext Nothing w (w.alloc (.cells #[.int .i64 (k : Int), strV nm, strV t9, .slice Ad nd cd] 85)) := Ext.auto
  have hB1 : Blk (w.alloc (.cells #[.int .i64 (k : Int), strV nm, strV t9, .slice Ad nd cd] 85)) w.heap.size 85 #[.int .i64 (k : Int), strV nm, strV t9, .slice Ad nd cd] := Blk.new _ _ _
  obtain ⟨V, hV⟩ : ∃ z, z = w.heap.size := ⟨_, rfl⟩
  have HV := Lib.hid hV
  rw [← hV] at hB1 ⊢
  clear hV
  generalize hW1 : w.alloc (.cells #[.int .i64 (k : Int), strV nm, strV t9, .slice Ad nd cd] 85) = w1 at hx1 hB1 ⊢
  clear hW1
  have h1 := h.keep0 hx1
  have hy1 := hy.keep hx1 Off.none
  have k1 : w1.cell? ⟨r, 1, none⟩ = some (.slice A n c) := h1.blk.cell 1
  clear h hy
  have hd : Ext Nothing w1 w1.drew := (Ext.refl _ _).drew
  refine zS (S := fun W' => Ext (fun q => (Value.slice A n c).ownBlock = some q ∨ q = r) w1 W') (by kernel_rfl) ?_
  have hS : Ext (fun q => (Value.slice A n c).ownBlock = some q ∨ q = r) w1 w1.drew := hd.mono (fun _ _ e => e.elim)
  have hVr : V ≠ r := fun e => by have h1 := HH.out.blk.lt; have h2 := HV.out; omega
  generalize w1.drew = Wd at hd hS ⊢
  have hVo : ¬ ((Value.slice A n c).ownBlock = some V) := fun e => by have h1 := own_lt HH.out.own e; have h2 := HV.out; omega
  have hro : ¬ ((Value.slice A n c).ownBlock = some r) := own_ne h1.own h1.blk (by decide)
  refine zT 0 (.pointer (some ⟨r, 0, none⟩)) rfl (by kernel_rfl) (by rfl) hS (fun _ _ _ h => h) (fun W' hS' => by go_simp) ?_
  refine zT 1 (.pointer (some ⟨r, 0, none⟩)) rfl (by kernel_rfl) (by rfl) hS (fun _ _ _ h => h) (fun W' hS' => by go_simp) ?_
  refine zT 2 (.pointer (some ⟨r, 0, none⟩)) rfl (by kernel_rfl) (by rfl) hS (fun _ _ _ h => h) (fun W' hS' => by go_simp) ?_
  refine zT 3 (.pointer (some ⟨r, 1, none⟩)) rfl (by kernel_rfl) (by rfl) hS (fun _ _ _ h => h) (fun W' hS' => by go_simp) ?_
  refine zT 5 (.agg #[.int .i64 (k : Int), strV nm, strV t9, .slice Ad nd cd]) rfl (by kernel_rfl) (by rfl) hS (fun _ _ _ h => h) (fun W' hS' => by exact run_load_struct (sz := 4) (b := V) (off := 0) rfl STDid (by go_simp) (fun j u hu => hS'.cell (by have h9 := hB1.cell j; rw [Nat.zero_add, h9]; rw [Array.getElem?_toList] at hu; exact hu) (fun e => by rcases e with e | e; exact hVo e; exact hVr e)) rfl) ?_
  (try simp only [Act.put, zA, zB, zC, zD, zE, zF])
  refine wpAnyH_all (rs := [4, 6]) (by kernel_rfl) (by simp) (List.forall_mem_cons.2 ⟨?_, List.forall_mem_cons.2 ⟨?_, fun _ h => absurd h (by simp)⟩⟩)
  · refine wpOp_val (v := .slice A n c) rfl (by rfl) (by have q9 := hd.c0 k1; go_simp) ⟨hS, ?_⟩
    (try simp only [Act.put, zA, zB, zC, zD, zE, zF])
    refine zO 6 (by kernel_rfl) ?_
    refine wpOp_slice1 rfl (by rfl) 59 _ rfl SRDid #[.int .i64 (k : Int), strV nm, strV t9, .slice Ad nd cd] rfl rfl ⟨hS.alloc _, ?_⟩
    (try simp only [Act.put, zA, zB, zC, zD, zE, zF])
    refine zO 7 (by kernel_rfl) ?_
    have ha : Ext Nothing w1 (Wd.alloc (.cells #[.int .i64 (k : Int), strV nm, strV t9, .slice Ad nd cd] 85)) := hd.alloc _
    refine wpOp_app1 rfl (by rfl) _ _ 59 rfl r SRDid (.slice A n c) n _ rfl (own_ext h1.own ha (fun g hg e => e)) Wd.heap.size 1 #[.int .i64 (k : Int), strV nm, strV t9, .slice Ad nd cd] rfl (Blk.new _ _ _) rfl rfl hn (Nat.le_of_lt (h1.blk.e0 ha).lt) (fun A8 c8 w8 hown8 hgr8 => ⟨(hS.alloc _).grown hgr8 (fun g hg => .inr (.inl hg)), ?_⟩)
    (try simp only [Act.put, zA, zB, zC, zD, zE, zF])
    have hx8 : Ext (fun g => (Value.slice A n c).ownBlock = some g) w1 w8 := (ha.mono (fun _ _ e => e.elim) : Ext (fun g => (Value.slice A n c).ownBlock = some g) w1 _).grown hgr8 (fun g hg => .inr hg)
    have hB8 := h1.blk.ext hx8 (fun e => hro e)
    have hoff8 : Off w1 (fun g => (Value.slice A n c).ownBlock = some g) Ok := fun g cs e hb => absurd e (own_ne h1.own hb (by decide))
    have hfo8 : FOff w1 (fun g => (Value.slice A n c).ownBlock = some g) := fun g cs e hb => absurd e (own_ne h1.own hb (by decide))
    have hD8 := h1.dur.keep hx8 hoff8 hfo8
    have hZ8 : ∀ y ∈ zs, DidI w8 Ok y := fun y hy => (h1.dids y hy).keep hx8 hoff8
    have hy8 := hy1.keep hx8 hoff8
    have k8 : w8.cell? ⟨r, 1, none⟩ = some (.slice A n c) := hB8.cell 1
    have f8 : w8.frozen? ⟨r, 1, none⟩ = false := hB8.frozen 1
    have hS8 : Ext (fun q => (Value.slice A n c).ownBlock = some q ∨ q = r) w1 w8 := hx8.mono (fun _ _ e => .inl e)
    refine zO 8 (by kernel_rfl) ?_
    refine wpOp_val (v := .pointer (some ⟨r, 0, none⟩)) rfl (by rfl) (by go_simp) ⟨hS8, ?_⟩
    (try simp only [Act.put, zA, zB, zC, zD, zE, zF])
    refine zO 9 (by kernel_rfl) ?_
    refine wpOp_val (v := .pointer (some ⟨r, 1, none⟩)) rfl (by rfl) (by go_simp) ⟨hS8, ?_⟩
    (try simp only [Act.put, zA, zB, zC, zD, zE, zF])
    refine zO 10 (by kernel_rfl) ?_
    have hx9 : Ext (fun q => q = r) w8 (w8.setCell ⟨r, 1, none⟩ (.slice A8 (n + 1) c8)) := Ext.set1 _ _ _ _
    have hS9 : Ext (fun q => (Value.slice A n c).ownBlock = some q ∨ q = r) w1 (w8.setCell ⟨r, 1, none⟩ (.slice A8 (n + 1) c8)) := (hx8.mono (fun _ _ e => .inl e) : Ext (fun q => (Value.slice A n c).ownBlock = some q ∨ q = r) w1 w8).trans hx9 (fun q hq e => .inr e)
    refine wpOp_none (w' := w8.setCell ⟨r, 1, none⟩ (.slice A8 (n + 1) c8)) rfl (by rfl) (by go_simp) ⟨hS9, wpAnyH_done (by kernel_rfl) ?_ _⟩
    (try simp only [Act.put, zA, zB, zC, zD, zE, zF])
    have hA9 : RefAt (w8.setCell ⟨r, 1, none⟩ (.slice A8 (n + 1) c8)) Ok r fv A8 (n + 1) c8 (zs ++ [((⟨k, nm, tt, dt⟩ : Dk.DidD), (t9, Value.slice Ad nd cd))]) { d with done := d.done ++ [⟨k, nm, tt, dt⟩] } := RefAt.set hB8 hx9 (hB8.set_ 1 (.slice A8 (n + 1) c8)) hD8 (by rw [List.flatMap_append]; exact hown8) (by rw [List.length_append, ← HH.out.len]; rfl) (by rw [List.map_append, HH.out.done]; rfl) (fun y hy => by rcases List.mem_append.1 hy with hy | hy; exact hZ8 y hy; rw [List.mem_singleton.1 hy]; exact hy8) HH.out.lim
    have hK : Ext (RdB r w) w (w8.setCell ⟨r, 1, none⟩ (.slice A8 (n + 1) c8)) := (hx1.mono (fun _ _ e => e.elim) : Ext (RdB r w) w w1).trans hS9 (fun q hq e => by rcases e with e | e; exact ⟨(HH.out.own.lt q e).1, .inr (own_blk HH.out.own e)⟩; subst e; exact ⟨Nat.le_refl _, .inl ⟨_, HH.out.blk⟩⟩)
    clear hx9 hS8 hS9 hD8 hZ8 hy8 k8 f8 hB8 hown8 hgr8 hx8 hoff8 hfo8 h1 hy1 k1 hd hS ha hB1
    generalize w8.setCell ⟨r, 1, none⟩ (.slice A8 (n + 1) c8) = w9 at hA9 hK ⊢
    go_wp2_with (first | go_skip | go_guarded | (go_at_call 53; (with_reducible refine (rCounted w9 hA9).mono ?_); rintro e w10 ⟨rfl, hA10, hx10⟩))
    go_end0
    exact ⟨rfl, ⟨_, _, _, _, _, hA10⟩, RdB.trans hK (hA9.rdb hx10)⟩
  · refine wpOp_slice1 rfl (by rfl) 59 _ rfl SRDid #[.int .i64 (k : Int), strV nm, strV t9, .slice Ad nd cd] rfl rfl ⟨hS.alloc _, ?_⟩
    (try simp only [Act.put, zA, zB, zC, zD, zE, zF])
    refine zO 4 (by kernel_rfl) ?_
    refine wpOp_val (v := .slice A n c) (w' := Wd.alloc (.cells #[.int .i64 (k : Int), strV nm, strV t9, .slice Ad nd cd] 85)) rfl (by rfl) (by have q9 := (hd.alloc (.cells #[.int .i64 (k : Int), strV nm, strV t9, .slice Ad nd cd] 85)).c0 k1; go_simp) ⟨hS.alloc _, ?_⟩
    (try simp only [Act.put, zA, zB, zC, zD, zE, zF])
    refine zO 7 (by kernel_rfl) ?_
    have ha : Ext Nothing w1 (Wd.alloc (.cells #[.int .i64 (k : Int), strV nm, strV t9, .slice Ad nd cd] 85)) := hd.alloc _
    refine wpOp_app1 rfl (by rfl) _ _ 59 rfl r SRDid (.slice A n c) n _ rfl (own_ext h1.own ha (fun g hg e => e)) Wd.heap.size 1 #[.int .i64 (k : Int), strV nm, strV t9, .slice Ad nd cd] rfl (Blk.new _ _ _) rfl rfl hn (Nat.le_of_lt (h1.blk.e0 ha).lt) (fun A8 c8 w8 hown8 hgr8 => ⟨(hS.alloc _).grown hgr8 (fun g hg => .inr (.inl hg)), ?_⟩)
    (try simp only [Act.put, zA, zB, zC, zD, zE, zF])
    have hx8 : Ext (fun g => (Value.slice A n c).ownBlock = some g) w1 w8 := (ha.mono (fun _ _ e => e.elim) : Ext (fun g => (Value.slice A n c).ownBlock = some g) w1 _).grown hgr8 (fun g hg => .inr hg)
    have hB8 := h1.blk.ext hx8 (fun e => hro e)
    have hoff8 : Off w1 (fun g => (Value.slice A n c).ownBlock = some g) Ok := fun g cs e hb => absurd e (own_ne h1.own hb (by decide))
    have hfo8 : FOff w1 (fun g => (Value.slice A n c).ownBlock = some g) := fun g cs e hb => absurd e (own_ne h1.own hb (by decide))
    have hD8 := h1.dur.keep hx8 hoff8 hfo8
    have hZ8 : ∀ y ∈ zs, DidI w8 Ok y := fun y hy => (h1.dids y hy).keep hx8 hoff8
    have hy8 := hy1.keep hx8 hoff8
    have k8 : w8.cell? ⟨r, 1, none⟩ = some (.slice A n c) := hB8.cell 1
    have f8 : w8.frozen? ⟨r, 1, none⟩ = false := hB8.frozen 1
    have hS8 : Ext (fun q => (Value.slice A n c).ownBlock = some q ∨ q = r) w1 w8 := hx8.mono (fun _ _ e => .inl e)
    refine zO 8 (by kernel_rfl) ?_
    refine wpOp_val (v := .pointer (some ⟨r, 0, none⟩)) rfl (by rfl) (by go_simp) ⟨hS8, ?_⟩
    (try simp only [Act.put, zA, zB, zC, zD, zE, zF])
    refine zO 9 (by kernel_rfl) ?_
    refine wpOp_val (v := .pointer (some ⟨r, 1, none⟩)) rfl (by rfl) (by go_simp) ⟨hS8, ?_⟩
    (try simp only [Act.put, zA, zB, zC, zD, zE, zF])
    refine zO 10 (by kernel_rfl) ?_
    have hx9 : Ext (fun q => q = r) w8 (w8.setCell ⟨r, 1, none⟩ (.slice A8 (n + 1) c8)) := Ext.set1 _ _ _ _
    have hS9 : Ext (fun q => (Value.slice A n c).ownBlock = some q ∨ q = r) w1 (w8.setCell ⟨r, 1, none⟩ (.slice A8 (n + 1) c8)) := (hx8.mono (fun _ _ e => .inl e) : Ext (fun q => (Value.slice A n c).ownBlock = some q ∨ q = r) w1 w8).trans hx9 (fun q hq e => .inr e)
    refine wpOp_none (w' := w8.setCell ⟨r, 1, none⟩ (.slice A8 (n + 1) c8)) rfl (by rfl) (by go_simp) ⟨hS9, wpAnyH_done (by kernel_rfl) ?_ _⟩
    (try simp only [Act.put, zA, zB, zC, zD, zE, zF])
    have hA9 : RefAt (w8.setCell ⟨r, 1, none⟩ (.slice A8 (n + 1) c8)) Ok r fv A8 (n + 1) c8 (zs ++ [((⟨k, nm, tt, dt⟩ : Dk.DidD), (t9, Value.slice Ad nd cd))]) { d with done := d.done ++ [⟨k, nm, tt, dt⟩] } := RefAt.set hB8 hx9 (hB8.set_ 1 (.slice A8 (n + 1) c8)) hD8 (by rw [List.flatMap_append]; exact hown8) (by rw [List.length_append, ← HH.out.len]; rfl) (by rw [List.map_append, HH.out.done]; rfl) (fun y hy => by rcases List.mem_append.1 hy with hy | hy; exact hZ8 y hy; rw [List.mem_singleton.1 hy]; exact hy8) HH.out.lim
    have hK : Ext (RdB r w) w (w8.setCell ⟨r, 1, none⟩ (.slice A8 (n + 1) c8)) := (hx1.mono (fun _ _ e => e.elim) : Ext (RdB r w) w w1).trans hS9 (fun q hq e => by rcases e with e | e; exact ⟨(HH.out.own.lt q e).1, .inr (own_blk HH.out.own e)⟩; subst e; exact ⟨Nat.le_refl _, .inl ⟨_, HH.out.blk⟩⟩)
    clear hx9 hS8 hS9 hD8 hZ8 hy8 k8 f8 hB8 hown8 hgr8 hx8 hoff8 hfo8 h1 hy1 k1 hd hS ha hB1
    generalize w8.setCell ⟨r, 1, none⟩ (.slice A8 (n + 1) c8) = w9 at hA9 hK ⊢
    go_wp2_with (first | go_skip | go_guarded | (go_at_call 53; (with_reducible refine (rCounted w9 hA9).mono ?_); rintro e w10 ⟨rfl, hA10, hx10⟩))
    go_end0
    exact ⟨rfl, ⟨_, _, _, _, _, hA10⟩, RdB.trans hK (hA9.rdb hx10)⟩
end Go.Proofs.YtlfpfhdagkkliaaDoor
