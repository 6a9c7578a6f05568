/- The closure of the disk's Append. (printed by wip/gen/dkappend.py) -/
import Derived.Test.YtlfpfhdagkkliaaDoorDk6
namespace Go.Proofs.YtlfpfhdagkkliaaDoor
set_option linter.unusedVariables false
set_option linter.unusedSimpArgs false
open Go.RowKit
open Go.Maps Go.WideMaps

theorem Sl.take {w : World} {sz n m : Nat} {A : Option Addr} {xs : List (List Value)} (h : Sl w sz A n xs) (hm : m ≤ n) : Sl w sz A m (xs.take m) :=
  ⟨by rw [List.length_take, ← h.1]; omega, fun i cs hi => h.2 i cs (by rw [List.getElem?_take] at hi; split at hi; exact hi; cases hi)⟩
theorem take_min {α : Type} (l : List α) (p : Nat) {k : Nat} (hk : k = l.length) : l.take (min p k) = l.take p := by rw [hk, List.take_eq_take_min (i := p)]
set_option maxRecDepth 20000 in
set_option maxHeartbeats 8000000 in
theorem dkAppendC {Ok : Nat → Prop} {b q r : Nat} {A : Option Addr} {n c : Nat} {F : Dk.Files} {s : Dk.Str} {l : List UInt8} (p : Nat) (w : World) (h : FM w Ok b F) (hA : Dk.Asc F) (hs : s.length ≤ maxLen) (hq : Blk w q 9 #[strV s]) (hr : Blk w r 29 #[.slice A n c]) (hsl : Sl w 1 A n (l.map bCell)) (hnc : n ≤ c) (hn : n ≤ 1048576) (hp : p ≤ 1099511627776) (hf : ((Dk.find F s).getD []).length ≤ 1048576) :
    Calls Tryd.prog 40 #[.map (some b), .int .i64 (p : Int), .pointer (some ⟨q, 0, none⟩), .pointer (some ⟨r, 0, none⟩)] w fun e w' => e = .returned (.tuple #[]) ∧ FM w' (fun g => Ok g ∨ w.heap.size ≤ g) b (Dk.with_ F (s, (Dk.find F s).getD [] ++ l.take p)) ∧ Ext (fun g => g = b) w w' := by
  have q0 : w.cell? ⟨q, 0, none⟩ = some (strV s) := hq.cell 0
  have r0 : w.cell? ⟨r, 0, none⟩ = some (.slice A n c) := hr.cell 0
  have hqb : q ≠ b := fun e => h.ne hq e.symm
  have hrb : r ≠ b := fun e => h.ne hr e.symm
  obtain ⟨v, hv, hlk⟩ := fm_look h hA hs
  obtain ⟨A0, n0, c0, rfl, ⟨hs0, hc0⟩, hv0⟩ := hv
  have HN0 := Lib.hid hs0.len
  have HNL := Lib.hid hsl.len
  obtain ⟨m, hm⟩ : ∃ m, m = min p n := ⟨_, rfl⟩
  have hmc : ¬ c < m := by omega
  have hmi : min (p : Int) (n : Int) = (m : Int) := by omega
  have HM := Lib.hid hm
  clear hm
  go_enter Tryd.func40, Tryd.ntmps40
  refine zH (S := fun g => g = b) (by kernel_rfl) (fun Wd hS hd => ?_)
  refine zT 0 (.map (some b)) rfl (by kernel_rfl) (by rfl) hS (fun _ _ _ h => h) (fun W' hS' => by go_simp) ?_
  refine zT 1 (strV s) rfl (by kernel_rfl) (by rfl) hS (fun _ _ _ h => h) (fun W' hS' => by have q9 := hS'.cell q0 (fun e => hqb e); go_simp) ?_
  refine zT 2 (.map (some b)) rfl (by kernel_rfl) (by rfl) hS (fun _ _ _ h => h) (fun W' hS' => by go_simp) ?_
  refine zT 3 (strV s) rfl (by kernel_rfl) (by rfl) hS (fun _ _ _ h => h) (fun W' hS' => by have q9 := hS'.cell q0 (fun e => hqb e); go_simp) ?_
  refine zT 5 (.slice A n c) rfl (by kernel_rfl) (by rfl) hS (fun _ _ _ h => h) (fun W' hS' => by have q9 := hS'.cell r0 (fun e => hrb e); go_simp) ?_
  refine zT 6 (.int .i64 (p : Int)) rfl (by kernel_rfl) (by rfl) hS (fun _ _ _ h => h) (fun W' hS' => by go_simp) ?_
  refine zT 7 (.slice A n c) rfl (by kernel_rfl) (by rfl) hS (fun _ _ _ h => h) (fun W' hS' => by have q9 := hS'.cell r0 (fun e => hrb e); go_simp) ?_
  refine zT 8 (.int .i64 (n : Int)) rfl (by kernel_rfl) (by rfl) hS (fun _ _ _ h => h) (fun W' hS' => by go_simp) ?_
  refine zT 9 (.int .i64 (m : Int)) rfl (by kernel_rfl) (by rfl) hS (fun _ _ _ h => h) (fun W' hS' => by go_simp) ?_
  refine zT 10 (.slice A m c) rfl (by kernel_rfl) (by rfl) hS (fun _ _ _ h => h) (fun W' hS' => by go_simp) ?_
  (try simp only [Act.put, zA, zB, zC, zD, zE, zF])
  refine zO 4 (by kernel_rfl) ?_
  refine wpOp_val (v := .slice A0 n0 c0) (w' := Wd) rfl (by rfl) (by have q9 := hlk Wd hd false; rw [if_neg (by simp)] at q9; go_simp) ⟨hS, ?_⟩
  (try simp only [Act.put, zA, zB, zC, zD, zE, zF])
  refine zO 11 (by kernel_rfl) ?_
  refine wpOp_val (v := .slice (some ⟨Wd.heap.size, 0, none⟩) 2 2) (w' := (Wd.alloc (.cells #[.slice A0 n0 c0, .slice A m c] 29))) rfl (by rfl) (by go_simp) ⟨hS.alloc _, ?_⟩
  (try simp only [Act.put, zA, zB, zC, zD, zE, zF])
  have hxa : Ext Nothing Wd (Wd.alloc (.cells #[.slice A0 n0 c0, .slice A m c] 29)) := Ext.auto
  have hrow : Sl (Wd.alloc (.cells #[.slice A0 n0 c0, .slice A m c] 29)) 1 (some ⟨Wd.heap.size, 0, none⟩) 2 ((([⟨(Dk.find F s).getD [], A0, n0, c0⟩, ⟨l.take p, A, m, c⟩] : List SliceB)).map fun x => [x.v]) := Sl.of_blk (t := 29) (cs := #[.slice A0 n0 c0, .slice A m c]) _ (fun _ => rfl) (Blk.new _ _ _) rfl rfl
  have hxw : Ext Nothing w (Wd.alloc (.cells #[.slice A0 n0 c0, .slice A m c] 29)) := hd.tr hxa
  have hlt : (l.take p).length = m := by rw [List.length_take, ← HNL.out, HM.out]
  have htk : Sl w 1 A m ((l.take p).map bCell) := by have h9 := hsl.take (m := m) (by rw [HM.out]; omega); have e9 : (l.map bCell).take m = (l.take p).map bCell := (by rw [HM.out, List.map_take]; exact take_min _ _ (by rw [List.length_map]; exact HNL.out)); rw [e9] at h9; exact h9
  have hbs : ∀ x ∈ ([⟨(Dk.find F s).getD [], A0, n0, c0⟩, ⟨l.take p, A, m, c⟩] : List SliceB), Sl (Wd.alloc (.cells #[.slice A0 n0 c0, .slice A m c] 29)) 1 x.A x.n (x.l.map bCell) := fun x hx => by rcases List.mem_cons.1 hx with rfl | hx; (exact hs0.ext0 hxw); rw [List.mem_singleton.1 hx]; exact htk.ext0 hxw
  have hcat : cat ([⟨(Dk.find F s).getD [], A0, n0, c0⟩, ⟨l.take p, A, m, c⟩] : List SliceB) = (Dk.find F s).getD [] ++ l.take p := by simp [cat]
  have hS1 := hS.alloc (.cells #[.slice A0 n0 c0, .slice A m c] 29)
  have hz1 := hxw.size
  generalize (Wd.alloc (.cells #[.slice A0 n0 c0, .slice A m c] 29)) = W1 at hxw hrow hbs hS1 hz1 ⊢
  refine zO 12 (by kernel_rfl) ?_
  refine wpOp_call (f := 41) (args := #[.slice (some ⟨Wd.heap.size, 0, none⟩) 2 2]) rfl (by rfl) (by go_simp) ((slConcat _ 2 2 _ W1 hrow hbs (by omega) (by rw [hcat, List.length_append]; omega)).mono ?_)
  rintro e W2 ⟨v2, rfl, ho2, hx2⟩
  rw [hcat] at ho2
  generalize hk2 : ((Dk.find F s).getD [] ++ l.take p).length = k2 at ho2
  have HK2 := Lib.hid hk2
  clear hk2
  have hxw2 := hxw.tr hx2
  have hS2 := hS1.t0 hx2
  have hv2 : BytesV W2 (fun g => Ok g ∨ w.heap.size ≤ g) v2 ((Dk.find F s).getD [] ++ l.take p) := BytesV.own ho2 HK2.out.symm (fun g hg => .inr (by omega))
  have hF2 := (h.keep (S := Nothing) hxw2 (fun e => e) Off.none).mono (Ok' := fun g => Ok g ∨ w.heap.size ≤ g) (fun g _ hg => .inl hg)
  obtain ⟨W3, hrun, hF3, hx3⟩ := fm_put hF2 hA hs hv2
  obtain ⟨A2, c2, rfl⟩ := own_slice ho2
  refine ⟨_, rfl, hS2, ?_⟩
  (try simp only [Act.put, zA, zB, zC, zD, zE, zF])
  refine zO 13 (by kernel_rfl) ?_
  refine wpOp_none (w' := W3) rfl (by rfl) (by go_simp) ⟨hS2.trans hx3 (fun g _ e => e), wpAnyH_done (by kernel_rfl) ?_ _⟩
  (try simp only [Act.put, zA, zB, zC, zD, zE, zF])
  go_wp2
  go_end0
  exact ⟨rfl, hF3, (hxw2.mono (fun _ _ e => e.elim)).trans hx3 (fun g _ e => e)⟩
end Go.Proofs.YtlfpfhdagkkliaaDoor
