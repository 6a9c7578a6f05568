/- The closures of the disk's deeds. -/
import Derived.Test.YtockcifkphfnlaaGreatDoorAk2
namespace Go.Proofs.YtockcifkphfnlaaGreatDoor
set_option linter.unusedVariables false
set_option linter.unusedSimpArgs false
open Go.RowKit
open Go.Maps Go.WideMaps
variable {M : Nat → Prop}

section
variable {w : World} {Ok : Nat → Prop} {b : Nat} {F : Dk.Files}
theorem map_off (h : FM w Ok b F) : Off w (fun q => q = b) Ok := fun q cs e hb => by subst e; exact absurd rfl (h.ne hb)
theorem fm_put (h : FM w Ok b F) (hA : Dk.Asc F) {s : Dk.Str} (hs : s.length ≤ maxLen) {u : Value} {l : List UInt8} (hu : BytesV w Ok u l) :
    ∃ w', (Instr.mapUpdate 87 (.map (some b)) (strV s) u).run Tryz.prog w = .ok () w' ∧ FM w' Ok b (Dk.with_ F (s, l)) ∧ Ext (fun q => q = b) w w' := by
  have hoff := map_off h
  obtain ⟨L, h1, h2, h3⟩ := h.out
  obtain ⟨w', e1, e2, e3⟩ := h1.put str_keyed strV_inj filesT (str_key hs) (l, u)
  have hx : Ext (fun q => q = b) w w' := Ext.of_grown e3 (fun g hg => (Option.some.inj hg).symm)
  have hst : StB w' b := by
    obtain ⟨es, clock, s1, s2, s3⟩ := h.st
    obtain ⟨es', clock', t1, t2, t3, _⟩ := Go.MapKept.mapUpdate_keeps filesT Tryz.underlying9 s1 s2 s3 (by trivial) e1
    exact ⟨es', clock', t1, t2, t3⟩
  refine ⟨w', e1, ⟨⟨aput s (l, u) L, e2, fun p hp => ?_, ?_⟩, hst⟩, hx⟩
  · have : p = (s, (l, u)) ∨ p ∈ L := by
      clear e1 e2 h1 h2 h3
      induction L with
      | nil => exact .inl (by simpa [aput] using hp)
      | cons x r ih =>
        unfold aput at hp
        split at hp
        · rcases List.mem_cons.1 hp with hp | hp
          · exact .inl hp
          · exact .inr (List.mem_cons_of_mem _ hp)
        · rcases List.mem_cons.1 hp with hp | hp
          · exact .inr (by rw [hp]; exact List.mem_cons_self ..)
          · exact (ih hp).imp id (List.mem_cons_of_mem _)
    rcases this with rfl | hm
    · exact hu.keep hx hoff
    · exact (h2 p hm).keep hx hoff
  · rw [show (aput s (l, u) L).map (fun p => (p.1, p.2.1)) = aput s l (L.map fun p => (p.1, p.2.1)) from aput_map (·.1) s (l, u) L]
    exact Dk.perm_put h3 hA s l
theorem fm_del (h : FM w Ok b F) (hA : Dk.Asc F) {s : Dk.Str} (hs : s.length ≤ maxLen) (ty : TypeId) :
    ∃ w', (Builtin.delete_ #[87, 9] ty #[.map (some b), strV s]).run Tryz.prog w = .ok (.tuple #[]) w' ∧ FM w' Ok b (Dk.without F s) ∧ Ext (fun q => q = b) w w' := by
  have hoff := map_off h
  obtain ⟨L, h1, h2, h3⟩ := h.out
  obtain ⟨w', e1, e2, e3⟩ := h1.del str_keyed strV_inj filesT (str_key hs) ty
  have hx : Ext (fun q => q = b) w w' := Ext.of_grown e3 (fun g hg => (Option.some.inj hg).symm)
  have hst : StB w' b := by
    obtain ⟨es, clock, s1, s2, s3⟩ := h.st
    obtain ⟨es', clock', t1, t2, t3, _⟩ := Go.MapKept.delete_keeps filesT Tryz.underlying9 s1 s2 s3 (by trivial) e1
    exact ⟨es', clock', t1, t2, t3⟩
  refine ⟨w', e1, ⟨⟨adel s L, e2, fun p hp => (h2 p ((adel_sub s L).mem hp)).keep hx hoff, ?_⟩, hst⟩, hx⟩
  rw [show (adel s L).map (fun p => (p.1, p.2.1)) = adel s (L.map fun p => (p.1, p.2.1)) from adel_map (·.1) s L]
  exact Dk.perm_del h3 hA s
end
set_option maxRecDepth 20000 in
set_option maxHeartbeats 4000000 in
theorem dkPutC {Ok : Nat → Prop} {b q r : Nat} {c : Value} {F : Dk.Files} {s : Dk.Str} {l : List UInt8} (p : Int) (w : World) (h : FM w Ok b F) (hA : Dk.Asc F) (hs : s.length ≤ maxLen) (hq : Blk w q 9 #[strV s]) (hr : Blk w r 38 #[c]) (hc : BytesV w Ok c l) :
    Calls Tryz.prog 50 #[.map (some b), .int .i64 p, .pointer (some ⟨r, 0, none⟩), .pointer (some ⟨q, 0, none⟩)] w fun e w' => e = .returned (.tuple #[]) ∧ FM w' Ok b (Dk.with_ F (s, l)) ∧ Ext (fun g => g = b) w w' := by
  have q0 : w.cell? ⟨q, 0, none⟩ = some (strV s) := hq.cell 0
  have r0 : w.cell? ⟨r, 0, none⟩ = some c := hr.cell 0
  obtain ⟨w', hrun, hF, hx⟩ := fm_put h hA hs hc
  obtain ⟨A, n, cc, rfl, _⟩ := hc
  go_enter Tryz.func50, Tryz.ntmps50
  go_wp2
  go_end0
  exact ⟨rfl, hF, hx⟩
end Go.Proofs.YtockcifkphfnlaaGreatDoor
