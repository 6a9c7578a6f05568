/- The disk's did. -/
import Derived.Test.YtockcifkphfnlaaGreatDoorAk8
import Derived.Test.YtockcifkphfnlaaGreatDoorAk4
namespace Go.Proofs.YtockcifkphfnlaaGreatDoor
set_option linter.unusedVariables false
set_option linter.unusedSimpArgs false
open Go.RowKit
open Go.Maps Go.WideMaps
variable {M : Nat → Prop}

section
variable {P : Program} {ops : Array Oper} {rest : List Oper} {a : Act} {w : World} {Q : Exit → Act → World → Prop}
theorem dW {o : Oper} (h : wpList P ops Q (o :: rest) a w) : wpList P ops Q (o :: rest) a w := h
end
theorem map_box {w : World} {Ok : Nat → Prop} {b : Nat} {F : Dk.Files} (h : FM w Ok b F) : Box w (fun q => q = b) := fun q cs e => by
  subst e
  exact ⟨fun hb => absurd rfl (h.ne hb), fun hb => absurd rfl (h.ne hb)⟩
theorem own_fm {w : World} {Ok : Nat → Prop} {b : Nat} {F : Dk.Files} {base e sz n : Nat} {v : Value} {xs : List Value} (ho : w.ownsRow base e sz v n xs) (h : FM w Ok b F) : v.ownBlock ≠ some b := by
  obtain ⟨L, h1, _⟩ := h.out
  exact own_ne_map ho h1
theorem own_blk {w : World} {base e sz n g : Nat} {v : Value} {xs : List Value} (h : w.ownsRow base e sz v n xs) (hv : v.ownBlock = some g) : ∃ cs, Blk w g e cs := by
  rcases h.2 with ⟨rfl, _⟩ | ⟨g', cap, cur, rfl, _, hg, _⟩
  · simp [Value.ownBlock] at hv
  · simp [Value.ownBlock] at hv
    subst hv
    exact ⟨cur, hg⟩
theorem Ext.any' {S : Nat → Prop} {w w' w'' : World} (h : Ext Nothing w w') (k : Ext S w' w'') : Ext S w w'' := (h.mono (fun _ _ e => e.elim)).trans k (fun _ _ e => e)
abbrev OkN (w : World) (Ok : Nat → Prop) : Nat → Prop := fun g => Ok g ∨ w.heap.size ≤ g
set_option maxRecDepth 20000 in
set_option maxHeartbeats 8000000 in
theorem dkDid {Ok : Nat → Prop} {b bd bn n c : Nat} {A : Option Addr} {L : Int} {ys : List DeedC} {d : Dk.DiskD} {v : Value} {x : Dk.DidD} (w : World) (h : DiskAt M w Ok b bd bn A n c L ys d) (hg : Dk.Good d) (hv : DeedV w Ok v x) (hx : DeedOk x) (hn : n < 67108864) :
    Calls Tryz.prog 49 #[.pointer (some ⟨b, 0, none⟩), .int .i64 (Dk.units x : Int), v] w fun e w' => e = .returned (.int .i64 0) ∧ DiskIs M w' (OkN w Ok) b (d.did x) ∧ Ext (DkB M b w) w w' := by
  have k1 : w.cell? ⟨b, 1, none⟩ = some (.map (some bn)) := h.blk.cell 1
  obtain ⟨f, caps, rfl, hent, hfn⟩ := deed_fn hv hx
  have hfn := hfn bn d.files (Dk.units x) h.now hg.files.asc (by have h9 := hx.d; unfold Dk.units; split <;> omega) (Dk.find_len hg.files)
  rw [Dk.doesP_all] at hfn
  go_enter Tryz.func49, Tryz.ntmps49
  go_upto_region 2 with (first | go_skip | go_guarded)
  refine hfn.mono ?_
  rintro e w1 ⟨rfl, hF1, hx1⟩
  have hoff : Off w (fun g => g = bn) Ok := map_off h.now
  have hbox : Box w (fun g => g = bn) := map_box h.now
  have up : ∀ g, g < w1.heap.size → Ok g → OkN w Ok g := fun g _ hg => .inl hg
  have hB1 := h.blk.ext hx1 (fun e => h.now.ne h.blk e.symm)
  have hD1 := (h.dur.keep hx1 h.ne.1 hoff).mono up
  have hO1 := own_ext h.own hx1 (fun g hg e => own_fm h.own h.now (by rw [hg, show g = bn from e]))
  have hE1 : ∀ y ∈ ys, DeedV w1 (OkN w Ok) y.2 y.1 := fun y hy => ((h.deeds y hy).keep hx1 hoff hbox).mono up
  have hV1 := (hv.keep hx1 hoff hbox).mono up
  have hK1 : Ext (DkB M b w) w w1 := hx1.mono (fun g _ e => by
    have e : g = bn := e
    subst e
    obtain ⟨Ln, e2, _⟩ := h.now.out
    obtain ⟨es2, ck2, m2, _⟩ := e2
    exact ⟨h.ne.2.2.1, .inr (.inr ⟨⟨_, _, m2⟩, h.ne.2.2.2.2⟩)⟩)
  have j2 : w1.cell? ⟨b, 2, none⟩ = some (.slice A n c) := hB1.cell 2
  have HNE := Lib.hid h.ne
  have HL := Lib.hid (And.intro h.left (And.intro h.l0 h.l1))
  have HLN := Lib.hid h.len
  have HDT := Lib.hid h.data
  have hzz := hx1.size
  go_upto_region 2 with (first | go_skip | go_guarded)
  have ha : Ext Nothing w1 (w1.alloc (.cells #[.int .i64 (Dk.units x : Int), .func (.func f) #[] caps] 103)) := Ext.auto
  go_upto_region 3 with (first | go_skip | go_guarded | ((with_reducible refine dW ?_); refine wpList_slice1 rfl 88 _ rfl SRDeed #[.int .i64 (Dk.units x : Int), .func (.func f) #[] caps] rfl rfl ?_) | (at_builtin; refine wpList_app1 rfl _ _ 88 rfl b SRDeed (.slice A n c) n _ rfl (own_ext hO1 ha (fun g hg e => e)) w1.heap.size 1 #[.int .i64 (Dk.units x : Int), .func (.func f) #[] caps] rfl (Blk.new _ _ _) rfl rfl hn (Nat.le_trans (Nat.le_of_lt hB1.lt) (by simp)) ?_; intro A2 c2 w2 hown2 hgr2; have hx2 := Ext.of_grown (S := fun g => (Value.slice A n c).ownBlock = some g) hgr2 (fun g hg => hg); have hB2 := (hB1.e0 ha).ext hx2 (fun e => own_ne hO1 hB1 (by decide) e); have k2 : w2.cell? ⟨b, 2, none⟩ = some (.slice A n c) := hB2.cell 2; have f2 : w2.frozen? ⟨b, 2, none⟩ = false := hB2.frozen 2))
  have ho : ∀ {S' : Nat → Prop} {Ok' : Nat → Prop}, (∀ g, S' g → (Value.slice A n c).ownBlock = some g) → Off w1 S' Ok' := fun hS g cs e hb => absurd (hS g e) (own_ne hO1 hb (by decide))
  have hxa := ha.any' hx2
  have hoff2 : Off w1 (fun g => (Value.slice A n c).ownBlock = some g) (OkN w Ok) := ho (fun _ e => e)
  have hbox2 : Box w1 (fun g => (Value.slice A n c).ownBlock = some g) := fun g cs e => ⟨fun hb => own_ne hO1 hb (by decide) e, fun hb => own_ne hO1 hb (by decide) e⟩
  have hF2 := hF1.keep hxa (fun e => own_fm hO1 hF1 e) hoff2
  have hD2 := hD1.keep hxa (fun e => own_fm hO1 hD1 e) hoff2
  have hE2 : ∀ y ∈ ys, DeedV w2 (OkN w Ok) y.2 y.1 := fun y hy => (hE1 y hy).keep hxa hoff2 hbox2
  have hV2 := hV1.keep hxa hoff2 hbox2
  have hK2 : Ext (DkB M b w) w w2 := DkB.trans hK1 (hxa.mono (fun g _ e => ⟨by have := own_ge hO1 e; omega, .inr (.inl (own_blk hO1 e))⟩))
  have hB3 := hB2.set_ 2 (.slice A2 (n + 1) c2)
  have hx3 : Ext (fun g => g = b) w2 (w2.setCell ⟨b, 2, none⟩ (.slice A2 (n + 1) c2)) := Ext.set1 _ _ _ _
  have hO3 := own_ext hown2 hx3 (fun g hg e => by subst e; exact own_ne hown2 hB2 (by decide) hg)
  have hoff3 : Off w2 (fun g => g = b) (OkN w Ok) := fun q cs e hq => by subst e; exact absurd rfl (Blk.ne hB2 hq (by decide))
  have hbox3 : Box w2 (fun g => g = b) := fun q cs e => by subst e; exact ⟨fun hq => absurd rfl (Blk.ne hB2 hq (by decide)), fun hq => absurd rfl (Blk.ne hB2 hq (by decide))⟩
  have hF3 := hF2.keep hx3 (fun e => hF2.ne hB2 e) hoff3
  have hD3 := hD2.keep hx3 (fun e => hD2.ne hB2 e) hoff3
  have hE3 : ∀ y ∈ ys ++ [(x, .func (.func f) #[] caps)], DeedV (w2.setCell ⟨b, 2, none⟩ (.slice A2 (n + 1) c2)) (OkN w Ok) y.2 y.1 := fun y hy => by
    rcases List.mem_append.1 hy with hy | hy
    · exact (hE2 y hy).keep hx3 hoff3 hbox3
    · rw [List.mem_singleton.1 hy]; exact hV2.keep hx3 hoff3 hbox3
  have hK3 : Ext (DkB M b w) w (w2.setCell ⟨b, 2, none⟩ (.slice A2 (n + 1) c2)) := DkB.trans hK2 (hx3.mono (fun g _ e => by have e : g = b := e; subst e; exact ⟨by omega, .inl ⟨_, hB2⟩⟩))
  have hA3 : DiskAt M (w2.setCell ⟨b, 2, none⟩ (.slice A2 (n + 1) c2)) (OkN w Ok) b bd bn A2 (n + 1) c2 L (ys ++ [(x, .func (.func f) #[] caps)]) { d with done := d.done ++ [x] } :=
    ⟨hB3, HL.out.1, HL.out.2.1, HL.out.2.2, hD3, by show FM _ _ _ (List.foldl Dk.does d.dur (d.done ++ [x])); rw [List.foldl_append]; exact hF3, HNE.out, by rw [List.flatMap_append]; exact hO3, by rw [List.length_append, HLN.out]; rfl, by rw [List.map_append, HDT.out]; rfl, hE3⟩
  clear hF3 hD3 hE3 hE2 hF2 hD2 hB3 hO3 hx3 hoff3 hbox3 hV2 hK2 hxa hoff2 hbox2 ho hE1 hV1 hK1 hoff hbox hD1 hF1 hO1 j2 k2 f2
  go_upto_region 4 with (first | go_skip | go_guarded | (go_at_call 52; (with_reducible refine (dkCounted _ hA3).mono ?_); rintro e w4 ⟨rfl, ⟨L4, hA4⟩, hx4⟩))
  go_wp2
  go_ret
  exact ⟨rfl, ⟨bd, bn, A2, n + 1, c2, L4, _, hA4⟩, DkB.trans hK3 (hA3.dkb hx4)⟩
end Go.Proofs.YtockcifkphfnlaaGreatDoor
