/- A writer writes commands; PutCmd of any command that lies in memory: an error or none, and nothing else has changed. (printed by wip/gen/cf.py) -/
import Derived.Test.YtjcjiokneibfdaaGreatDoorCf5
namespace Go.Proofs.YtjcjiokneibfdaaGreatDoor
set_option linter.unusedVariables false
set_option linter.unusedSimpArgs false
open Go.RowKit
/-- a list that lies in memory, below B -/
def LsG (sz : Nat) (P : List Value → Prop) (B : Nat) (w : World) (v : Option Value) : Prop :=
  ∃ A n c xs, v = some (.slice A n c) ∧ Sl w sz A n xs ∧ (∀ g, A.map (·.block) = some g → xs ≠ [] → g < B) ∧ (∀ x ∈ xs, P x) ∧ n ≤ 1048576
theorem LsG.keep {sz B : Nat} {P : List Value → Prop} {w w' : World} {v : Option Value} (h : LsG sz P B w v) (hx : Ext (FX B w) w w') : LsG sz P B w' v := by
  obtain ⟨A, n, c, xs, h1, h2, h3, h4⟩ := h
  exact ⟨A, n, c, xs, h1, h2.ext hx (fun g e ne hf => by have := hf.1; have := h3 g e ne; omega), h3, h4⟩
theorem LsG.e0 {sz B : Nat} {P : List Value → Prop} {w w' : World} {v : Option Value} (h : LsG sz P B w v) (hx : Ext Nothing w w') : LsG sz P B w' v := by
  obtain ⟨A, n, c, xs, h1, h2, h3, h4⟩ := h
  exact ⟨A, n, c, xs, h1, h2.ext0 hx, h3, h4⟩
theorem LsG.mono {sz B B' : Nat} {P : List Value → Prop} {w : World} {v : Option Value} (h : LsG sz P B w v) (hB : B ≤ B') : LsG sz P B' w v := by
  obtain ⟨A, n, c, xs, h1, h2, h3, h4⟩ := h
  exact ⟨A, n, c, xs, h1, h2, fun g e ne => by have := h3 g e ne; omega, h4⟩
theorem cfListGroup' {fb N b o : Nat} {bad : Bool} {cs : Array Value} (w : World) (h : Form w fb N bad) (hr : CRec w b cs) (hl : LsG 3 IsGroup fb w cs[o]?) (hN : N + 1930 ≤ 60000000) :
    Calls Tryz.prog 178 #[.pointer (some ⟨fb, 0, none⟩), .pointer (some ⟨b, o, none⟩), .func (.func 179) #[.pointer (some ⟨fb, 0, none⟩)] #[]] w (Wrote fb (N + 1930) bad w) := by
  obtain ⟨A, n, c, xs, h1, h2, h3, h4, h5⟩ := hl
  exact cfListGroup w h hr h1 h2 h3 h4 h5 hN
theorem cfListReport' {fb N b o : Nat} {bad : Bool} {cs : Array Value} (w : World) (h : Form w fb N bad) (hr : CRec w b cs) (hl : LsG 2 IsReport fb w cs[o]?) (hN : N + 1290 ≤ 60000000) :
    Calls Tryz.prog 110 #[.pointer (some ⟨fb, 0, none⟩), .pointer (some ⟨b, o, none⟩), .func (.func 111) #[.pointer (some ⟨fb, 0, none⟩)] #[]] w (Wrote fb (N + 1290) bad w) := by
  obtain ⟨A, n, c, xs, h1, h2, h3, h4, h5⟩ := hl
  exact cfListReport w h hr h1 h2 h3 h4 h5 hN
theorem cfListInt' {fb N b o : Nat} {bad : Bool} {cs : Array Value} (w : World) (h : Form w fb N bad) (hr : CRec w b cs) (hl : LsG 1 IsInt fb w cs[o]?) (hN : N + 650 ≤ 60000000) :
    Calls Tryz.prog 183 #[.pointer (some ⟨fb, 0, none⟩), .pointer (some ⟨b, o, none⟩), .func (.func 177) #[.pointer (some ⟨fb, 0, none⟩)] #[]] w (Wrote fb (N + 650) bad w) := by
  obtain ⟨A, n, c, xs, h1, h2, h3, h4, h5⟩ := hl
  exact cfListInt w h hr h1 h2 h3 h4 h5 hN
theorem cfListAlloc' {fb N b o : Nat} {bad : Bool} {cs : Array Value} (w : World) (h : Form w fb N bad) (hr : CRec w b cs) (hl : LsG 11 IsAlloc fb w cs[o]?) (hN : N + 7050 ≤ 60000000) :
    Calls Tryz.prog 169 #[.pointer (some ⟨fb, 0, none⟩), .pointer (some ⟨b, o, none⟩), .func (.func 170) #[.pointer (some ⟨fb, 0, none⟩)] #[]] w (Wrote fb (N + 7050) bad w) := by
  obtain ⟨A, n, c, xs, h1, h2, h3, h4, h5⟩ := hl
  exact cfListAlloc w h hr h1 h2 h3 h4 h5 hN
set_option maxRecDepth 20000 in
set_option maxHeartbeats 8000000 in
theorem cfJob {fb N b o : Nat} {bad : Bool} {cs : Array Value} (w : World) (h : Form w fb N bad) (hr0 : CRec w b cs) (h0 : ∃ i, cs[o]? = some (.int .i64 i)) (h1 : ∃ i, cs[o + 1]? = some (.int .i64 i)) (h2 : ∃ i, cs[o + 2]? = some (.int .i64 i)) (h3 : ∃ i, cs[o + 3]? = some (.int .i64 i)) (h5 : ∃ i, cs[o + 5]? = some (.int .i64 i)) (h6 : ∃ q, cs[o + 6]? = some (.bool q)) (l4 : LsG 3 IsGroup fb w cs[o + 4]?) (hN : N + 1990 ≤ 60000000) :
    Calls Tryz.prog 108 #[.pointer (some ⟨fb, 0, none⟩), .pointer (some ⟨b, o, none⟩)] w (Wrote fb (N + 1990) bad w) := by
  go_enter Tryz.func108, Tryz.ntmps108
  have hx : Ext (FX fb w) w w := Ext.refl _ _
  have hb : bad = true → bad = true := fun e => e
  have hf := h
  have hr := hr0
  clear h hr0
  go_upto_region 0 with (first | go_skip | go_guarded)
  refine zS (S := fun _ => True) (by kernel_rfl) ?_
  have hdr : Ext Nothing w w.drew := (Ext.refl _ _).drew
  generalize w.drew = Wd at hdr ⊢
  refine zT 0 (.pointer (some ⟨fb, 0, none⟩)) rfl (by kernel_rfl) (by rfl) trivial (fun _ _ _ h => h) (fun W' _ => by go_simp) ?_
  (try simp only [Act.put, zA, zB, zC, zD, zE, zF])
  refine zT 1 (.pointer (some ⟨b, o, none⟩)) rfl (by kernel_rfl) (by rfl) trivial (fun _ _ _ h => h) (fun W' _ => by go_simp) ?_
  (try simp only [Act.put, zA, zB, zC, zD, zE, zF])
  refine zT 2 (.pointer (some ⟨b, o, none⟩)) rfl (by kernel_rfl) (by rfl) trivial (fun _ _ _ h => h) (fun W' _ => by go_simp) ?_
  (try simp only [Act.put, zA, zB, zC, zD, zE, zF])
  refine zT 3 (.pointer (some ⟨b, o, none⟩)) rfl (by kernel_rfl) (by rfl) trivial (fun _ _ _ h => h) (fun W' _ => by go_simp) ?_
  (try simp only [Act.put, zA, zB, zC, zD, zE, zF])
  refine zT 4 (.pointer (some ⟨b, o, none⟩)) rfl (by kernel_rfl) (by rfl) trivial (fun _ _ _ h => h) (fun W' _ => by go_simp) ?_
  (try simp only [Act.put, zA, zB, zC, zD, zE, zF])
  refine zT 5 (.pointer (some ⟨b, o, none⟩)) rfl (by kernel_rfl) (by rfl) trivial (fun _ _ _ h => h) (fun W' _ => by go_simp) ?_
  (try simp only [Act.put, zA, zB, zC, zD, zE, zF])
  refine zT 6 (.pointer (some ⟨b, o + 1, none⟩)) rfl (by kernel_rfl) (by rfl) trivial (fun _ _ _ h => h) (fun W' _ => by go_simp) ?_
  (try simp only [Act.put, zA, zB, zC, zD, zE, zF])
  refine zT 7 (.pointer (some ⟨b, o, none⟩)) rfl (by kernel_rfl) (by rfl) trivial (fun _ _ _ h => h) (fun W' _ => by go_simp) ?_
  (try simp only [Act.put, zA, zB, zC, zD, zE, zF])
  refine zT 8 (.pointer (some ⟨b, o, none⟩)) rfl (by kernel_rfl) (by rfl) trivial (fun _ _ _ h => h) (fun W' _ => by go_simp) ?_
  (try simp only [Act.put, zA, zB, zC, zD, zE, zF])
  refine zT 9 (.pointer (some ⟨b, o + 2, none⟩)) rfl (by kernel_rfl) (by rfl) trivial (fun _ _ _ h => h) (fun W' _ => by go_simp) ?_
  (try simp only [Act.put, zA, zB, zC, zD, zE, zF])
  refine zT 10 (.pointer (some ⟨b, o, none⟩)) rfl (by kernel_rfl) (by rfl) trivial (fun _ _ _ h => h) (fun W' _ => by go_simp) ?_
  (try simp only [Act.put, zA, zB, zC, zD, zE, zF])
  refine zT 11 (.pointer (some ⟨b, o, none⟩)) rfl (by kernel_rfl) (by rfl) trivial (fun _ _ _ h => h) (fun W' _ => by go_simp) ?_
  (try simp only [Act.put, zA, zB, zC, zD, zE, zF])
  refine zT 12 (.pointer (some ⟨b, o + 3, none⟩)) rfl (by kernel_rfl) (by rfl) trivial (fun _ _ _ h => h) (fun W' _ => by go_simp) ?_
  (try simp only [Act.put, zA, zB, zC, zD, zE, zF])
  refine zO 13 (by kernel_rfl) ?_
  refine wpOp_val (v := .slice (some ⟨Wd.heap.size, 0, none⟩) 4 4) (w' := Wd.alloc (.cells #[.pointer (some ⟨b, o, none⟩), .pointer (some ⟨b, o + 1, none⟩), .pointer (some ⟨b, o + 2, none⟩), .pointer (some ⟨b, o + 3, none⟩)] 253)) rfl (by rfl) (by go_simp) ⟨trivial, ?_⟩
  (try simp only [Act.put, zA, zB, zC, zD, zE, zF])
  have hal : Ext Nothing Wd (Wd.alloc (.cells #[.pointer (some ⟨b, o, none⟩), .pointer (some ⟨b, o + 1, none⟩), .pointer (some ⟨b, o + 2, none⟩), .pointer (some ⟨b, o + 3, none⟩)] 253)) := Ext.auto
  have hrow := CRec.new Wd 253 (#[.pointer (some ⟨b, o, none⟩), .pointer (some ⟨b, o + 1, none⟩), .pointer (some ⟨b, o + 2, none⟩), .pointer (some ⟨b, o + 3, none⟩)]) (by decide) (by decide)
  have hxz := hdr.tr hal
  refine zO 14 (by kernel_rfl) ?_
  refine wpOp_call (f := 107) (args := #[.pointer (some ⟨fb, 0, none⟩), .slice (some ⟨Wd.heap.size, 0, none⟩) 4 4]) rfl (by rfl) ?_ ((cfNums (k := 4) (os := [o, o + 1, o + 2, o + 3]) _ (hf.e0 hxz) (hr.e0 hxz) (by intro q hq; simp only [List.mem_cons, List.not_mem_nil, or_false] at hq; rcases hq with rfl | rfl | rfl | rfl;    all_goals assumption) hrow rfl (by omega)).mono ?_)
  · go_simp
  rintro e w2 ⟨rfl, hx2, bad2, hf2, hb2⟩
  refine ⟨_, rfl, trivial, wpAnyH_done (by kernel_rfl) ?_ _⟩
  (try simp only [Act.put, zA, zB, zC, zD, zE, zF])
  replace hx := hx.t0 hxz
  replace hx := hx.fx hx2 (fun b e => e)
  replace hr := (hr.e0 hxz).keep hx2
  replace hb := fun e => hb2 (hb e)
  clear hb2
  replace hf := hf2
  clear hf2 hx2
  have hcall := cfListGroup' (o := o + 4) w2 hf hr (l4.keep hx) (by omega)
  go_upto_region 2 with (first | go_skip | go_guarded | (go_at_call 178; (with_reducible refine hcall.mono ?_); rintro e w3 ⟨rfl, hx2, bad2, hf2, hb2⟩))
  clear hcall
  replace hx := hx.fx hx2 (fun b e => e)
  replace hr := hr.keep hx2
  replace hb := fun e => hb2 (hb e)
  clear hb2
  replace hf := hf2
  clear hf2 hx2
  have hcall := cfNum' (o := o + 5) w3 hf hr h5 (by omega)
  go_upto_region 3 with (first | go_skip | go_guarded | (go_at_call 177; (with_reducible refine hcall.mono ?_); rintro e w4 ⟨rfl, hx2, bad2, hf2, hb2⟩))
  clear hcall
  replace hx := hx.fx hx2 (fun b e => e)
  replace hr := hr.keep hx2
  replace hb := fun e => hb2 (hb e)
  clear hb2
  replace hf := hf2
  clear hf2 hx2
  have hcall := cfFlag' (o := o + 6) w4 hf hr h6 (by omega)
  go_wp2_with (first | go_skip | go_guarded | (go_at_call 180; (with_reducible refine hcall.mono ?_); rintro e w5 ⟨rfl, hx2, bad2, hf2, hb2⟩))
  clear hcall
  replace hx := hx.fx hx2 (fun b e => e)
  replace hr := hr.keep hx2
  replace hb := fun e => hb2 (hb e)
  clear hb2
  replace hf := hf2
  clear hf2 hx2
  exact bodyPost_ret (results_none rfl _ _ _) rfl ⟨rfl, hx, _, hf, hb⟩
set_option maxRecDepth 20000 in
set_option maxHeartbeats 8000000 in
theorem cfPlan {fb N b o : Nat} {bad : Bool} {cs : Array Value} (w : World) (h : Form w fb N bad) (hr0 : CRec w b cs) (h0 : ∃ i, cs[o]? = some (.int .i64 i)) (h1 : ∃ i, cs[o + 1]? = some (.int .i64 i)) (h2 : ∃ i, cs[o + 2]? = some (.int .i64 i)) (h5 : ∃ q, cs[o + 5]? = some (.bool q)) (l3 : LsG 1 IsInt fb w cs[o + 3]?) (l4 : LsG 11 IsAlloc fb w cs[o + 4]?) (hN : N + 7740 ≤ 60000000) :
    Calls Tryz.prog 112 #[.pointer (some ⟨fb, 0, none⟩), .pointer (some ⟨b, o, none⟩)] w (Wrote fb (N + 7740) bad w) := by
  go_enter Tryz.func112, Tryz.ntmps112
  have hx : Ext (FX fb w) w w := Ext.refl _ _
  have hb : bad = true → bad = true := fun e => e
  have hf := h
  have hr := hr0
  clear h hr0
  go_upto_region 0 with (first | go_skip | go_guarded)
  refine zS (S := fun _ => True) (by kernel_rfl) ?_
  have hdr : Ext Nothing w w.drew := (Ext.refl _ _).drew
  generalize w.drew = Wd at hdr ⊢
  refine zT 0 (.pointer (some ⟨fb, 0, none⟩)) rfl (by kernel_rfl) (by rfl) trivial (fun _ _ _ h => h) (fun W' _ => by go_simp) ?_
  (try simp only [Act.put, zA, zB, zC, zD, zE, zF])
  refine zT 1 (.pointer (some ⟨b, o, none⟩)) rfl (by kernel_rfl) (by rfl) trivial (fun _ _ _ h => h) (fun W' _ => by go_simp) ?_
  (try simp only [Act.put, zA, zB, zC, zD, zE, zF])
  refine zT 2 (.pointer (some ⟨b, o, none⟩)) rfl (by kernel_rfl) (by rfl) trivial (fun _ _ _ h => h) (fun W' _ => by go_simp) ?_
  (try simp only [Act.put, zA, zB, zC, zD, zE, zF])
  refine zT 3 (.pointer (some ⟨b, o, none⟩)) rfl (by kernel_rfl) (by rfl) trivial (fun _ _ _ h => h) (fun W' _ => by go_simp) ?_
  (try simp only [Act.put, zA, zB, zC, zD, zE, zF])
  refine zT 4 (.pointer (some ⟨b, o, none⟩)) rfl (by kernel_rfl) (by rfl) trivial (fun _ _ _ h => h) (fun W' _ => by go_simp) ?_
  (try simp only [Act.put, zA, zB, zC, zD, zE, zF])
  refine zT 5 (.pointer (some ⟨b, o, none⟩)) rfl (by kernel_rfl) (by rfl) trivial (fun _ _ _ h => h) (fun W' _ => by go_simp) ?_
  (try simp only [Act.put, zA, zB, zC, zD, zE, zF])
  refine zT 6 (.pointer (some ⟨b, o + 1, none⟩)) rfl (by kernel_rfl) (by rfl) trivial (fun _ _ _ h => h) (fun W' _ => by go_simp) ?_
  (try simp only [Act.put, zA, zB, zC, zD, zE, zF])
  refine zT 7 (.pointer (some ⟨b, o, none⟩)) rfl (by kernel_rfl) (by rfl) trivial (fun _ _ _ h => h) (fun W' _ => by go_simp) ?_
  (try simp only [Act.put, zA, zB, zC, zD, zE, zF])
  refine zT 8 (.pointer (some ⟨b, o, none⟩)) rfl (by kernel_rfl) (by rfl) trivial (fun _ _ _ h => h) (fun W' _ => by go_simp) ?_
  (try simp only [Act.put, zA, zB, zC, zD, zE, zF])
  refine zT 9 (.pointer (some ⟨b, o + 2, none⟩)) rfl (by kernel_rfl) (by rfl) trivial (fun _ _ _ h => h) (fun W' _ => by go_simp) ?_
  (try simp only [Act.put, zA, zB, zC, zD, zE, zF])
  refine zO 10 (by kernel_rfl) ?_
  refine wpOp_val (v := .slice (some ⟨Wd.heap.size, 0, none⟩) 3 3) (w' := Wd.alloc (.cells #[.pointer (some ⟨b, o, none⟩), .pointer (some ⟨b, o + 1, none⟩), .pointer (some ⟨b, o + 2, none⟩)] 253)) rfl (by rfl) (by go_simp) ⟨trivial, ?_⟩
  (try simp only [Act.put, zA, zB, zC, zD, zE, zF])
  have hal : Ext Nothing Wd (Wd.alloc (.cells #[.pointer (some ⟨b, o, none⟩), .pointer (some ⟨b, o + 1, none⟩), .pointer (some ⟨b, o + 2, none⟩)] 253)) := Ext.auto
  have hrow := CRec.new Wd 253 (#[.pointer (some ⟨b, o, none⟩), .pointer (some ⟨b, o + 1, none⟩), .pointer (some ⟨b, o + 2, none⟩)]) (by decide) (by decide)
  have hxz := hdr.tr hal
  refine zO 11 (by kernel_rfl) ?_
  refine wpOp_call (f := 107) (args := #[.pointer (some ⟨fb, 0, none⟩), .slice (some ⟨Wd.heap.size, 0, none⟩) 3 3]) rfl (by rfl) ?_ ((cfNums (k := 3) (os := [o, o + 1, o + 2]) _ (hf.e0 hxz) (hr.e0 hxz) (by intro q hq; simp only [List.mem_cons, List.not_mem_nil, or_false] at hq; rcases hq with rfl | rfl | rfl;   all_goals assumption) hrow rfl (by omega)).mono ?_)
  · go_simp
  rintro e w2 ⟨rfl, hx2, bad2, hf2, hb2⟩
  refine ⟨_, rfl, trivial, wpAnyH_done (by kernel_rfl) ?_ _⟩
  (try simp only [Act.put, zA, zB, zC, zD, zE, zF])
  replace hx := hx.t0 hxz
  replace hx := hx.fx hx2 (fun b e => e)
  replace hr := (hr.e0 hxz).keep hx2
  replace hb := fun e => hb2 (hb e)
  clear hb2
  replace hf := hf2
  clear hf2 hx2
  have hcall := cfListInt' (o := o + 3) w2 hf hr (l3.keep hx) (by omega)
  go_upto_region 2 with (first | go_skip | go_guarded | (go_at_call 183; (with_reducible refine hcall.mono ?_); rintro e w3 ⟨rfl, hx2, bad2, hf2, hb2⟩))
  clear hcall
  replace hx := hx.fx hx2 (fun b e => e)
  replace hr := hr.keep hx2
  replace hb := fun e => hb2 (hb e)
  clear hb2
  replace hf := hf2
  clear hf2 hx2
  have hcall := cfListAlloc' (o := o + 4) w3 hf hr (l4.keep hx) (by omega)
  go_upto_region 3 with (first | go_skip | go_guarded | (go_at_call 169; (with_reducible refine hcall.mono ?_); rintro e w4 ⟨rfl, hx2, bad2, hf2, hb2⟩))
  clear hcall
  replace hx := hx.fx hx2 (fun b e => e)
  replace hr := hr.keep hx2
  replace hb := fun e => hb2 (hb e)
  clear hb2
  replace hf := hf2
  clear hf2 hx2
  have hcall := cfFlag' (o := o + 5) w4 hf hr h5 (by omega)
  go_wp2_with (first | go_skip | go_guarded | (go_at_call 180; (with_reducible refine hcall.mono ?_); rintro e w5 ⟨rfl, hx2, bad2, hf2, hb2⟩))
  clear hcall
  replace hx := hx.fx hx2 (fun b e => e)
  replace hr := hr.keep hx2
  replace hb := fun e => hb2 (hb e)
  clear hb2
  replace hf := hf2
  clear hf2 hx2
  exact bodyPost_ret (results_none rfl _ _ _) rfl ⟨rfl, hx, _, hf, hb⟩
set_option maxRecDepth 20000 in
set_option maxHeartbeats 8000000 in
theorem cfConf {fb N b o : Nat} {bad : Bool} {cs : Array Value} (w : World) (h : Form w fb N bad) (hr0 : CRec w b cs)   (l0 : LsG 1 IsInt fb w cs[o]?) (l1 : LsG 1 IsInt fb w cs[o + 1]?) (hN : N + 1300 ≤ 60000000) :
    Calls Tryz.prog 113 #[.pointer (some ⟨fb, 0, none⟩), .pointer (some ⟨b, o, none⟩)] w (Wrote fb (N + 1300) bad w) := by
  go_enter Tryz.func113, Tryz.ntmps113
  have hx : Ext (FX fb w) w w := Ext.refl _ _
  have hb : bad = true → bad = true := fun e => e
  have hf := h
  have hr := hr0
  clear h hr0
  have hcall := cfListInt' (o := o) w hf hr (l0.keep hx) (by omega)
  go_upto_region 1 with (first | go_skip | go_guarded | (go_at_call 183; (with_reducible refine hcall.mono ?_); rintro e w2 ⟨rfl, hx2, bad2, hf2, hb2⟩))
  clear hcall
  replace hx := hx.fx hx2 (fun b e => e)
  replace hr := hr.keep hx2
  replace hb := fun e => hb2 (hb e)
  clear hb2
  replace hf := hf2
  clear hf2 hx2
  have hcall := cfListInt' (o := o + 1) w2 hf hr (l1.keep hx) (by omega)
  go_wp2_with (first | go_skip | go_guarded | (go_at_call 183; (with_reducible refine hcall.mono ?_); rintro e w3 ⟨rfl, hx2, bad2, hf2, hb2⟩))
  clear hcall
  replace hx := hx.fx hx2 (fun b e => e)
  replace hr := hr.keep hx2
  replace hb := fun e => hb2 (hb e)
  clear hb2
  replace hf := hf2
  clear hf2 hx2
  exact bodyPost_ret (results_none rfl _ _ _) rfl ⟨rfl, hx, _, hf, hb⟩
set_option maxRecDepth 20000 in
set_option maxHeartbeats 8000000 in
theorem cfCmd {fb N b o : Nat} {bad : Bool} {cs : Array Value} (w : World) (h : Form w fb N bad) (hr0 : CRec w b cs) (h0 : ∃ i, cs[o]? = some (.int .i64 i)) (h1 : ∃ i, cs[o + 1]? = some (.int .i64 i)) (h2 : ∃ i, cs[o + 2]? = some (.int .i64 i)) (h3 : ∃ i, cs[o + 3]? = some (.int .i64 i)) (h4 : ∃ i, cs[o + 4]? = some (.int .i64 i)) (h5 : ∃ i, cs[o + 5]? = some (.int .i64 i)) (h6 : ∃ i, cs[o + 6]? = some (.int .i64 i)) (h8 : ∃ i, cs[o + 8]? = some (.int .i64 i)) (h10 : ∃ i, cs[o + 10]? = some (.int .i64 i)) (h11 : ∃ i, cs[o + 11]? = some (.int .i64 i)) (h12 : ∃ i, cs[o + 12]? = some (.int .i64 i)) (h15 : ∃ i, cs[o + 15]? = some (.int .i64 i)) (h16 : ∃ i, cs[o + 16]? = some (.int .i64 i)) (h17 : ∃ i, cs[o + 17]? = some (.int .i64 i)) (h19 : ∃ i, cs[o + 19]? = some (.int .i64 i)) (h20 : ∃ i, cs[o + 20]? = some (.int .i64 i)) (h21 : ∃ i, cs[o + 21]? = some (.int .i64 i)) (h9 : ∃ q, cs[o + 9]? = some (.bool q)) (h13 : ∃ q, cs[o + 13]? = some (.bool q)) (h14 : ∃ q, cs[o + 14]? = some (.bool q)) (h24 : ∃ q, cs[o + 24]? = some (.bool q)) (l7 : LsG 3 IsGroup fb w cs[o + 7]?) (l18 : LsG 2 IsReport fb w cs[o + 18]?) (l22 : LsG 1 IsInt fb w cs[o + 22]?) (l23 : LsG 11 IsAlloc fb w cs[o + 23]?) (l25 : LsG 1 IsInt fb w cs[o + 25]?) (l26 : LsG 1 IsInt fb w cs[o + 26]?) (hN : N + 12430 ≤ 60000000) :
    Calls Tryz.prog 49 #[.pointer (some ⟨fb, 0, none⟩), .pointer (some ⟨b, o, none⟩)] w (Wrote fb (N + 12430) bad w) := by
  go_enter Tryz.func49, Tryz.ntmps49
  have hx : Ext (FX fb w) w w := Ext.refl _ _
  have hb : bad = true → bad = true := fun e => e
  have hf := h
  have hr := hr0
  clear h hr0
  go_upto_region 0 with (first | go_skip | go_guarded)
  refine zS (S := fun _ => True) (by kernel_rfl) ?_
  have hdr : Ext Nothing w w.drew := (Ext.refl _ _).drew
  generalize w.drew = Wd at hdr ⊢
  refine zT 0 (.pointer (some ⟨fb, 0, none⟩)) rfl (by kernel_rfl) (by rfl) trivial (fun _ _ _ h => h) (fun W' _ => by go_simp) ?_
  (try simp only [Act.put, zA, zB, zC, zD, zE, zF])
  refine zT 1 (.pointer (some ⟨b, o, none⟩)) rfl (by kernel_rfl) (by rfl) trivial (fun _ _ _ h => h) (fun W' _ => by go_simp) ?_
  (try simp only [Act.put, zA, zB, zC, zD, zE, zF])
  refine zT 2 (.pointer (some ⟨b, o, none⟩)) rfl (by kernel_rfl) (by rfl) trivial (fun _ _ _ h => h) (fun W' _ => by go_simp) ?_
  (try simp only [Act.put, zA, zB, zC, zD, zE, zF])
  refine zT 3 (.pointer (some ⟨b, o, none⟩)) rfl (by kernel_rfl) (by rfl) trivial (fun _ _ _ h => h) (fun W' _ => by go_simp) ?_
  (try simp only [Act.put, zA, zB, zC, zD, zE, zF])
  refine zT 4 (.pointer (some ⟨b, o, none⟩)) rfl (by kernel_rfl) (by rfl) trivial (fun _ _ _ h => h) (fun W' _ => by go_simp) ?_
  (try simp only [Act.put, zA, zB, zC, zD, zE, zF])
  refine zT 5 (.pointer (some ⟨b, o, none⟩)) rfl (by kernel_rfl) (by rfl) trivial (fun _ _ _ h => h) (fun W' _ => by go_simp) ?_
  (try simp only [Act.put, zA, zB, zC, zD, zE, zF])
  refine zT 6 (.pointer (some ⟨b, o + 1, none⟩)) rfl (by kernel_rfl) (by rfl) trivial (fun _ _ _ h => h) (fun W' _ => by go_simp) ?_
  (try simp only [Act.put, zA, zB, zC, zD, zE, zF])
  refine zT 7 (.pointer (some ⟨b, o, none⟩)) rfl (by kernel_rfl) (by rfl) trivial (fun _ _ _ h => h) (fun W' _ => by go_simp) ?_
  (try simp only [Act.put, zA, zB, zC, zD, zE, zF])
  refine zT 8 (.pointer (some ⟨b, o, none⟩)) rfl (by kernel_rfl) (by rfl) trivial (fun _ _ _ h => h) (fun W' _ => by go_simp) ?_
  (try simp only [Act.put, zA, zB, zC, zD, zE, zF])
  refine zT 9 (.pointer (some ⟨b, o + 2, none⟩)) rfl (by kernel_rfl) (by rfl) trivial (fun _ _ _ h => h) (fun W' _ => by go_simp) ?_
  (try simp only [Act.put, zA, zB, zC, zD, zE, zF])
  refine zO 10 (by kernel_rfl) ?_
  refine wpOp_val (v := .slice (some ⟨Wd.heap.size, 0, none⟩) 3 3) (w' := Wd.alloc (.cells #[.pointer (some ⟨b, o, none⟩), .pointer (some ⟨b, o + 1, none⟩), .pointer (some ⟨b, o + 2, none⟩)] 253)) rfl (by rfl) (by go_simp) ⟨trivial, ?_⟩
  (try simp only [Act.put, zA, zB, zC, zD, zE, zF])
  have hal : Ext Nothing Wd (Wd.alloc (.cells #[.pointer (some ⟨b, o, none⟩), .pointer (some ⟨b, o + 1, none⟩), .pointer (some ⟨b, o + 2, none⟩)] 253)) := Ext.auto
  have hrow := CRec.new Wd 253 (#[.pointer (some ⟨b, o, none⟩), .pointer (some ⟨b, o + 1, none⟩), .pointer (some ⟨b, o + 2, none⟩)]) (by decide) (by decide)
  have hxz := hdr.tr hal
  refine zO 11 (by kernel_rfl) ?_
  refine wpOp_call (f := 107) (args := #[.pointer (some ⟨fb, 0, none⟩), .slice (some ⟨Wd.heap.size, 0, none⟩) 3 3]) rfl (by rfl) ?_ ((cfNums (k := 3) (os := [o, o + 1, o + 2]) _ (hf.e0 hxz) (hr.e0 hxz) (by intro q hq; simp only [List.mem_cons, List.not_mem_nil, or_false] at hq; rcases hq with rfl | rfl | rfl;   all_goals assumption) hrow rfl (by omega)).mono ?_)
  · go_simp
  rintro e w2 ⟨rfl, hx2, bad2, hf2, hb2⟩
  refine ⟨_, rfl, trivial, wpAnyH_done (by kernel_rfl) ?_ _⟩
  (try simp only [Act.put, zA, zB, zC, zD, zE, zF])
  replace hx := hx.t0 hxz
  replace hx := hx.fx hx2 (fun b e => e)
  replace hr := (hr.e0 hxz).keep hx2
  replace hb := fun e => hb2 (hb e)
  clear hb2
  replace hf := hf2
  clear hf2 hx2
  have hcall := cfJob (o := o + 3) w2 hf hr h3 h4 h5 h6 h8 h9 (l7.keep hx) (by omega)
  go_upto_region 2 with (first | go_skip | go_guarded | (go_at_call 108; (with_reducible refine hcall.mono ?_); rintro e w3 ⟨rfl, hx2, bad2, hf2, hb2⟩))
  clear hcall
  replace hx := hx.fx hx2 (fun b e => e)
  replace hr := hr.keep hx2
  replace hb := fun e => hb2 (hb e)
  clear hb2
  replace hf := hf2
  clear hf2 hx2
  have hcall := cfNode (o := o + 10) w3 hf hr h10 h11 h12 h15 h16 h17 h13 h14 (by omega)
  go_upto_region 3 with (first | go_skip | go_guarded | (go_at_call 109; (with_reducible refine hcall.mono ?_); rintro e w4 ⟨rfl, hx2, bad2, hf2, hb2⟩))
  clear hcall
  replace hx := hx.fx hx2 (fun b e => e)
  replace hr := hr.keep hx2
  replace hb := fun e => hb2 (hb e)
  clear hb2
  replace hf := hf2
  clear hf2 hx2
  have hcall := cfListReport' (o := o + 18) w4 hf hr (l18.keep hx) (by omega)
  go_upto_region 4 with (first | go_skip | go_guarded | (go_at_call 110; (with_reducible refine hcall.mono ?_); rintro e w5 ⟨rfl, hx2, bad2, hf2, hb2⟩))
  clear hcall
  replace hx := hx.fx hx2 (fun b e => e)
  replace hr := hr.keep hx2
  replace hb := fun e => hb2 (hb e)
  clear hb2
  replace hf := hf2
  clear hf2 hx2
  have hcall := cfPlan (o := o + 19) w5 hf hr h19 h20 h21 h24 (l22.keep hx) (l23.keep hx) (by omega)
  go_upto_region 5 with (first | go_skip | go_guarded | (go_at_call 112; (with_reducible refine hcall.mono ?_); rintro e w6 ⟨rfl, hx2, bad2, hf2, hb2⟩))
  clear hcall
  replace hx := hx.fx hx2 (fun b e => e)
  replace hr := hr.keep hx2
  replace hb := fun e => hb2 (hb e)
  clear hb2
  replace hf := hf2
  clear hf2 hx2
  have hcall := cfConf (o := o + 25) w6 hf hr (l25.keep hx) (l26.keep hx) (by omega)
  go_wp2_with (first | go_skip | go_guarded | (go_at_call 113; (with_reducible refine hcall.mono ?_); rintro e w7 ⟨rfl, hx2, bad2, hf2, hb2⟩))
  clear hcall
  replace hx := hx.fx hx2 (fun b e => e)
  replace hr := hr.keep hx2
  replace hb := fun e => hb2 (hb e)
  clear hb2
  replace hf := hf2
  clear hf2 hx2
  exact bodyPost_ret (results_none rfl _ _ _) rfl ⟨rfl, hx, _, hf, hb⟩
end Go.Proofs.YtjcjiokneibfdaaGreatDoor
