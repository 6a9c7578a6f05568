/- A writer writes records of numbers and truths. (printed by wip/gen/cf.py) -/
import Derived.Test.YtjcjiokneibfdaaGreatDoorCf3
import Derived.Test.YtjcjiokneibfdaaGreatDoorFitL
namespace Go.Proofs.YtjcjiokneibfdaaGreatDoor
set_option linter.unusedVariables false
set_option linter.unusedSimpArgs false
open Go.RowKit
theorem zS {P : Program} {ops : Array Oper} {Q : Exit → Act → World → Prop} {a : Act} {w : World} {S : World → Prop} {id : Nat} (hf : P.follows Departure.mixedOrders = true) (h : wpAnyH P .any ops Q S ops.size (Array.replicate ops.size false) a w.drew) : Code.wp P (Code.region id ops true) Q a w :=
  wp_region_held (S := S) hf h
set_option maxRecDepth 20000 in
set_option maxHeartbeats 8000000 in
theorem cfRes {fb N b o : Nat} {bad : Bool} {cs : Array Value} (w : World) (h : Form w fb N bad) (hr0 : CRec w b cs) (h0 : ∃ i, cs[o]? = some (.int .i64 i)) (h1 : ∃ i, cs[o + 1]? = some (.int .i64 i))  (hN : N + 20 ≤ 60000000) :
    Calls Tryz.prog 181 #[.pointer (some ⟨fb, 0, none⟩), .pointer (some ⟨b, o, none⟩)] w (Wrote fb (N + 20) bad w) := by
  go_enter Tryz.func181, Tryz.ntmps181
  have hx : Ext (FX fb w) w w := Ext.refl _ _
  have hb : bad = true → bad = true := fun e => e
  have hf := h
  have hr := hr0
  clear h hr0
  go_upto_region 0 with (first | go_skip | go_guarded)
  refine zS (S := fun _ => True) (by kernel_rfl) ?_
  have hdr : Ext Nothing w w.drew := (Ext.refl _ _).drew
  generalize w.drew = Wd at hdr ⊢
  refine zT 0 (.pointer (some ⟨fb, 0, none⟩)) rfl (by kernel_rfl) (by rfl) trivial (fun _ _ _ h => h) (fun W' _ => by go_simp) ?_
  (try simp only [Act.put, zA, zB, zC, zD, zE, zF])
  refine zT 1 (.pointer (some ⟨b, o, none⟩)) rfl (by kernel_rfl) (by rfl) trivial (fun _ _ _ h => h) (fun W' _ => by go_simp) ?_
  (try simp only [Act.put, zA, zB, zC, zD, zE, zF])
  refine zT 2 (.pointer (some ⟨b, o, none⟩)) rfl (by kernel_rfl) (by rfl) trivial (fun _ _ _ h => h) (fun W' _ => by go_simp) ?_
  (try simp only [Act.put, zA, zB, zC, zD, zE, zF])
  refine zT 3 (.pointer (some ⟨b, o, none⟩)) rfl (by kernel_rfl) (by rfl) trivial (fun _ _ _ h => h) (fun W' _ => by go_simp) ?_
  (try simp only [Act.put, zA, zB, zC, zD, zE, zF])
  refine zT 4 (.pointer (some ⟨b, o, none⟩)) rfl (by kernel_rfl) (by rfl) trivial (fun _ _ _ h => h) (fun W' _ => by go_simp) ?_
  (try simp only [Act.put, zA, zB, zC, zD, zE, zF])
  refine zT 5 (.pointer (some ⟨b, o, none⟩)) rfl (by kernel_rfl) (by rfl) trivial (fun _ _ _ h => h) (fun W' _ => by go_simp) ?_
  (try simp only [Act.put, zA, zB, zC, zD, zE, zF])
  refine zT 6 (.pointer (some ⟨b, o + 1, none⟩)) rfl (by kernel_rfl) (by rfl) trivial (fun _ _ _ h => h) (fun W' _ => by go_simp) ?_
  (try simp only [Act.put, zA, zB, zC, zD, zE, zF])
  refine zO 7 (by kernel_rfl) ?_
  refine wpOp_val (v := .slice (some ⟨Wd.heap.size, 0, none⟩) 2 2) (w' := Wd.alloc (.cells #[.pointer (some ⟨b, o, none⟩), .pointer (some ⟨b, o + 1, none⟩)] 253)) rfl (by rfl) (by go_simp) ⟨trivial, ?_⟩
  (try simp only [Act.put, zA, zB, zC, zD, zE, zF])
  have hal : Ext Nothing Wd (Wd.alloc (.cells #[.pointer (some ⟨b, o, none⟩), .pointer (some ⟨b, o + 1, none⟩)] 253)) := Ext.auto
  have hrow := CRec.new Wd 253 (#[.pointer (some ⟨b, o, none⟩), .pointer (some ⟨b, o + 1, none⟩)]) (by decide) (by decide)
  have hxz := hdr.tr hal
  refine zO 8 (by kernel_rfl) ?_
  refine wpOp_call (f := 107) (args := #[.pointer (some ⟨fb, 0, none⟩), .slice (some ⟨Wd.heap.size, 0, none⟩) 2 2]) rfl (by rfl) ?_ ((cfNums (k := 2) (os := [o, o + 1]) _ (hf.e0 hxz) (hr.e0 hxz) (by intro q hq; simp only [List.mem_cons, List.not_mem_nil, or_false] at hq; rcases hq with rfl | rfl;  all_goals assumption) hrow rfl (by omega)).mono ?_)
  · go_simp
  rintro e w2 ⟨rfl, hx2, bad2, hf2, hb2⟩
  refine ⟨_, rfl, trivial, wpAnyH_done (by kernel_rfl) ?_ _⟩
  (try simp only [Act.put, zA, zB, zC, zD, zE, zF])
  replace hx := hx.t0 hxz
  replace hx := hx.fx hx2 (fun b e => e)
  replace hr := (hr.e0 hxz).keep hx2
  replace hb := fun e => hb2 (hb e)
  clear hb2
  replace hf := hf2
  clear hf2 hx2
  go_wp2_with (first | go_skip | go_guarded)
  exact bodyPost_ret (results_none rfl _ _ _) rfl ⟨rfl, hx, _, hf, hb⟩
set_option maxRecDepth 20000 in
set_option maxHeartbeats 8000000 in
theorem cfReport {fb N b o : Nat} {bad : Bool} {cs : Array Value} (w : World) (h : Form w fb N bad) (hr0 : CRec w b cs) (h0 : ∃ i, cs[o]? = some (.int .i64 i)) (h1 : ∃ i, cs[o + 1]? = some (.int .i64 i))  (hN : N + 20 ≤ 60000000) :
    Calls Tryz.prog 111 #[.pointer (some ⟨fb, 0, none⟩), .pointer (some ⟨b, o, none⟩)] w (Wrote fb (N + 20) bad w) := by
  go_enter Tryz.func111, Tryz.ntmps111
  have hx : Ext (FX fb w) w w := Ext.refl _ _
  have hb : bad = true → bad = true := fun e => e
  have hf := h
  have hr := hr0
  clear h hr0
  go_upto_region 0 with (first | go_skip | go_guarded)
  refine zS (S := fun _ => True) (by kernel_rfl) ?_
  have hdr : Ext Nothing w w.drew := (Ext.refl _ _).drew
  generalize w.drew = Wd at hdr ⊢
  refine zT 0 (.pointer (some ⟨fb, 0, none⟩)) rfl (by kernel_rfl) (by rfl) trivial (fun _ _ _ h => h) (fun W' _ => by go_simp) ?_
  (try simp only [Act.put, zA, zB, zC, zD, zE, zF])
  refine zT 1 (.pointer (some ⟨b, o, none⟩)) rfl (by kernel_rfl) (by rfl) trivial (fun _ _ _ h => h) (fun W' _ => by go_simp) ?_
  (try simp only [Act.put, zA, zB, zC, zD, zE, zF])
  refine zT 2 (.pointer (some ⟨b, o, none⟩)) rfl (by kernel_rfl) (by rfl) trivial (fun _ _ _ h => h) (fun W' _ => by go_simp) ?_
  (try simp only [Act.put, zA, zB, zC, zD, zE, zF])
  refine zT 3 (.pointer (some ⟨b, o, none⟩)) rfl (by kernel_rfl) (by rfl) trivial (fun _ _ _ h => h) (fun W' _ => by go_simp) ?_
  (try simp only [Act.put, zA, zB, zC, zD, zE, zF])
  refine zT 4 (.pointer (some ⟨b, o, none⟩)) rfl (by kernel_rfl) (by rfl) trivial (fun _ _ _ h => h) (fun W' _ => by go_simp) ?_
  (try simp only [Act.put, zA, zB, zC, zD, zE, zF])
  refine zT 5 (.pointer (some ⟨b, o, none⟩)) rfl (by kernel_rfl) (by rfl) trivial (fun _ _ _ h => h) (fun W' _ => by go_simp) ?_
  (try simp only [Act.put, zA, zB, zC, zD, zE, zF])
  refine zT 6 (.pointer (some ⟨b, o + 1, none⟩)) rfl (by kernel_rfl) (by rfl) trivial (fun _ _ _ h => h) (fun W' _ => by go_simp) ?_
  (try simp only [Act.put, zA, zB, zC, zD, zE, zF])
  refine zO 7 (by kernel_rfl) ?_
  refine wpOp_val (v := .slice (some ⟨Wd.heap.size, 0, none⟩) 2 2) (w' := Wd.alloc (.cells #[.pointer (some ⟨b, o, none⟩), .pointer (some ⟨b, o + 1, none⟩)] 253)) rfl (by rfl) (by go_simp) ⟨trivial, ?_⟩
  (try simp only [Act.put, zA, zB, zC, zD, zE, zF])
  have hal : Ext Nothing Wd (Wd.alloc (.cells #[.pointer (some ⟨b, o, none⟩), .pointer (some ⟨b, o + 1, none⟩)] 253)) := Ext.auto
  have hrow := CRec.new Wd 253 (#[.pointer (some ⟨b, o, none⟩), .pointer (some ⟨b, o + 1, none⟩)]) (by decide) (by decide)
  have hxz := hdr.tr hal
  refine zO 8 (by kernel_rfl) ?_
  refine wpOp_call (f := 107) (args := #[.pointer (some ⟨fb, 0, none⟩), .slice (some ⟨Wd.heap.size, 0, none⟩) 2 2]) rfl (by rfl) ?_ ((cfNums (k := 2) (os := [o, o + 1]) _ (hf.e0 hxz) (hr.e0 hxz) (by intro q hq; simp only [List.mem_cons, List.not_mem_nil, or_false] at hq; rcases hq with rfl | rfl;  all_goals assumption) hrow rfl (by omega)).mono ?_)
  · go_simp
  rintro e w2 ⟨rfl, hx2, bad2, hf2, hb2⟩
  refine ⟨_, rfl, trivial, wpAnyH_done (by kernel_rfl) ?_ _⟩
  (try simp only [Act.put, zA, zB, zC, zD, zE, zF])
  replace hx := hx.t0 hxz
  replace hx := hx.fx hx2 (fun b e => e)
  replace hr := (hr.e0 hxz).keep hx2
  replace hb := fun e => hb2 (hb e)
  clear hb2
  replace hf := hf2
  clear hf2 hx2
  go_wp2_with (first | go_skip | go_guarded)
  exact bodyPost_ret (results_none rfl _ _ _) rfl ⟨rfl, hx, _, hf, hb⟩
set_option maxRecDepth 20000 in
set_option maxHeartbeats 8000000 in
theorem cfGroup {fb N b o : Nat} {bad : Bool} {cs : Array Value} (w : World) (h : Form w fb N bad) (hr0 : CRec w b cs) (h0 : ∃ i, cs[o]? = some (.int .i64 i)) (h1 : ∃ i, cs[o + 1]? = some (.int .i64 i)) (h2 : ∃ i, cs[o + 2]? = some (.int .i64 i))  (hN : N + 30 ≤ 60000000) :
    Calls Tryz.prog 179 #[.pointer (some ⟨fb, 0, none⟩), .pointer (some ⟨b, o, none⟩)] w (Wrote fb (N + 30) bad w) := by
  go_enter Tryz.func179, Tryz.ntmps179
  have hx : Ext (FX fb w) w w := Ext.refl _ _
  have hb : bad = true → bad = true := fun e => e
  have hf := h
  have hr := hr0
  clear h hr0
  have hcall := cfNum' (o := o) w hf hr h0 (by omega)
  go_upto_region 1 with (first | go_skip | go_guarded | (go_at_call 177; (with_reducible refine hcall.mono ?_); rintro e w2 ⟨rfl, hx2, bad2, hf2, hb2⟩))
  clear hcall
  replace hx := hx.fx hx2 (fun b e => e)
  replace hr := hr.keep hx2
  replace hb := fun e => hb2 (hb e)
  clear hb2
  replace hf := hf2
  clear hf2 hx2
  have hcall := cfRes (o := o + 1) w2 hf hr h1 h2 (by omega)
  go_wp2_with (first | go_skip | go_guarded | (go_at_call 181; (with_reducible refine hcall.mono ?_); rintro e w3 ⟨rfl, hx2, bad2, hf2, hb2⟩))
  clear hcall
  replace hx := hx.fx hx2 (fun b e => e)
  replace hr := hr.keep hx2
  replace hb := fun e => hb2 (hb e)
  clear hb2
  replace hf := hf2
  clear hf2 hx2
  exact bodyPost_ret (results_none rfl _ _ _) rfl ⟨rfl, hx, _, hf, hb⟩
set_option maxRecDepth 20000 in
set_option maxHeartbeats 8000000 in
theorem cfNode {fb N b o : Nat} {bad : Bool} {cs : Array Value} (w : World) (h : Form w fb N bad) (hr0 : CRec w b cs) (h0 : ∃ i, cs[o]? = some (.int .i64 i)) (h1 : ∃ i, cs[o + 1]? = some (.int .i64 i)) (h2 : ∃ i, cs[o + 2]? = some (.int .i64 i)) (h5 : ∃ i, cs[o + 5]? = some (.int .i64 i)) (h6 : ∃ i, cs[o + 6]? = some (.int .i64 i)) (h7 : ∃ i, cs[o + 7]? = some (.int .i64 i)) (h3 : ∃ q, cs[o + 3]? = some (.bool q)) (h4 : ∃ q, cs[o + 4]? = some (.bool q)) (hN : N + 80 ≤ 60000000) :
    Calls Tryz.prog 109 #[.pointer (some ⟨fb, 0, none⟩), .pointer (some ⟨b, o, none⟩)] w (Wrote fb (N + 80) bad w) := by
  go_enter Tryz.func109, Tryz.ntmps109
  have hx : Ext (FX fb w) w w := Ext.refl _ _
  have hb : bad = true → bad = true := fun e => e
  have hf := h
  have hr := hr0
  clear h hr0
  have hcall := cfNum' (o := o) w hf hr h0 (by omega)
  go_upto_region 1 with (first | go_skip | go_guarded | (go_at_call 177; (with_reducible refine hcall.mono ?_); rintro e w2 ⟨rfl, hx2, bad2, hf2, hb2⟩))
  clear hcall
  replace hx := hx.fx hx2 (fun b e => e)
  replace hr := hr.keep hx2
  replace hb := fun e => hb2 (hb e)
  clear hb2
  replace hf := hf2
  clear hf2 hx2
  have hcall := cfRes (o := o + 1) w2 hf hr h1 h2 (by omega)
  go_upto_region 2 with (first | go_skip | go_guarded | (go_at_call 181; (with_reducible refine hcall.mono ?_); rintro e w3 ⟨rfl, hx2, bad2, hf2, hb2⟩))
  clear hcall
  replace hx := hx.fx hx2 (fun b e => e)
  replace hr := hr.keep hx2
  replace hb := fun e => hb2 (hb e)
  clear hb2
  replace hf := hf2
  clear hf2 hx2
  have hcall := cfFlag' (o := o + 3) w3 hf hr h3 (by omega)
  go_upto_region 3 with (first | go_skip | go_guarded | (go_at_call 180; (with_reducible refine hcall.mono ?_); rintro e w4 ⟨rfl, hx2, bad2, hf2, hb2⟩))
  clear hcall
  replace hx := hx.fx hx2 (fun b e => e)
  replace hr := hr.keep hx2
  replace hb := fun e => hb2 (hb e)
  clear hb2
  replace hf := hf2
  clear hf2 hx2
  have hcall := cfFlag' (o := o + 4) w4 hf hr h4 (by omega)
  go_upto_region 4 with (first | go_skip | go_guarded | (go_at_call 180; (with_reducible refine hcall.mono ?_); rintro e w5 ⟨rfl, hx2, bad2, hf2, hb2⟩))
  clear hcall
  replace hx := hx.fx hx2 (fun b e => e)
  replace hr := hr.keep hx2
  replace hb := fun e => hb2 (hb e)
  clear hb2
  replace hf := hf2
  clear hf2 hx2
  go_upto_region 4 with (first | go_skip | go_guarded)
  refine zS (S := fun _ => True) (by kernel_rfl) ?_
  have hdr : Ext Nothing w5 w5.drew := (Ext.refl _ _).drew
  generalize w5.drew = Wd at hdr ⊢
  refine zT 0 (.pointer (some ⟨fb, 0, none⟩)) rfl (by kernel_rfl) (by rfl) trivial (fun _ _ _ h => h) (fun W' _ => by go_simp) ?_
  (try simp only [Act.put, zA, zB, zC, zD, zE, zF])
  refine zT 1 (.pointer (some ⟨b, o, none⟩)) rfl (by kernel_rfl) (by rfl) trivial (fun _ _ _ h => h) (fun W' _ => by go_simp) ?_
  (try simp only [Act.put, zA, zB, zC, zD, zE, zF])
  refine zT 2 (.pointer (some ⟨b, o, none⟩)) rfl (by kernel_rfl) (by rfl) trivial (fun _ _ _ h => h) (fun W' _ => by go_simp) ?_
  (try simp only [Act.put, zA, zB, zC, zD, zE, zF])
  refine zT 3 (.pointer (some ⟨b, o + 5, none⟩)) rfl (by kernel_rfl) (by rfl) trivial (fun _ _ _ h => h) (fun W' _ => by go_simp) ?_
  (try simp only [Act.put, zA, zB, zC, zD, zE, zF])
  refine zT 4 (.pointer (some ⟨b, o, none⟩)) rfl (by kernel_rfl) (by rfl) trivial (fun _ _ _ h => h) (fun W' _ => by go_simp) ?_
  (try simp only [Act.put, zA, zB, zC, zD, zE, zF])
  refine zT 5 (.pointer (some ⟨b, o, none⟩)) rfl (by kernel_rfl) (by rfl) trivial (fun _ _ _ h => h) (fun W' _ => by go_simp) ?_
  (try simp only [Act.put, zA, zB, zC, zD, zE, zF])
  refine zT 6 (.pointer (some ⟨b, o + 6, none⟩)) rfl (by kernel_rfl) (by rfl) trivial (fun _ _ _ h => h) (fun W' _ => by go_simp) ?_
  (try simp only [Act.put, zA, zB, zC, zD, zE, zF])
  refine zT 7 (.pointer (some ⟨b, o, none⟩)) rfl (by kernel_rfl) (by rfl) trivial (fun _ _ _ h => h) (fun W' _ => by go_simp) ?_
  (try simp only [Act.put, zA, zB, zC, zD, zE, zF])
  refine zT 8 (.pointer (some ⟨b, o, none⟩)) rfl (by kernel_rfl) (by rfl) trivial (fun _ _ _ h => h) (fun W' _ => by go_simp) ?_
  (try simp only [Act.put, zA, zB, zC, zD, zE, zF])
  refine zT 9 (.pointer (some ⟨b, o + 7, none⟩)) rfl (by kernel_rfl) (by rfl) trivial (fun _ _ _ h => h) (fun W' _ => by go_simp) ?_
  (try simp only [Act.put, zA, zB, zC, zD, zE, zF])
  refine zO 10 (by kernel_rfl) ?_
  refine wpOp_val (v := .slice (some ⟨Wd.heap.size, 0, none⟩) 3 3) (w' := Wd.alloc (.cells #[.pointer (some ⟨b, o + 5, none⟩), .pointer (some ⟨b, o + 6, none⟩), .pointer (some ⟨b, o + 7, none⟩)] 253)) rfl (by rfl) (by go_simp) ⟨trivial, ?_⟩
  (try simp only [Act.put, zA, zB, zC, zD, zE, zF])
  have hal : Ext Nothing Wd (Wd.alloc (.cells #[.pointer (some ⟨b, o + 5, none⟩), .pointer (some ⟨b, o + 6, none⟩), .pointer (some ⟨b, o + 7, none⟩)] 253)) := Ext.auto
  have hrow := CRec.new Wd 253 (#[.pointer (some ⟨b, o + 5, none⟩), .pointer (some ⟨b, o + 6, none⟩), .pointer (some ⟨b, o + 7, none⟩)]) (by decide) (by decide)
  have hxz := hdr.tr hal
  refine zO 11 (by kernel_rfl) ?_
  refine wpOp_call (f := 107) (args := #[.pointer (some ⟨fb, 0, none⟩), .slice (some ⟨Wd.heap.size, 0, none⟩) 3 3]) rfl (by rfl) ?_ ((cfNums (k := 3) (os := [o + 5, o + 6, o + 7]) _ (hf.e0 hxz) (hr.e0 hxz) (by intro q hq; simp only [List.mem_cons, List.not_mem_nil, or_false] at hq; rcases hq with rfl | rfl | rfl;   all_goals assumption) hrow rfl (by omega)).mono ?_)
  · go_simp
  rintro e w6 ⟨rfl, hx2, bad2, hf2, hb2⟩
  refine ⟨_, rfl, trivial, wpAnyH_done (by kernel_rfl) ?_ _⟩
  (try simp only [Act.put, zA, zB, zC, zD, zE, zF])
  replace hx := hx.t0 hxz
  replace hx := hx.fx hx2 (fun b e => e)
  replace hr := (hr.e0 hxz).keep hx2
  replace hb := fun e => hb2 (hb e)
  clear hb2
  replace hf := hf2
  clear hf2 hx2
  go_wp2_with (first | go_skip | go_guarded)
  exact bodyPost_ret (results_none rfl _ _ _) rfl ⟨rfl, hx, _, hf, hb⟩
set_option maxRecDepth 20000 in
set_option maxHeartbeats 8000000 in
theorem cfAlloc {fb N b o : Nat} {bad : Bool} {cs : Array Value} (w : World) (h : Form w fb N bad) (hr0 : CRec w b cs) (h0 : ∃ i, cs[o]? = some (.int .i64 i)) (h1 : ∃ i, cs[o + 1]? = some (.int .i64 i)) (h2 : ∃ i, cs[o + 2]? = some (.int .i64 i)) (h3 : ∃ i, cs[o + 3]? = some (.int .i64 i)) (h4 : ∃ i, cs[o + 4]? = some (.int .i64 i)) (h5 : ∃ i, cs[o + 5]? = some (.int .i64 i)) (h6 : ∃ i, cs[o + 6]? = some (.int .i64 i)) (h7 : ∃ i, cs[o + 7]? = some (.int .i64 i)) (h8 : ∃ i, cs[o + 8]? = some (.int .i64 i)) (h10 : ∃ i, cs[o + 10]? = some (.int .i64 i)) (h9 : ∃ q, cs[o + 9]? = some (.bool q)) (hN : N + 110 ≤ 60000000) :
    Calls Tryz.prog 170 #[.pointer (some ⟨fb, 0, none⟩), .pointer (some ⟨b, o, none⟩)] w (Wrote fb (N + 110) bad w) := by
  go_enter Tryz.func170, Tryz.ntmps170
  have hx : Ext (FX fb w) w w := Ext.refl _ _
  have hb : bad = true → bad = true := fun e => e
  have hf := h
  have hr := hr0
  clear h hr0
  go_upto_region 0 with (first | go_skip | go_guarded)
  refine zS (S := fun _ => True) (by kernel_rfl) ?_
  have hdr : Ext Nothing w w.drew := (Ext.refl _ _).drew
  generalize w.drew = Wd at hdr ⊢
  refine zT 0 (.pointer (some ⟨fb, 0, none⟩)) rfl (by kernel_rfl) (by rfl) trivial (fun _ _ _ h => h) (fun W' _ => by go_simp) ?_
  (try simp only [Act.put, zA, zB, zC, zD, zE, zF])
  refine zT 1 (.pointer (some ⟨b, o, none⟩)) rfl (by kernel_rfl) (by rfl) trivial (fun _ _ _ h => h) (fun W' _ => by go_simp) ?_
  (try simp only [Act.put, zA, zB, zC, zD, zE, zF])
  refine zT 2 (.pointer (some ⟨b, o, none⟩)) rfl (by kernel_rfl) (by rfl) trivial (fun _ _ _ h => h) (fun W' _ => by go_simp) ?_
  (try simp only [Act.put, zA, zB, zC, zD, zE, zF])
  refine zT 3 (.pointer (some ⟨b, o, none⟩)) rfl (by kernel_rfl) (by rfl) trivial (fun _ _ _ h => h) (fun W' _ => by go_simp) ?_
  (try simp only [Act.put, zA, zB, zC, zD, zE, zF])
  refine zT 4 (.pointer (some ⟨b, o, none⟩)) rfl (by kernel_rfl) (by rfl) trivial (fun _ _ _ h => h) (fun W' _ => by go_simp) ?_
  (try simp only [Act.put, zA, zB, zC, zD, zE, zF])
  refine zT 5 (.pointer (some ⟨b, o, none⟩)) rfl (by kernel_rfl) (by rfl) trivial (fun _ _ _ h => h) (fun W' _ => by go_simp) ?_
  (try simp only [Act.put, zA, zB, zC, zD, zE, zF])
  refine zT 6 (.pointer (some ⟨b, o + 1, none⟩)) rfl (by kernel_rfl) (by rfl) trivial (fun _ _ _ h => h) (fun W' _ => by go_simp) ?_
  (try simp only [Act.put, zA, zB, zC, zD, zE, zF])
  refine zT 7 (.pointer (some ⟨b, o, none⟩)) rfl (by kernel_rfl) (by rfl) trivial (fun _ _ _ h => h) (fun W' _ => by go_simp) ?_
  (try simp only [Act.put, zA, zB, zC, zD, zE, zF])
  refine zT 8 (.pointer (some ⟨b, o, none⟩)) rfl (by kernel_rfl) (by rfl) trivial (fun _ _ _ h => h) (fun W' _ => by go_simp) ?_
  (try simp only [Act.put, zA, zB, zC, zD, zE, zF])
  refine zT 9 (.pointer (some ⟨b, o + 2, none⟩)) rfl (by kernel_rfl) (by rfl) trivial (fun _ _ _ h => h) (fun W' _ => by go_simp) ?_
  (try simp only [Act.put, zA, zB, zC, zD, zE, zF])
  refine zT 10 (.pointer (some ⟨b, o, none⟩)) rfl (by kernel_rfl) (by rfl) trivial (fun _ _ _ h => h) (fun W' _ => by go_simp) ?_
  (try simp only [Act.put, zA, zB, zC, zD, zE, zF])
  refine zT 11 (.pointer (some ⟨b, o, none⟩)) rfl (by kernel_rfl) (by rfl) trivial (fun _ _ _ h => h) (fun W' _ => by go_simp) ?_
  (try simp only [Act.put, zA, zB, zC, zD, zE, zF])
  refine zT 12 (.pointer (some ⟨b, o + 3, none⟩)) rfl (by kernel_rfl) (by rfl) trivial (fun _ _ _ h => h) (fun W' _ => by go_simp) ?_
  (try simp only [Act.put, zA, zB, zC, zD, zE, zF])
  refine zT 13 (.pointer (some ⟨b, o, none⟩)) rfl (by kernel_rfl) (by rfl) trivial (fun _ _ _ h => h) (fun W' _ => by go_simp) ?_
  (try simp only [Act.put, zA, zB, zC, zD, zE, zF])
  refine zT 14 (.pointer (some ⟨b, o, none⟩)) rfl (by kernel_rfl) (by rfl) trivial (fun _ _ _ h => h) (fun W' _ => by go_simp) ?_
  (try simp only [Act.put, zA, zB, zC, zD, zE, zF])
  refine zT 15 (.pointer (some ⟨b, o + 4, none⟩)) rfl (by kernel_rfl) (by rfl) trivial (fun _ _ _ h => h) (fun W' _ => by go_simp) ?_
  (try simp only [Act.put, zA, zB, zC, zD, zE, zF])
  refine zT 16 (.pointer (some ⟨b, o, none⟩)) rfl (by kernel_rfl) (by rfl) trivial (fun _ _ _ h => h) (fun W' _ => by go_simp) ?_
  (try simp only [Act.put, zA, zB, zC, zD, zE, zF])
  refine zT 17 (.pointer (some ⟨b, o, none⟩)) rfl (by kernel_rfl) (by rfl) trivial (fun _ _ _ h => h) (fun W' _ => by go_simp) ?_
  (try simp only [Act.put, zA, zB, zC, zD, zE, zF])
  refine zT 18 (.pointer (some ⟨b, o + 5, none⟩)) rfl (by kernel_rfl) (by rfl) trivial (fun _ _ _ h => h) (fun W' _ => by go_simp) ?_
  (try simp only [Act.put, zA, zB, zC, zD, zE, zF])
  refine zT 19 (.pointer (some ⟨b, o, none⟩)) rfl (by kernel_rfl) (by rfl) trivial (fun _ _ _ h => h) (fun W' _ => by go_simp) ?_
  (try simp only [Act.put, zA, zB, zC, zD, zE, zF])
  refine zT 20 (.pointer (some ⟨b, o, none⟩)) rfl (by kernel_rfl) (by rfl) trivial (fun _ _ _ h => h) (fun W' _ => by go_simp) ?_
  (try simp only [Act.put, zA, zB, zC, zD, zE, zF])
  refine zT 21 (.pointer (some ⟨b, o + 6, none⟩)) rfl (by kernel_rfl) (by rfl) trivial (fun _ _ _ h => h) (fun W' _ => by go_simp) ?_
  (try simp only [Act.put, zA, zB, zC, zD, zE, zF])
  refine zO 22 (by kernel_rfl) ?_
  refine wpOp_val (v := .slice (some ⟨Wd.heap.size, 0, none⟩) 7 7) (w' := Wd.alloc (.cells #[.pointer (some ⟨b, o, none⟩), .pointer (some ⟨b, o + 1, none⟩), .pointer (some ⟨b, o + 2, none⟩), .pointer (some ⟨b, o + 3, none⟩), .pointer (some ⟨b, o + 4, none⟩), .pointer (some ⟨b, o + 5, none⟩), .pointer (some ⟨b, o + 6, none⟩)] 253)) rfl (by rfl) (by go_simp) ⟨trivial, ?_⟩
  (try simp only [Act.put, zA, zB, zC, zD, zE, zF])
  have hal : Ext Nothing Wd (Wd.alloc (.cells #[.pointer (some ⟨b, o, none⟩), .pointer (some ⟨b, o + 1, none⟩), .pointer (some ⟨b, o + 2, none⟩), .pointer (some ⟨b, o + 3, none⟩), .pointer (some ⟨b, o + 4, none⟩), .pointer (some ⟨b, o + 5, none⟩), .pointer (some ⟨b, o + 6, none⟩)] 253)) := Ext.auto
  have hrow := CRec.new Wd 253 (#[.pointer (some ⟨b, o, none⟩), .pointer (some ⟨b, o + 1, none⟩), .pointer (some ⟨b, o + 2, none⟩), .pointer (some ⟨b, o + 3, none⟩), .pointer (some ⟨b, o + 4, none⟩), .pointer (some ⟨b, o + 5, none⟩), .pointer (some ⟨b, o + 6, none⟩)]) (by decide) (by decide)
  have hxz := hdr.tr hal
  refine zO 23 (by kernel_rfl) ?_
  refine wpOp_call (f := 107) (args := #[.pointer (some ⟨fb, 0, none⟩), .slice (some ⟨Wd.heap.size, 0, none⟩) 7 7]) rfl (by rfl) ?_ ((cfNums (k := 7) (os := [o, o + 1, o + 2, o + 3, o + 4, o + 5, o + 6]) _ (hf.e0 hxz) (hr.e0 hxz) (by intro q hq; simp only [List.mem_cons, List.not_mem_nil, or_false] at hq; rcases hq with rfl | rfl | rfl | rfl | rfl | rfl | rfl;       all_goals assumption) hrow rfl (by omega)).mono ?_)
  · go_simp
  rintro e w2 ⟨rfl, hx2, bad2, hf2, hb2⟩
  refine ⟨_, rfl, trivial, wpAnyH_done (by kernel_rfl) ?_ _⟩
  (try simp only [Act.put, zA, zB, zC, zD, zE, zF])
  replace hx := hx.t0 hxz
  replace hx := hx.fx hx2 (fun b e => e)
  replace hr := (hr.e0 hxz).keep hx2
  replace hb := fun e => hb2 (hb e)
  clear hb2
  replace hf := hf2
  clear hf2 hx2
  have hcall := cfRes (o := o + 7) w2 hf hr h7 h8 (by omega)
  go_upto_region 2 with (first | go_skip | go_guarded | (go_at_call 181; (with_reducible refine hcall.mono ?_); rintro e w3 ⟨rfl, hx2, bad2, hf2, hb2⟩))
  clear hcall
  replace hx := hx.fx hx2 (fun b e => e)
  replace hr := hr.keep hx2
  replace hb := fun e => hb2 (hb e)
  clear hb2
  replace hf := hf2
  clear hf2 hx2
  have hcall := cfFlag' (o := o + 9) w3 hf hr h9 (by omega)
  go_upto_region 3 with (first | go_skip | go_guarded | (go_at_call 180; (with_reducible refine hcall.mono ?_); rintro e w4 ⟨rfl, hx2, bad2, hf2, hb2⟩))
  clear hcall
  replace hx := hx.fx hx2 (fun b e => e)
  replace hr := hr.keep hx2
  replace hb := fun e => hb2 (hb e)
  clear hb2
  replace hf := hf2
  clear hf2 hx2
  have hcall := cfNum' (o := o + 10) w4 hf hr h10 (by omega)
  go_wp2_with (first | go_skip | go_guarded | (go_at_call 177; (with_reducible refine hcall.mono ?_); rintro e w5 ⟨rfl, hx2, bad2, hf2, hb2⟩))
  clear hcall
  replace hx := hx.fx hx2 (fun b e => e)
  replace hr := hr.keep hx2
  replace hb := fun e => hb2 (hb e)
  clear hb2
  replace hf := hf2
  clear hf2 hx2
  exact bodyPost_ret (results_none rfl _ _ _) rfl ⟨rfl, hx, _, hf, hb⟩
end Go.Proofs.YtjcjiokneibfdaaGreatDoor
