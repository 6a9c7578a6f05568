/- The document's disk: does. (printed by wip/gen/rddoes.py) -/
import Derived.Test.YtlfpfhdagkkliaaDoorRd3
namespace Go.Proofs.YtlfpfhdagkkliaaDoor
set_option linter.unusedVariables false
set_option linter.unusedSimpArgs false
open Go.RowKit

theorem ZTFile : ZeroT Tryd.prog 65 2 := .of (by kernel_rfl)
theorem zS {P : Program} {ops : Array Oper} {Q : Exit → Act → World → Prop} {a : Act} {w : World} {S : World → Prop} {id : Nat} (hf : P.follows Departure.mixedOrders = true) (h : wpAnyH P .any ops Q S ops.size (Array.replicate ops.size false) a w.drew) : Code.wp P (Code.region id ops true) Q a w :=
  wp_region_held (S := S) hf h
theorem one_bytes (l : List UInt8) : ∀ y ∈ l.map bCell, y.all Value.oneCell' = true := by
  intro y hy
  obtain ⟨z, hz, rfl⟩ := List.mem_map.1 hy
  rfl
theorem flat_bytes (l : List UInt8) : (l.map bCell).flatten = l.flatMap bCell := (List.flatMap_def ..).symm
set_option maxRecDepth 20000 in
set_option maxHeartbeats 16000000 in
theorem rDoes {Ok : Nat → Prop} (A : Option Addr) (n c : Nat) (ys : List FileC) (y : DidC) (w : World) (h : FilesAt w Ok A n c ys) (hn : n < 33554432) (hy : DidI w Ok y) (hk : y.1.kind ≤ 3) (hd1 : y.1.data.length ≤ 1048576) (hd2 : ∀ z ∈ ys, z.1.2.length ≤ 1048576) (hren : y.1.kind = 3 → Dk.find (ys.map (·.1)) y.1.name ≠ none) :
    Calls Tryd.prog 55 #[.slice A n c, .agg #[.int .i64 (y.1.kind : Int), strV y.1.name, strV y.2.1, y.2.2]] w fun e w' => ∃ v, e = .returned v ∧ FilesV w' (OkN w Ok) v (Dk.does (ys.map (·.1)) y.1) ∧ Ext Nothing w w' := by
  obtain ⟨⟨k, nm, tt, dt⟩, t9, dv⟩ := y
  obtain ⟨Ad, nd, cd, hdv, _⟩ := id hy.data
  have hdv : dv = .slice Ad nd cd := hdv
  subst hdv
  dsimp only at hk hd1 hren ⊢
  have hbd : BytesV w Ok (.slice Ad nd cd) dt := hy.data
  have hto : k = 3 → t9 = tt := hy.to_
  have hn2 : n < 67108864 := by omega
  clear hy
  rcases (show k = 0 ∨ k = 1 ∨ k = 3 ∨ k = 2 by omega) with rfl | rfl | rfl | rfl
  · have hnd : nd = dt.length := by obtain ⟨_, _, _, e, ⟨⟨s, _⟩, _⟩, _⟩ := hbd; injection e with _ e _; subst e; simpa using s
    have HND := Lib.hid hnd
    have hndl : nd ≤ 1048576 := by omega
    clear hnd
    rcases find_y ys nm with ⟨hi, hf⟩ | ⟨i, y0, hi, hyi, hf⟩
    · have HI := Lib.hid hi
      have HF := Lib.hid hf
      clear hi hf
      go_enter Tryd.func55, Tryd.ntmps55
      go_upto_region 1 with (first | go_skip | go_guarded)
      have hx1 : Ext Nothing w (w.alloc (.cells #[.int .i64 0, strV nm, strV t9, .slice Ad nd cd] 85)) := Ext.auto
      have hB1 : Blk (w.alloc (.cells #[.int .i64 0, strV nm, strV t9, .slice Ad nd cd] 85)) w.heap.size 85 #[.int .i64 0, strV nm, strV t9, .slice Ad nd cd] := Blk.new _ _ _
      obtain ⟨V, hV⟩ : ∃ z, z = w.heap.size := ⟨_, rfl⟩
      have HV := Lib.hid hV
      rw [← hV] at hB1 ⊢
      clear hV
      generalize hW1 : w.alloc (.cells #[.int .i64 0, strV nm, strV t9, .slice Ad nd cd] 85) = w1 at hx1 hB1 ⊢
      clear hW1
      have h1 := h.keep0 hx1
      have hb1 := hbd.keep hx1 Off.none
      have g0 : w1.cell? ⟨V, 0, none⟩ = some (.int .i64 0) := hB1.cell 0
      have g1 : w1.cell? ⟨V, 1, none⟩ = some (strV nm) := hB1.cell 1
      have g2 : w1.cell? ⟨V, 2, none⟩ = some (strV t9) := hB1.cell 2
      have g3 : w1.cell? ⟨V, 3, none⟩ = some (.slice Ad nd cd) := hB1.cell 3
      go_upto_region 2 with (first | go_skip | go_guarded | (go_at_call 51; (with_reducible refine (rFind A n c ys nm w1 h1 hn2).mono ?_); rintro e w2 ⟨rfl, hx2⟩; (rw [HI.out])))
      have hx02 := hx1.tr hx2
      have h2 := h1.keep0 hx2
      have hb2 := hb1.keep hx2 Off.none
      have hB2 := hB1.e0 hx2
      clear h1 hb1 hB1 g0 g1 g2 g3
      have g1 : w2.cell? ⟨V, 1, none⟩ = some (strV nm) := hB2.cell 1
      have g2 : w2.cell? ⟨V, 2, none⟩ = some (strV t9) := hB2.cell 2
      have g3 : w2.cell? ⟨V, 3, none⟩ = some (.slice Ad nd cd) := hB2.cell 3
      have g0 : w2.cell? ⟨V, 0, none⟩ = some (.int .i64 0) := hB2.cell 0
      have hs2 : Sl w2 1 Ad nd (dt.map bCell) := by obtain ⟨_, _, _, e, ⟨s, _⟩, _⟩ := hb2; injection e with e1 e2 e3; subst e1 e2 e3; exact s
      have hz2 := hx02.size
      go_upto_region 8 with (first | go_skip | go_guarded | (at_builtin; refine wpList_appA rfl _ _ 29 rfl w2.heap.size SRByte (.slice none 0 0) 0 [] rfl (World.ownsRow_nil _ _ _ _) Ad nd cd _ rfl hs2 (one_bytes _) (by omega) (Nat.le_refl _) ?_; intro A5 c5 w5 hown5 hgr5; rw [Nat.zero_add] at hown5 ⊢))
      have hx5 : Ext Nothing w2 w5 := (Ext.refl _ _).grown hgr5 (fun g hg => by simp [Value.ownBlock] at hg)
      have hx05 := hx02.tr hx5
      have hF5 : FilesAt w5 (OkN w Ok) A n c ys := (h2.keep0 hx5).mono (fun _ _ e => .inl e)
      have hb5 : BytesV w5 (OkN w Ok) (.slice A5 nd c5) dt := BytesV.own (base := w2.heap.size) (by rw [← flat_bytes]; exact hown5) HND.out (fun q hq => .inr (by omega))
      have d1 : w5.cell? ⟨V, 1, none⟩ = some (strV nm) := (hB2.e0 hx5).cell 1
      clear h2 hb2 hB2 g1 g2 g3 hs2 hgr5 hown5
      go_wp2_with (first | go_skip | go_guarded | (go_at_call 63; (with_reducible refine (rWith A n c ys ((nm, dt), .slice A5 nd c5) w5 hF5 hn hb5).mono ?_); rintro e w8 ⟨v8, rfl, hv8, hx8⟩))
      go_ret
      refine ⟨_, rfl, ?_, hx05.tr hx8⟩
      unfold Dk.does
      rw [if_pos rfl, HF.out]
      exact hv8
    · obtain ⟨⟨n2, d2⟩, v2⟩ := y0
      have hm2 := List.mem_of_getElem? hyi
      have hl2 : d2.length ≤ 1048576 := hd2 _ hm2
      have hin : i < n := by rw [h.sl.len]; exact (List.getElem?_eq_some_iff.1 hyi).1
      obtain ⟨A3, n3, c3, hv3, hs3, hq3⟩ := h.data _ hm2
      have hv3 : v2 = .slice A3 n3 c3 := hv3
      subst hv3
      have hb3 : BytesV w Ok (.slice A3 n3 c3) d2 := ⟨A3, n3, c3, rfl, hs3, hq3⟩
      have hn3 : n3 = d2.length := by have := hs3.1.1; simpa using this
      have HN3 := Lib.hid hn3
      have hn3l : n3 ≤ 1048576 := by omega
      clear hs3 hq3 hn3
      have HI := Lib.hid hi
      have HF := Lib.hid hf
      clear hi hf
      go_enter Tryd.func55, Tryd.ntmps55
      go_upto_region 1 with (first | go_skip | go_guarded)
      have hx1 : Ext Nothing w (w.alloc (.cells #[.int .i64 0, strV nm, strV t9, .slice Ad nd cd] 85)) := Ext.auto
      have hB1 : Blk (w.alloc (.cells #[.int .i64 0, strV nm, strV t9, .slice Ad nd cd] 85)) w.heap.size 85 #[.int .i64 0, strV nm, strV t9, .slice Ad nd cd] := Blk.new _ _ _
      obtain ⟨V, hV⟩ : ∃ z, z = w.heap.size := ⟨_, rfl⟩
      have HV := Lib.hid hV
      rw [← hV] at hB1 ⊢
      clear hV
      generalize hW1 : w.alloc (.cells #[.int .i64 0, strV nm, strV t9, .slice Ad nd cd] 85) = w1 at hx1 hB1 ⊢
      clear hW1
      have h1 := h.keep0 hx1
      have hb1 := hbd.keep hx1 Off.none
      have g0 : w1.cell? ⟨V, 0, none⟩ = some (.int .i64 0) := hB1.cell 0
      have g1 : w1.cell? ⟨V, 1, none⟩ = some (strV nm) := hB1.cell 1
      have g2 : w1.cell? ⟨V, 2, none⟩ = some (strV t9) := hB1.cell 2
      have g3 : w1.cell? ⟨V, 3, none⟩ = some (.slice Ad nd cd) := hB1.cell 3
      go_upto_region 2 with (first | go_skip | go_guarded | (go_at_call 51; (with_reducible refine (rFind A n c ys nm w1 h1 hn2).mono ?_); rintro e w2 ⟨rfl, hx2⟩; (rw [HI.out])))
      have hx02 := hx1.tr hx2
      have h2 := h1.keep0 hx2
      have hb2 := hb1.keep hx2 Off.none
      have hB2 := hB1.e0 hx2
      clear h1 hb1 hB1 g0 g1 g2 g3
      have g1 : w2.cell? ⟨V, 1, none⟩ = some (strV nm) := hB2.cell 1
      have g2 : w2.cell? ⟨V, 2, none⟩ = some (strV t9) := hB2.cell 2
      have g3 : w2.cell? ⟨V, 3, none⟩ = some (.slice Ad nd cd) := hB2.cell 3
      have g0 : w2.cell? ⟨V, 0, none⟩ = some (.int .i64 0) := hB2.cell 0
      have hs2 : Sl w2 1 Ad nd (dt.map bCell) := by obtain ⟨_, _, _, e, ⟨s, _⟩, _⟩ := hb2; injection e with e1 e2 e3; subst e1 e2 e3; exact s
      have hz2 := hx02.size
      have hb32 := hb3.keep hx02 Off.none
      have hs3 : Sl w2 1 A3 n3 (d2.map bCell) := by obtain ⟨_, _, _, e, ⟨s, _⟩, _⟩ := hb32; injection e with e1 e2 e3; subst e1 e2 e3; exact s
      obtain ⟨hji, q, off, hAe, hce⟩ := h2.sl.get (Ext.refl _ _) hin
      have hyi2 : ys[i] = ((n2, d2), .slice A3 n3 c3) := by have := List.getElem?_eq_getElem hji; rw [this] at hyi; exact Option.some.inj hyi
      rw [hyi2] at hce
      have q1 : w2.cell? ⟨q, off + i * 2 + 1, none⟩ = some (.slice A3 n3 c3) := hce 1 _ rfl
      subst hAe
      have hk0 : (0 : Int) ≤ (i : Int) := by omega
      have hk1 : (i : Int) < n := by omega
      clear hce hyi2 hyi hb32 hb3 hm2 h hbd hji
      go_upto_region 7 with (first | go_skip | go_guarded | (at_builtin; refine wpList_appA rfl _ _ 29 rfl w2.heap.size SRByte (.slice none 0 0) 0 [] rfl (World.ownsRow_nil _ _ _ _) A3 n3 c3 _ rfl hs3 (one_bytes _) (by omega) (Nat.le_refl _) ?_; intro A4 c4 w4 hown4 hgr4; rw [Nat.zero_add] at hown4 ⊢))
      have hx4 : Ext Nothing w2 w4 := (Ext.refl _ _).grown hgr4 (fun g hg => by simp [Value.ownBlock] at hg)
      have hs4 := hs2.ext0 hx4
      have e3 : w4.cell? ⟨V, 3, none⟩ = some (.slice Ad nd cd) := (hB2.e0 hx4).cell 3
      go_upto_region 8 with (first | go_skip | go_guarded | (at_builtin; refine wpList_appA rfl _ _ 29 rfl w2.heap.size SRByte (.slice A4 n3 c4) n3 _ rfl hown4 Ad nd cd _ rfl hs4 (one_bytes _) (by omega) hx4.size ?_; intro A5 c5 w5 hown5 hgr5; skip))
      have hx5 : Ext Nothing w2 w5 := hx4.grown hgr5 (fun g hg => .inl (hown4.lt g hg).1)
      have hx05 := hx02.tr hx5
      have hF5 : FilesAt w5 (OkN w Ok) (some ⟨q, off, none⟩) n c ys := (h2.keep0 hx5).mono (fun _ _ e => .inl e)
      have hb5 : BytesV w5 (OkN w Ok) (.slice A5 (n3 + nd) c5) (d2 ++ dt) := BytesV.own (base := w2.heap.size) (by rw [List.flatMap_append, ← flat_bytes, ← flat_bytes]; exact hown5) (by rw [List.length_append, HN3.out, HND.out]) (fun q hq => .inr (by omega))
      have d1 : w5.cell? ⟨V, 1, none⟩ = some (strV nm) := (hB2.e0 hx5).cell 1
      clear h2 hb2 hB2 g1 g2 g3 hs2 hs3 hs4 e3 q1 hgr4 hgr5 hown4 hown5
      go_wp2_with (first | go_skip | go_guarded | (go_at_call 63; (with_reducible refine (rWith (some ⟨q, off, none⟩) n c ys ((nm, d2 ++ dt), .slice A5 (n3 + nd) c5) w5 hF5 hn hb5).mono ?_); rintro e w8 ⟨v8, rfl, hv8, hx8⟩))
      go_ret
      refine ⟨_, rfl, ?_, hx05.tr hx8⟩
      unfold Dk.does
      rw [if_pos rfl, HF.out]
      exact hv8
  · go_enter Tryd.func55, Tryd.ntmps55
    go_upto_region 1 with (first | go_skip | go_guarded)
    have hx1 : Ext Nothing w (w.alloc (.cells #[.int .i64 1, strV nm, strV t9, .slice Ad nd cd] 85)) := Ext.auto
    have hB1 : Blk (w.alloc (.cells #[.int .i64 1, strV nm, strV t9, .slice Ad nd cd] 85)) w.heap.size 85 #[.int .i64 1, strV nm, strV t9, .slice Ad nd cd] := Blk.new _ _ _
    obtain ⟨V, hV⟩ : ∃ z, z = w.heap.size := ⟨_, rfl⟩
    have HV := Lib.hid hV
    rw [← hV] at hB1 ⊢
    clear hV
    generalize hW1 : w.alloc (.cells #[.int .i64 1, strV nm, strV t9, .slice Ad nd cd] 85) = w1 at hx1 hB1 ⊢
    clear hW1
    have h1 := h.keep0 hx1
    have hb1 := hbd.keep hx1 Off.none
    have g0 : w1.cell? ⟨V, 0, none⟩ = some (.int .i64 1) := hB1.cell 0
    have g1 : w1.cell? ⟨V, 1, none⟩ = some (strV nm) := hB1.cell 1
    have g2 : w1.cell? ⟨V, 2, none⟩ = some (strV t9) := hB1.cell 2
    have g3 : w1.cell? ⟨V, 3, none⟩ = some (.slice Ad nd cd) := hB1.cell 3
    go_upto_region 2 with (first | go_skip | go_guarded | (go_at_call 51; (with_reducible refine (rFind A n c ys nm w1 h1 hn2).mono ?_); rintro e w2 ⟨rfl, hx2⟩))
    generalize idxI _ ys = ii
    have hx02 := hx1.tr hx2
    have h2 : FilesAt w2 (OkN w Ok) A n c ys := (h1.keep0 hx2).mono (fun _ _ e => .inl e)
    have hb2 : BytesV w2 (OkN w Ok) (.slice Ad nd cd) dt := (hb1.keep hx2 Off.none).mono (fun _ _ e => .inl e)
    have hB2 := hB1.e0 hx2
    clear h1 hb1 hB1 g0 g1 g2 g3
    have g0 : w2.cell? ⟨V, 0, none⟩ = some (.int .i64 1) := hB2.cell 0
    have g1 : w2.cell? ⟨V, 1, none⟩ = some (strV nm) := hB2.cell 1
    have g3 : w2.cell? ⟨V, 3, none⟩ = some (.slice Ad nd cd) := hB2.cell 3
    go_wp2_with (first | go_skip | go_guarded | (go_at_call 63; (with_reducible refine (rWith A n c ys ((nm, dt), .slice Ad nd cd) w2 h2 hn hb2).mono ?_); rintro e w8 ⟨v8, rfl, hv8, hx8⟩))
    go_ret
    refine ⟨_, rfl, ?_, hx02.tr hx8⟩
    unfold Dk.does
    rw [if_neg (by simp), if_pos rfl]
    exact hv8
  · rcases find_y ys nm with ⟨hi, hf⟩ | ⟨i, y0, hi, hyi, hf⟩
    · exact absurd hf (hren rfl)
    · obtain ⟨⟨n2, d2⟩, v2⟩ := y0
      have hm2 := List.mem_of_getElem? hyi
      have hin : i < n := by rw [h.sl.len]; exact (List.getElem?_eq_some_iff.1 hyi).1
      obtain ⟨A3, n3, c3, hv3, hs3, hq3⟩ := h.data _ hm2
      have hv3 : v2 = .slice A3 n3 c3 := hv3
      subst hv3
      have hb3 : BytesV w Ok (.slice A3 n3 c3) d2 := ⟨A3, n3, c3, rfl, hs3, hq3⟩
      clear hs3 hq3
      obtain rfl := hto rfl
      have HI := Lib.hid hi
      have HF := Lib.hid hf
      clear hi hf
      go_enter Tryd.func55, Tryd.ntmps55
      go_upto_region 1 with (first | go_skip | go_guarded)
      have hx1 : Ext Nothing w (w.alloc (.cells #[.int .i64 3, strV nm, strV t9, .slice Ad nd cd] 85)) := Ext.auto
      have hB1 : Blk (w.alloc (.cells #[.int .i64 3, strV nm, strV t9, .slice Ad nd cd] 85)) w.heap.size 85 #[.int .i64 3, strV nm, strV t9, .slice Ad nd cd] := Blk.new _ _ _
      obtain ⟨V, hV⟩ : ∃ z, z = w.heap.size := ⟨_, rfl⟩
      have HV := Lib.hid hV
      rw [← hV] at hB1 ⊢
      clear hV
      generalize hW1 : w.alloc (.cells #[.int .i64 3, strV nm, strV t9, .slice Ad nd cd] 85) = w1 at hx1 hB1 ⊢
      clear hW1
      have h1 := h.keep0 hx1
      have hb1 := hbd.keep hx1 Off.none
      have g0 : w1.cell? ⟨V, 0, none⟩ = some (.int .i64 3) := hB1.cell 0
      have g1 : w1.cell? ⟨V, 1, none⟩ = some (strV nm) := hB1.cell 1
      have g2 : w1.cell? ⟨V, 2, none⟩ = some (strV t9) := hB1.cell 2
      have g3 : w1.cell? ⟨V, 3, none⟩ = some (.slice Ad nd cd) := hB1.cell 3
      go_upto_region 2 with (first | go_skip | go_guarded | (go_at_call 51; (with_reducible refine (rFind A n c ys nm w1 h1 hn2).mono ?_); rintro e w2 ⟨rfl, hx2⟩; (rw [HI.out])))
      have hx02 := hx1.tr hx2
      have h2 := h1.keep0 hx2
      have hb2 := hb1.keep hx2 Off.none
      have hB2 := hB1.e0 hx2
      clear h1 hb1 hB1 g0 g1 g2 g3
      clear hren
      have g0 : w2.cell? ⟨V, 0, none⟩ = some (.int .i64 3) := hB2.cell 0
      have g1 : w2.cell? ⟨V, 1, none⟩ = some (strV nm) := hB2.cell 1
      have g2 : w2.cell? ⟨V, 2, none⟩ = some (strV t9) := hB2.cell 2
      have hb32 := hb3.keep hx02 Off.none
      obtain ⟨hji, q, off, hAe, hce⟩ := h2.sl.get (Ext.refl _ _) hin
      have hyi2 : ys[i] = ((n2, d2), .slice A3 n3 c3) := by have := List.getElem?_eq_getElem hji; rw [this] at hyi; exact Option.some.inj hyi
      rw [hyi2] at hce
      have q1 : w2.cell? ⟨q, off + i * 2 + 1, none⟩ = some (.slice A3 n3 c3) := hce 1 _ rfl
      subst hAe
      have hk0 : (0 : Int) ≤ (i : Int) := by omega
      have hk1 : (i : Int) < n := by omega
      clear hce hyi2 hyi hb3 hm2 h hbd hji
      go_upto_region 12 with (first | go_skip | go_guarded)
      have hd : Ext Nothing w2 w2.drew := (Ext.refl _ _).drew
      refine zS (S := fun W' => Ext Nothing w2 W') (by kernel_rfl) ?_
      generalize w2.drew = Wd at hd ⊢
      refine zT 0 (.pointer (some ⟨V, 2, none⟩)) rfl (by kernel_rfl) (by rfl) hd (fun _ _ _ h => h) (fun W' hS' => by go_simp) ?_
      refine zT 1 (strV t9) rfl (by kernel_rfl) (by rfl) hd (fun _ _ _ h => h) (fun W' hS' => by have q9 := hS'.cell g2 (fun e => e); go_simp) ?_
      refine zT 2 (.slice (some ⟨q, off, none⟩) n c) rfl (by kernel_rfl) (by rfl) hd (fun _ _ _ h => h) (fun W' hS' => by go_simp) ?_
      refine zT 3 (.int .i64 (i : Int)) rfl (by kernel_rfl) (by rfl) hd (fun _ _ _ h => h) (fun W' hS' => by go_simp) ?_
      refine zT 4 (.pointer (some ⟨q, off + i * 2, none⟩)) rfl (by kernel_rfl) (by rfl) hd (fun _ _ _ h => h) (fun W' hS' => by go_simp) ?_
      refine zT 5 (.pointer (some ⟨q, off + i * 2 + 1, none⟩)) rfl (by kernel_rfl) (by rfl) hd (fun _ _ _ h => h) (fun W' hS' => by go_simp) ?_
      refine zT 6 (.slice A3 n3 c3) rfl (by kernel_rfl) (by rfl) hd (fun _ _ _ h => h) (fun W' hS' => by have q9 := hS'.cell q1 (fun e => e); go_simp) ?_
      refine zT 7 (.agg #[strV t9, .slice A3 n3 c3]) rfl (by kernel_rfl) (by rfl) hd (fun _ _ _ h => h) (fun W' hS' => by go_simp) ?_
      (try simp only [Act.put, zA, zB, zC, zD, zE, zF])
      refine zO 8 (by kernel_rfl) ?_
      refine wpOp_alloc rfl (by rfl) rfl ZTFile (fun z hz => ⟨hd.alloc _, ?_⟩)
      (try simp only [Act.put, zA, zB, zC, zD, zE, zF])
      refine zO 9 (by kernel_rfl) ?_
      refine wpOp_store (p := Wd.heap.size) (cs := #[strV t9, .slice A3 n3 c3]) rfl (by rfl) rfl (by go_simp) (by go_simp) (Blk.new _ _ _) hz STFile rfl rfl (fun w4 hB4 hx4 => ?_)
      have hx24 : Ext Nothing w2 w4 := (hd.alloc _).trans hx4 (fun g hg e => absurd (show g = Wd.heap.size from e) (by have := hd.size; omega))
      refine ⟨hx24, wpAnyH_done (by kernel_rfl) ?_ _⟩
      (try simp only [Act.put, zA, zB, zC, zD, zE, zF])
      generalize Wd.heap.size = V7 at hB4 ⊢
      have hx04 := hx02.tr hx24
      have h4 := h2.keep0 hx24
      have hb4 := hb32.keep hx24 Off.none
      have d1 : w4.cell? ⟨V, 1, none⟩ = some (strV nm) := (hB2.e0 hx24).cell 1
      clear h2 hb2 hB2 g1 g2 q1 hd hx4 hb32
      go_upto_region 13 with (first | go_skip | go_guarded)
      have hd : Ext Nothing w4 w4.drew := (Ext.refl _ _).drew
      refine zS (S := fun W' => Ext Nothing w4 W') (by kernel_rfl) ?_
      generalize w4.drew = Wd at hd ⊢
      refine zT 0 (.slice (some ⟨q, off, none⟩) n c) rfl (by kernel_rfl) (by rfl) hd (fun _ _ _ h => h) (fun W' hS' => by go_simp) ?_
      refine zT 1 (.pointer (some ⟨V, 1, none⟩)) rfl (by kernel_rfl) (by rfl) hd (fun _ _ _ h => h) (fun W' hS' => by go_simp) ?_
      refine zT 2 (strV nm) rfl (by kernel_rfl) (by rfl) hd (fun _ _ _ h => h) (fun W' hS' => by have q9 := hS'.cell d1 (fun e => e); go_simp) ?_
      refine zT 4 (.agg #[strV t9, .slice A3 n3 c3]) rfl (by kernel_rfl) (by rfl) hd (fun _ _ _ h => h) (fun W' hS' => by exact run_load_struct (sz := 2) (b := V7) (off := 0) rfl STFile (by go_simp) (fun j u hu => by have h9 := (hB4.e0 hS').cell j; rw [Nat.zero_add, h9]; rw [Array.getElem?_toList] at hu; exact hu) rfl) ?_
      (try simp only [Act.put, zA, zB, zC, zD, zE, zF])
      refine zO 3 (by kernel_rfl) ?_
      refine wpOp_call rfl (by rfl) ?_ ((rWithout (some ⟨q, off, none⟩) n c ys nm Wd (h4.keep0 hd) hn2).mono ?_)
      · go_simp
      rintro e w5 ⟨v5, rfl, ho5, hx5⟩
      have hx45 := hd.tr hx5
      refine ⟨_, rfl, hx45, ?_⟩
      (try simp only [Act.put, zA, zB, zC, zD, zE, zF])
      obtain ⟨A6, c6, rfl, hF6⟩ := FilesAt.own (Ok := (OkN w Ok)) ho5 rfl (fun y hy => ((h4.data y (List.mem_filter.1 hy).1).keep hx45 Off.none).mono (fun _ _ e => .inl e))
      have hzl : (withoutY ys nm).length ≤ n := by rw [h4.sl.len]; exact List.length_filter_le _ _
      have hb5 : BytesV w5 (OkN w Ok) (.slice A3 n3 c3) d2 := (hb4.keep hx45 Off.none).mono (fun _ _ e => .inl e)
      have HWM := Lib.hid (withoutY_map ys nm)
      generalize withoutY ys nm = zs at hF6 hzl HWM ⊢
      generalize zs.length = m at hF6 hzl ⊢
      clear hb4 h4 d1 hB4 hd ho5
      refine zO 5 (by kernel_rfl) ?_
      refine wpOp_call rfl (by rfl) ?_ ((rWith A6 m c6 zs ((t9, d2), Value.slice A3 n3 c3) w5 hF6 (by omega) hb5).mono ?_)
      · go_simp
      rintro e w6 ⟨v6, rfl, hv6, hx6⟩
      have hx46 := hx45.tr hx6
      refine ⟨_, rfl, hx46, ?_⟩
      (try simp only [Act.put, zA, zB, zC, zD, zE, zF])
      refine zO 6 (by kernel_rfl) ?_
      refine wpOp_val (v := v6) rfl (by rfl) (by go_simp) ⟨hx46, wpAnyH_done (by kernel_rfl) ?_ _⟩
      (try simp only [Act.put, zA, zB, zC, zD, zE, zF])
      go_wp2
      go_ret
      refine ⟨_, rfl, ?_, hx04.tr hx46⟩
      unfold Dk.does
      rw [if_neg (by simp), if_neg (by simp), if_pos rfl]
      rw [HF.out, ← HWM.out]
      exact hv6
  · go_enter Tryd.func55, Tryd.ntmps55
    go_upto_region 1 with (first | go_skip | go_guarded)
    have hx1 : Ext Nothing w (w.alloc (.cells #[.int .i64 2, strV nm, strV t9, .slice Ad nd cd] 85)) := Ext.auto
    have hB1 : Blk (w.alloc (.cells #[.int .i64 2, strV nm, strV t9, .slice Ad nd cd] 85)) w.heap.size 85 #[.int .i64 2, strV nm, strV t9, .slice Ad nd cd] := Blk.new _ _ _
    obtain ⟨V, hV⟩ : ∃ z, z = w.heap.size := ⟨_, rfl⟩
    have HV := Lib.hid hV
    rw [← hV] at hB1 ⊢
    clear hV
    generalize hW1 : w.alloc (.cells #[.int .i64 2, strV nm, strV t9, .slice Ad nd cd] 85) = w1 at hx1 hB1 ⊢
    clear hW1
    have h1 := h.keep0 hx1
    have hb1 := hbd.keep hx1 Off.none
    have g0 : w1.cell? ⟨V, 0, none⟩ = some (.int .i64 2) := hB1.cell 0
    have g1 : w1.cell? ⟨V, 1, none⟩ = some (strV nm) := hB1.cell 1
    have g2 : w1.cell? ⟨V, 2, none⟩ = some (strV t9) := hB1.cell 2
    have g3 : w1.cell? ⟨V, 3, none⟩ = some (.slice Ad nd cd) := hB1.cell 3
    go_upto_region 2 with (first | go_skip | go_guarded | (go_at_call 51; (with_reducible refine (rFind A n c ys nm w1 h1 hn2).mono ?_); rintro e w2 ⟨rfl, hx2⟩))
    generalize idxI _ ys = ii
    have hx02 := hx1.tr hx2
    have h2 := h1.keep0 hx2
    have hB2 := hB1.e0 hx2
    clear h1 hb1 hB1 g0 g1 g2 g3
    have g0 : w2.cell? ⟨V, 0, none⟩ = some (.int .i64 2) := hB2.cell 0
    have g1 : w2.cell? ⟨V, 1, none⟩ = some (strV nm) := hB2.cell 1
    go_wp2_with (first | go_skip | go_guarded | (go_at_call 64; (with_reducible refine (rWithout A n c ys nm w2 h2 hn2).mono ?_); rintro e w8 ⟨v8, rfl, ho8, hx8⟩))
    go_ret
    refine ⟨_, rfl, ?_, hx02.tr hx8⟩
    unfold Dk.does
    rw [if_neg (by simp), if_neg (by simp), if_neg (by simp), ← withoutY_map]
    exact FilesV.own ho8 rfl (fun y hy => ((h2.data y (List.mem_filter.1 hy).1).keep hx8 Off.none).mono (fun _ _ e => .inl e))
end Go.Proofs.YtlfpfhdagkkliaaDoor
