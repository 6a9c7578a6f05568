/- Parts of the proof: RefJD -/
import Derived.Test.YtlpfcmnnmdhaoaaGreatQ10
import Derived.Test.YtlpfcmnnmdhaoaaGreatQ05
namespace Go.Proofs.YtlpfcmnnmdhaoaaGreat
set_option linter.unusedVariables false
set_option linter.unusedSimpArgs false
set_option linter.unusedSectionVars false
open Go.RowKit
set_option maxRecDepth 20000 in
set_option maxHeartbeats 4000000 in
theorem refDeploys (A0 : Option Addr) (n c0 : Nat) (l : List DepD) (x0 x1 x2 x3 : Int) (w : World) (hl : Sl w 4 A0 n (l.map DepD.cells)) (hn : l.length < 67108862) :
  Calls Tryz.prog 79 #[.slice A0 n c0, .agg #[.int .i64 x0, .int .i64 x1, .int .i64 x2, .int .i64 x3]] w fun e w' => ∃ A c, e = .returned (.slice A (Fsm.putL DepD.job ⟨x0, x1, x2, x3⟩ l).length c) ∧
   w'.ownsRow w.heap.size 97 4 (.slice A (Fsm.putL DepD.job ⟨x0, x1, x2, x3⟩ l).length c) (Fsm.putL DepD.job ⟨x0, x1, x2, x3⟩ l).length ((Fsm.putL DepD.job ⟨x0, x1, x2, x3⟩ l).flatMap DepD.cells) ∧ Ext Nothing w w' := by
 have hel := Lib.hid hl.len
 have hXW : Blk (w.alloc (.cells #[.int .i64 x0, .int .i64 x1, .int .i64 x2, .int .i64 x3] 97)) w.heap.size 97 #[.int .i64 x0, .int .i64 x1, .int .i64 x2, .int .i64 x3] := Blk.new w _ _
 have hxW : Ext Nothing w (w.alloc (.cells #[.int .i64 x0, .int .i64 x1, .int .i64 x2, .int .i64 x3] 97)) := Ext.auto
 go_enter Tryz.func79, Tryz.ntmps79
 go_wp2
 generalize (w.alloc (.cells #[.int .i64 x0, .int .i64 x1, .int .i64 x2, .int .i64 x3] 97)) = W at hXW hxW ⊢
 have hseW := hl.ext0 hxW
 have hzW := hxW.size
 generalize hbx : w.heap.size = bx at hXW ⊢
 go_loopw [5, 6, 7] (fun v7 v8 c wr => ∃ t : Nat, t ≤ n ∧ c = .int .i64 t ∧ ∃ (out : List DepD) (pb : Bool) (A : Option Addr) (cc : Nat), (l.take t).foldl (Fsm.putS DepD.job ⟨x0, x1, x2, x3⟩) ([], false) = (out, pb) ∧ out.length ≤ t + 1 ∧ v7 = .slice A out.length cc ∧ v8 = .bool pb ∧ wr.ownsRow W.heap.size 97 4 (.slice A out.length cc) out.length (out.flatMap DepD.cells) ∧ Ext Nothing W wr) (fun _ _ c _ => n - (intOf c).toNat)
 case atStart => exact ⟨0, Nat.zero_le _, rfl, [], false, none, 0, rfl, Nat.zero_le _, rfl, rfl, World.ownsRow_nil _ _ _ _, Ext.refl _ _⟩
 case round =>
  obtain ⟨t, ht, rfl, out, pb, A, cc, hz, hlen, rfl, rfl, hown, hx⟩ := hrel
  have hX := hXW.e0 hx
  have hzr := hx.size
  by_cases hlt : t < n
  ·obtain ⟨hjn, b, off, hAe, hce⟩ := hseW.get (Ext.refl Nothing W) hlt
   have hst := Fsm.putS_take (key := DepD.job) (x := ⟨x0, x1, x2, x3⟩) l t hjn
   have hlen2 := Fsm.putS_len_take (key := DepD.job) (x := ⟨x0, x1, x2, x3⟩) l (t + 1)
   rw [hst, hz] at hlen2
   rw [hz] at hst
   generalize l[t] = y at hce hst hlen2
   obtain ⟨y0, y1, y2, y3⟩ := y
   subst hAe
   have hn1 : out.length < 67108864 := by have := hel.out; omega
   have hn2 : out.length + 1 < 67108864 := by have := hel.out; omega
   have hk0 : (0 : Int) ≤ (t : Int) := by omega
   have hk1 : (t : Int) < n := by omega
   have HT := Lib.hid hlt
   have HL := Lib.hid hlen2
   have HS := Lib.hid hst
   clear hz hst hlen2 hlen
   have k0 : wr.cell? ⟨b, off + t * 4, none⟩ = some (.int .i64 y0) := hx.cell (hce 0 _ rfl) (fun e => e)
   have hxk : wr.cell? ⟨bx, 0, none⟩ = some (.int .i64 x0) := hX.cell 0
   have hceR : ∀ j u, (DepD.cells ⟨y0, y1, y2, y3⟩)[j]? = some u → wr.cell? ⟨b, off + t * 4 + j, none⟩ = some u := fun j u hu => hx.cell (hce j u hu) (fun e => e)
   cases pb with
   | true =>
    by_cases he : y0 = x0
    ·have hne : (y0 != x0) = false := by simpa using he
     go_wp2_with (first | go_skip | go_guarded)
     go_quiet (fail)
     have hd := (Ext.refl Nothing wr).drewN nq
     generalize wr.drewN nq = wq at hd ⊢
     have hx := hx.tr hd
     have hown := own_ext hown hd (fun _ _ e => e)
     have hX := hX.e0 hd
     have hzr := hx.size
     have k0 := hd.c0 k0
     have hxk := hd.c0 hxk
     have hceR : ∀ j u, (DepD.cells ⟨y0, y1, y2, y3⟩)[j]? = some u → wq.cell? ⟨b, off + t * 4 + j, none⟩ = some u := fun j u hu => hd.cell (hceR j u hu) (fun e => e)
     clear hd
     go_wp2_with (first | go_skip | go_guarded)
     go_quiet (fail)
     have hd := (Ext.refl Nothing wq).drewN nq
     generalize wq.drewN nq = wv at hd ⊢
     have hx := hx.tr hd
     have hown := own_ext hown hd (fun _ _ e => e)
     have hX := hX.e0 hd
     have hzr := hx.size
     have k0 := hd.c0 k0
     have hxk := hd.c0 hxk
     have hceR : ∀ j u, (DepD.cells ⟨y0, y1, y2, y3⟩)[j]? = some u → wv.cell? ⟨b, off + t * 4 + j, none⟩ = some u := fun j u hu => hd.cell (hceR j u hu) (fun e => e)
     clear hd
     go_wp2_with (first | go_skip | go_guarded)
     go_roundw
     case rel => exact ⟨t + 1, HT.out, by go_num, out, true, A, cc, HS.out.trans (by simp [Fsm.putS, he]), by have := HL.out; simpa [Fsm.putS, he] using this, by simp, rfl, hown, hx⟩
     case measure => have := HT.out; simp [intOf]; omega
    ·have hne : (y0 != x0) = true := by simpa using he
     go_wp2_with (first | go_skip | go_guarded)
     go_quiet (fail)
     have hd := (Ext.refl Nothing wr).drewN nq
     generalize wr.drewN nq = wq at hd ⊢
     have hx := hx.tr hd
     have hown := own_ext hown hd (fun _ _ e => e)
     have hX := hX.e0 hd
     have hzr := hx.size
     have k0 := hd.c0 k0
     have hxk := hd.c0 hxk
     have hceR : ∀ j u, (DepD.cells ⟨y0, y1, y2, y3⟩)[j]? = some u → wq.cell? ⟨b, off + t * 4 + j, none⟩ = some u := fun j u hu => hd.cell (hceR j u hu) (fun e => e)
     clear hd
     go_wp2_with (first | go_skip | go_guarded)
     go_quiet (fail)
     have hd := (Ext.refl Nothing wq).drewN nq
     generalize wq.drewN nq = wv at hd ⊢
     have hx := hx.tr hd
     have hown := own_ext hown hd (fun _ _ e => e)
     have hX := hX.e0 hd
     have hzr := hx.size
     have k0 := hd.c0 k0
     have hxk := hd.c0 hxk
     have hceR : ∀ j u, (DepD.cells ⟨y0, y1, y2, y3⟩)[j]? = some u → wv.cell? ⟨b, off + t * 4 + j, none⟩ = some u := fun j u hu => hd.cell (hceR j u hu) (fun e => e)
     clear hd
     go_wp2_with (first | go_skip | go_guarded | ((with_reducible refine isW ?_); refine wpList_load_at rfl 97 _ rfl STDeploy b (off + t * 4) rfl #[.int .i64 y0, .int .i64 y1, .int .i64 y2, .int .i64 y3] (by first | exact hce2 | exact hceR) rfl ?_) | ((with_reducible refine isW2 ?_); refine wpList_push rfl rfl 27 _ rfl _ _ rfl SRDeploy #[.int .i64 y0, .int .i64 y1, .int .i64 y2, .int .i64 y3] rfl rfl W.heap.size (.slice A out.length cc) (out.length) (out.flatMap DepD.cells) rfl rfl hown rfl hn1 hzr ?_; intro A1 c1 wa owna hxa; have hwa : Ext Nothing W wa := hx.trans hxa (fun q hq e => absurd (own_ge hown e) (by omega))))
     go_roundw
     case rel => exact ⟨t + 1, HT.out, by go_num, out ++ [⟨y0, y1, y2, y3⟩], true, A1, c1, HS.out.trans (by simp [Fsm.putS, he]), by have := HL.out; simpa [Fsm.putS, he] using this, by simp, rfl, own_snoc owna rfl rfl, hwa⟩
     case measure => have := HT.out; simp [intOf]; omega
   | false =>
    by_cases hge : x0 ≤ y0
    ·have hge2 : decide (x0 ≤ y0) = true := by simpa using hge
     by_cases he : y0 = x0
     ·have hne : (y0 != x0) = false := by simpa using he
      go_wp2_with (first | go_skip | go_guarded)
      go_quiet (fail)
      have hd := (Ext.refl Nothing wr).drewN nq
      generalize wr.drewN nq = wq at hd ⊢
      have hx := hx.tr hd
      have hown := own_ext hown hd (fun _ _ e => e)
      have hX := hX.e0 hd
      have hzr := hx.size
      have k0 := hd.c0 k0
      have hxk := hd.c0 hxk
      have hceR : ∀ j u, (DepD.cells ⟨y0, y1, y2, y3⟩)[j]? = some u → wq.cell? ⟨b, off + t * 4 + j, none⟩ = some u := fun j u hu => hd.cell (hceR j u hu) (fun e => e)
      clear hd
      go_wp2_with (first | go_skip | go_guarded | ((with_reducible refine isW ?_); refine wpList_load_blk rfl 97 _ rfl STDeploy bx rfl #[.int .i64 x0, .int .i64 x1, .int .i64 x2, .int .i64 x3] (show Blk _ _ 97 _ from by first | exact hX2 | exact hX) rfl ?_) | ((with_reducible refine isW2 ?_); refine wpList_push rfl rfl 27 _ rfl _ _ rfl SRDeploy #[.int .i64 x0, .int .i64 x1, .int .i64 x2, .int .i64 x3] rfl rfl W.heap.size (.slice A out.length cc) (out.length) (out.flatMap DepD.cells) rfl rfl hown rfl hn1 hzr ?_; intro A1 c1 wa owna hxa; have hwa : Ext Nothing W wa := hx.trans hxa (fun q hq e => absurd (own_ge hown e) (by omega)); have hX2 := hXW.e0 hwa; have hza := hwa.size; have hxk2 : wa.cell? ⟨bx, 0, none⟩ = some (.int .i64 x0) := hX2.cell 0; have k02 : wa.cell? ⟨b, off + t * 4, none⟩ = some (.int .i64 y0) := hwa.cell (hce 0 _ rfl) (fun e => e); have hce2 : ∀ j u, (DepD.cells ⟨y0, y1, y2, y3⟩)[j]? = some u → wa.cell? ⟨b, off + t * 4 + j, none⟩ = some u := fun j u hu => hwa.cell (hce j u hu) (fun e => e)))
      go_quiet (fail)
      have hd := (Ext.refl Nothing wa).drewN nq
      generalize wa.drewN nq = wv at hd ⊢
      have hwa := hwa.tr hd
      have owna := own_ext owna hd (fun _ _ e => e)
      have hX2 := hX2.e0 hd
      have hza := hwa.size
      have k02 := hd.c0 k02
      have hxk2 := hd.c0 hxk2
      have hce2 : ∀ j u, (DepD.cells ⟨y0, y1, y2, y3⟩)[j]? = some u → wv.cell? ⟨b, off + t * 4 + j, none⟩ = some u := fun j u hu => hd.cell (hce2 j u hu) (fun e => e)
      clear hd
      go_wp2_with (first | go_skip | go_guarded)
      go_roundw
      case rel => exact ⟨t + 1, HT.out, by go_num, out ++ [⟨x0, x1, x2, x3⟩], true, A1, c1, HS.out.trans (by simp [Fsm.putS, he]), by have := HL.out; simpa [Fsm.putS, he] using this, by simp, rfl, own_snoc owna rfl rfl, hwa⟩
      case measure => have := HT.out; simp [intOf]; omega
     ·have hne : (y0 != x0) = true := by simpa using he
      go_wp2_with (first | go_skip | go_guarded)
      go_quiet (fail)
      have hd := (Ext.refl Nothing wr).drewN nq
      generalize wr.drewN nq = wq at hd ⊢
      have hx := hx.tr hd
      have hown := own_ext hown hd (fun _ _ e => e)
      have hX := hX.e0 hd
      have hzr := hx.size
      have k0 := hd.c0 k0
      have hxk := hd.c0 hxk
      have hceR : ∀ j u, (DepD.cells ⟨y0, y1, y2, y3⟩)[j]? = some u → wq.cell? ⟨b, off + t * 4 + j, none⟩ = some u := fun j u hu => hd.cell (hceR j u hu) (fun e => e)
      clear hd
      go_wp2_with (first | go_skip | go_guarded | ((with_reducible refine isW ?_); refine wpList_load_blk rfl 97 _ rfl STDeploy bx rfl #[.int .i64 x0, .int .i64 x1, .int .i64 x2, .int .i64 x3] (show Blk _ _ 97 _ from by first | exact hX2 | exact hX) rfl ?_) | ((with_reducible refine isW2 ?_); refine wpList_push rfl rfl 27 _ rfl _ _ rfl SRDeploy #[.int .i64 x0, .int .i64 x1, .int .i64 x2, .int .i64 x3] rfl rfl W.heap.size (.slice A out.length cc) (out.length) (out.flatMap DepD.cells) rfl rfl hown rfl hn1 hzr ?_; intro A1 c1 wa owna hxa; have hwa : Ext Nothing W wa := hx.trans hxa (fun q hq e => absurd (own_ge hown e) (by omega)); have hX2 := hXW.e0 hwa; have hza := hwa.size; have hxk2 : wa.cell? ⟨bx, 0, none⟩ = some (.int .i64 x0) := hX2.cell 0; have k02 : wa.cell? ⟨b, off + t * 4, none⟩ = some (.int .i64 y0) := hwa.cell (hce 0 _ rfl) (fun e => e); have hce2 : ∀ j u, (DepD.cells ⟨y0, y1, y2, y3⟩)[j]? = some u → wa.cell? ⟨b, off + t * 4 + j, none⟩ = some u := fun j u hu => hwa.cell (hce j u hu) (fun e => e)))
      go_quiet (fail)
      have hd := (Ext.refl Nothing wa).drewN nq
      generalize wa.drewN nq = wv at hd ⊢
      have hwa := hwa.tr hd
      have owna := own_ext owna hd (fun _ _ e => e)
      have hX2 := hX2.e0 hd
      have hza := hwa.size
      have k02 := hd.c0 k02
      have hxk2 := hd.c0 hxk2
      have hce2 : ∀ j u, (DepD.cells ⟨y0, y1, y2, y3⟩)[j]? = some u → wv.cell? ⟨b, off + t * 4 + j, none⟩ = some u := fun j u hu => hd.cell (hce2 j u hu) (fun e => e)
      clear hd
      go_wp2_with (first | go_skip | go_guarded | ((with_reducible refine isW ?_); refine wpList_load_at rfl 97 _ rfl STDeploy b (off + t * 4) rfl #[.int .i64 y0, .int .i64 y1, .int .i64 y2, .int .i64 y3] (by first | exact hce2 | exact hceR) rfl ?_) | ((with_reducible refine isW2 ?_); refine wpList_push rfl rfl 27 _ rfl _ _ rfl SRDeploy #[.int .i64 y0, .int .i64 y1, .int .i64 y2, .int .i64 y3] rfl rfl W.heap.size (.slice A1 (out.length + 1) c1) (out.length + 1) (out.flatMap DepD.cells ++ #[.int .i64 x0, .int .i64 x1, .int .i64 x2, .int .i64 x3].toList) rfl rfl owna rfl hn2 hza ?_; intro A2 c2 wb ownb hxb))
      go_roundw
      case rel => exact ⟨t + 1, HT.out, by go_num, out ++ [⟨x0, x1, x2, x3⟩] ++ [⟨y0, y1, y2, y3⟩], true, A2, c2, HS.out.trans (by simp [Fsm.putS, he, hge]), by have := HL.out; simpa [Fsm.putS, he, hge] using this, by simp, rfl, own_snoc2 ownb rfl rfl rfl, hwa.trans hxb (fun q hq e => absurd (own_ge owna e) (by omega))⟩
      case measure => have := HT.out; simp [intOf]; omega
    ·have he : ¬ y0 = x0 := by omega
     have hne : (y0 != x0) = true := by simpa using he
     have hge2 : decide (x0 ≤ y0) = false := by simpa using hge
     have HG := Lib.hid hge
     go_wp2_with (first | go_skip | go_guarded)
     go_quiet (fail)
     have hd := (Ext.refl Nothing wr).drewN nq
     generalize wr.drewN nq = wq at hd ⊢
     have hx := hx.tr hd
     have hown := own_ext hown hd (fun _ _ e => e)
     have hX := hX.e0 hd
     have hzr := hx.size
     have k0 := hd.c0 k0
     have hxk := hd.c0 hxk
     have hceR : ∀ j u, (DepD.cells ⟨y0, y1, y2, y3⟩)[j]? = some u → wq.cell? ⟨b, off + t * 4 + j, none⟩ = some u := fun j u hu => hd.cell (hceR j u hu) (fun e => e)
     clear hd
     go_wp2_with (first | go_skip | go_guarded)
     go_quiet (fail)
     have hd := (Ext.refl Nothing wq).drewN nq
     generalize wq.drewN nq = wv at hd ⊢
     have hx := hx.tr hd
     have hown := own_ext hown hd (fun _ _ e => e)
     have hX := hX.e0 hd
     have hzr := hx.size
     have k0 := hd.c0 k0
     have hxk := hd.c0 hxk
     have hceR : ∀ j u, (DepD.cells ⟨y0, y1, y2, y3⟩)[j]? = some u → wv.cell? ⟨b, off + t * 4 + j, none⟩ = some u := fun j u hu => hd.cell (hceR j u hu) (fun e => e)
     clear hd
     go_wp2_with (first | go_skip | go_guarded | ((with_reducible refine isW ?_); refine wpList_load_at rfl 97 _ rfl STDeploy b (off + t * 4) rfl #[.int .i64 y0, .int .i64 y1, .int .i64 y2, .int .i64 y3] (by first | exact hce2 | exact hceR) rfl ?_) | ((with_reducible refine isW2 ?_); refine wpList_push rfl rfl 27 _ rfl _ _ rfl SRDeploy #[.int .i64 y0, .int .i64 y1, .int .i64 y2, .int .i64 y3] rfl rfl W.heap.size (.slice A out.length cc) (out.length) (out.flatMap DepD.cells) rfl rfl hown rfl hn1 hzr ?_; intro A1 c1 wa owna hxa; have hwa : Ext Nothing W wa := hx.trans hxa (fun q hq e => absurd (own_ge hown e) (by omega))))
     go_roundw
     case rel => exact ⟨t + 1, HT.out, by go_num, out ++ [⟨y0, y1, y2, y3⟩], false, A1, c1, HS.out.trans (by simp [Fsm.putS, he, HG.out]), by have := HL.out; simpa [Fsm.putS, he, HG.out, hge2] using this, by simp, rfl, own_snoc owna rfl rfl, hwa⟩
     case measure => have := HT.out; simp [intOf]; omega
  ·have hzz : (l.take t) = l := List.take_of_length_le (by have := hel.out; omega)
   rw [hzz] at hz
   have hfin := Fsm.put_fold (key := DepD.job) (x := ⟨x0, x1, x2, x3⟩) l []
   rw [hz, List.nil_append] at hfin
   have HF := Lib.hid hfin
   have hol : out.length < 67108864 := by have := hel.out; omega
   have hnl : ¬ ((t : Int) < n) := by omega
   clear hz hfin hzz
   cases pb with
    | true =>
     go_wp2_with (first | go_skip | go_guarded)
     go_ret
     have hF : Fsm.putL DepD.job ⟨x0, x1, x2, x3⟩ l = out := HF.out.symm
     rw [hF]
     exact ⟨A, cc, by simp, by simpa using own_base hown (by omega), hxW.tr hx⟩
    | false =>
     go_wp2_with (first | go_skip | go_guarded | ((with_reducible refine isW ?_); refine wpList_load_blk rfl 97 _ rfl STDeploy bx rfl #[.int .i64 x0, .int .i64 x1, .int .i64 x2, .int .i64 x3] (show Blk _ _ 97 _ from hX) rfl ?_) | ((with_reducible refine isW2 ?_); refine wpList_push rfl rfl 27 _ rfl _ _ rfl SRDeploy #[.int .i64 x0, .int .i64 x1, .int .i64 x2, .int .i64 x3] rfl rfl W.heap.size (.slice A out.length cc) (out.length) (out.flatMap DepD.cells) rfl rfl hown rfl hol hzr ?_; intro A1 c1 wa owna hxa))
     go_ret
     have hF : Fsm.putL DepD.job ⟨x0, x1, x2, x3⟩ l = out ++ [⟨x0, x1, x2, x3⟩] := HF.out.symm
     rw [hF]
     exact ⟨A1, c1, by simp, by simpa using own_base (own_snoc (x := (⟨x0, x1, x2, x3⟩ : DepD)) owna rfl rfl) (by omega), hxW.trans (hx.trans hxa (fun q hq e => absurd (own_ge hown e) (by omega))) (fun _ _ e => e)⟩
set_option maxRecDepth 20000 in
set_option maxHeartbeats 4000000 in
theorem refJobs (A0 : Option Addr) (n c0 : Nat) (l : List JobV) (x0 x1 x2 x3 : Int) (xg : List GroupD) (x5 : Int) (x6 : Bool) (AG : Option Addr) (nG cG : Nat) (w : World) (hl : Sl w 7 A0 n (l.map JobV.cells)) (hn : l.length < 67108862) (hv : ∀ y ∈ l, ∃ A n c, y.2 = Value.slice A n c) (hG : Sl w 3 AG nG (xg.map GroupD.cells)) (hnG : nG ≤ 1048576) :
  Calls Tryz.prog 78 #[.slice A0 n c0, .agg #[.int .i64 x0, .int .i64 x1, .int .i64 x2, .int .i64 x3, .slice AG nG cG, .int .i64 x5, .bool x6]] w fun e w' => ∃ A c AG1 cG1, e = .returned (.slice A (Fsm.putL (fun x : JobV => x.1.id) (⟨x0, x1, x2, x3, xg, x5, x6⟩, .slice AG1 nG cG1) l).length c) ∧
   w'.ownsRow w.heap.size 39 7 (.slice A (Fsm.putL (fun x : JobV => x.1.id) (⟨x0, x1, x2, x3, xg, x5, x6⟩, .slice AG1 nG cG1) l).length c) (Fsm.putL (fun x : JobV => x.1.id) (⟨x0, x1, x2, x3, xg, x5, x6⟩, .slice AG1 nG cG1) l).length ((Fsm.putL (fun x : JobV => x.1.id) (⟨x0, x1, x2, x3, xg, x5, x6⟩, .slice AG1 nG cG1) l).flatMap JobV.cells) ∧ w'.ownsRow w.heap.size 116 3 (.slice AG1 nG cG1) nG (xg.flatMap GroupD.cells) ∧ Ext Nothing w w' := by
 have hel := Lib.hid hl.len
 have hb0 : Blk (w.alloc (.cells #[.int .i64 x0, .int .i64 x1, .int .i64 x2, .int .i64 x3, .slice AG nG cG, .int .i64 x5, .bool x6] 39)) w.heap.size 39 #[.int .i64 x0, .int .i64 x1, .int .i64 x2, .int .i64 x3, .slice AG nG cG, .int .i64 x5, .bool x6] := Blk.new w _ _
 have hx0 : Ext Nothing w (w.alloc (.cells #[.int .i64 x0, .int .i64 x1, .int .i64 x2, .int .i64 x3, .slice AG nG cG, .int .i64 x5, .bool x6] 39)) := Ext.auto
 have hG2 := hG.ext0 hx0
 have HZ := Lib.hid (show (w.alloc (.cells #[.int .i64 x0, .int .i64 x1, .int .i64 x2, .int .i64 x3, .slice AG nG cG, .int .i64 x5, .bool x6] 39)).heap.size = w.heap.size + 1 from by simp)
 go_enter Tryz.func78, Tryz.ntmps78
 go_wp2_with (first | (at_builtin; refine wpList_appS rfl _ _ 37 rfl w.heap.size SRGroup (.slice none 0 0) 0 [] rfl (World.ownsRow_nil ..) AG nG cG (xg.map GroupD.cells) rfl hG2 (cellsOne (fun _ => rfl) _) (by omega) (by have := HZ.out; omega) ?_; intro AG2 cG2 w1 hown hgr; simp only [Nat.zero_add]; have hg1 := Ext.of_grown (S := Nothing) hgr (fun g e => by simp [Value.ownBlock] at e); have hb1 := hb0.e0 hg1; have q4 : w1.cell? ⟨w.heap.size, 4, none⟩ = some (.slice AG nG cG) := hb1.cell 4; have f4 : w1.frozen? ⟨w.heap.size, 4, none⟩ = false := hb1.frozen 4))
 have hXW : Blk (w1.setCell ⟨w.heap.size, 4, none⟩ (.slice AG2 nG cG2)) w.heap.size 39 #[.int .i64 x0, .int .i64 x1, .int .i64 x2, .int .i64 x3, .slice AG2 nG cG2, .int .i64 x5, .bool x6] := hb1.set_ 4 _
 have hs : Ext (fun b => b = w.heap.size) w1 (w1.setCell ⟨w.heap.size, 4, none⟩ (.slice AG2 nG cG2)) := Ext.set1 _ _ _ _
 have hxW : Ext Nothing w (w1.setCell ⟨w.heap.size, 4, none⟩ (.slice AG2 nG cG2)) := (hx0.tr hg1).trans hs (fun b hb e => absurd (show b = w.heap.size from e) (by omega))
 have hown2 : w1.ownsRow w.heap.size 116 3 (.slice AG2 nG cG2) nG (xg.flatMap GroupD.cells) := by
  have h1 : [] ++ (xg.map GroupD.cells).flatten = xg.flatMap GroupD.cells := rfl
  rw [h1, Nat.zero_add] at hown
  exact hown
 have hgo := own_ext hown2 hs (fun g hg e => own_ne hown2 hb1 (by decide) (by rw [show g = w.heap.size from e] at hg; exact hg))
 clear hb0 hx0 hG2 HZ hg1 hb1 q4 f4 hs hown hown2 hgr
 generalize (w1.setCell ⟨w.heap.size, 4, none⟩ (.slice AG2 nG cG2)) = W at hXW hxW hgo ⊢
 have hseW := hl.ext0 hxW
 have hzW := hxW.size
 generalize hbx : w.heap.size = bx at hXW ⊢
 go_loopw [6, 7, 8] (fun v7 v8 c wr => ∃ t : Nat, t ≤ n ∧ c = .int .i64 t ∧ ∃ (out : List JobV) (pb : Bool) (A : Option Addr) (cc : Nat), (l.take t).foldl (Fsm.putS (fun x : JobV => x.1.id) (⟨x0, x1, x2, x3, xg, x5, x6⟩, .slice AG2 nG cG2)) ([], false) = (out, pb) ∧ out.length ≤ t + 1 ∧ v7 = .slice A out.length cc ∧ v8 = .bool pb ∧ wr.ownsRow W.heap.size 39 7 (.slice A out.length cc) out.length (out.flatMap JobV.cells) ∧ Ext Nothing W wr) (fun _ _ c _ => n - (intOf c).toNat)
 case atStart => exact ⟨0, Nat.zero_le _, rfl, [], false, none, 0, rfl, Nat.zero_le _, rfl, rfl, World.ownsRow_nil _ _ _ _, Ext.refl _ _⟩
 case round =>
  obtain ⟨t, ht, rfl, out, pb, A, cc, hz, hlen, rfl, rfl, hown, hx⟩ := hrel
  have hX := hXW.e0 hx
  have hzr := hx.size
  by_cases hlt : t < n
  ·obtain ⟨hjn, b, off, hAe, hce⟩ := hseW.get (Ext.refl Nothing W) hlt
   have hst := Fsm.putS_take (key := (fun x : JobV => x.1.id)) (x := (⟨x0, x1, x2, x3, xg, x5, x6⟩, .slice AG2 nG cG2)) l t hjn
   have hlen2 := Fsm.putS_len_take (key := (fun x : JobV => x.1.id)) (x := (⟨x0, x1, x2, x3, xg, x5, x6⟩, .slice AG2 nG cG2)) l (t + 1)
   rw [hst, hz] at hlen2
   rw [hz] at hst
   have hyv := hv (l[t]) (List.getElem_mem hjn)
   generalize l[t] = y at hce hst hlen2 hyv
   obtain ⟨⟨y0, y1, y2, y3, yg, y5, y6⟩, yv⟩ := y
   obtain ⟨yA, yn, yc, hyv⟩ := hyv
   change yv = _ at hyv
   subst hyv
   subst hAe
   have hn1 : out.length < 67108864 := by have := hel.out; omega
   have hn2 : out.length + 1 < 67108864 := by have := hel.out; omega
   have hk0 : (0 : Int) ≤ (t : Int) := by omega
   have hk1 : (t : Int) < n := by omega
   have HT := Lib.hid hlt
   have HL := Lib.hid hlen2
   have HS := Lib.hid hst
   clear hz hst hlen2 hlen
   have k0 : wr.cell? ⟨b, off + t * 7, none⟩ = some (.int .i64 y0) := hx.cell (hce 0 _ rfl) (fun e => e)
   have hxk : wr.cell? ⟨bx, 0, none⟩ = some (.int .i64 x0) := hX.cell 0
   have hceR : ∀ j u, (JobV.cells (⟨y0, y1, y2, y3, yg, y5, y6⟩, .slice yA yn yc))[j]? = some u → wr.cell? ⟨b, off + t * 7 + j, none⟩ = some u := fun j u hu => hx.cell (hce j u hu) (fun e => e)
   cases pb with
   | true =>
    by_cases he : y0 = x0
    ·have hne : (y0 != x0) = false := by simpa using he
     go_wp2_with (first | go_skip | go_guarded)
     go_quiet (fail)
     have hd := (Ext.refl Nothing wr).drewN nq
     generalize wr.drewN nq = wq at hd ⊢
     have hx := hx.tr hd
     have hown := own_ext hown hd (fun _ _ e => e)
     have hX := hX.e0 hd
     have hzr := hx.size
     have k0 := hd.c0 k0
     have hxk := hd.c0 hxk
     have hceR : ∀ j u, (JobV.cells (⟨y0, y1, y2, y3, yg, y5, y6⟩, .slice yA yn yc))[j]? = some u → wq.cell? ⟨b, off + t * 7 + j, none⟩ = some u := fun j u hu => hd.cell (hceR j u hu) (fun e => e)
     clear hd
     go_wp2_with (first | go_skip | go_guarded)
     go_quiet (fail)
     have hd := (Ext.refl Nothing wq).drewN nq
     generalize wq.drewN nq = wv at hd ⊢
     have hx := hx.tr hd
     have hown := own_ext hown hd (fun _ _ e => e)
     have hX := hX.e0 hd
     have hzr := hx.size
     have k0 := hd.c0 k0
     have hxk := hd.c0 hxk
     have hceR : ∀ j u, (JobV.cells (⟨y0, y1, y2, y3, yg, y5, y6⟩, .slice yA yn yc))[j]? = some u → wv.cell? ⟨b, off + t * 7 + j, none⟩ = some u := fun j u hu => hd.cell (hceR j u hu) (fun e => e)
     clear hd
     go_wp2_with (first | go_skip | go_guarded)
     go_roundw
     case rel => exact ⟨t + 1, HT.out, by go_num, out, true, A, cc, HS.out.trans (by simp [Fsm.putS, he]), by have := HL.out; simpa [Fsm.putS, he] using this, by simp, rfl, hown, hx⟩
     case measure => have := HT.out; simp [intOf]; omega
    ·have hne : (y0 != x0) = true := by simpa using he
     go_wp2_with (first | go_skip | go_guarded)
     go_quiet (fail)
     have hd := (Ext.refl Nothing wr).drewN nq
     generalize wr.drewN nq = wq at hd ⊢
     have hx := hx.tr hd
     have hown := own_ext hown hd (fun _ _ e => e)
     have hX := hX.e0 hd
     have hzr := hx.size
     have k0 := hd.c0 k0
     have hxk := hd.c0 hxk
     have hceR : ∀ j u, (JobV.cells (⟨y0, y1, y2, y3, yg, y5, y6⟩, .slice yA yn yc))[j]? = some u → wq.cell? ⟨b, off + t * 7 + j, none⟩ = some u := fun j u hu => hd.cell (hceR j u hu) (fun e => e)
     clear hd
     go_wp2_with (first | go_skip | go_guarded)
     go_quiet (fail)
     have hd := (Ext.refl Nothing wq).drewN nq
     generalize wq.drewN nq = wv at hd ⊢
     have hx := hx.tr hd
     have hown := own_ext hown hd (fun _ _ e => e)
     have hX := hX.e0 hd
     have hzr := hx.size
     have k0 := hd.c0 k0
     have hxk := hd.c0 hxk
     have hceR : ∀ j u, (JobV.cells (⟨y0, y1, y2, y3, yg, y5, y6⟩, .slice yA yn yc))[j]? = some u → wv.cell? ⟨b, off + t * 7 + j, none⟩ = some u := fun j u hu => hd.cell (hceR j u hu) (fun e => e)
     clear hd
     go_wp2_with (first | go_skip | go_guarded | ((with_reducible refine isW ?_); refine wpList_load_at rfl 39 _ rfl STJob b (off + t * 7) rfl #[.int .i64 y0, .int .i64 y1, .int .i64 y2, .int .i64 y3, .slice yA yn yc, .int .i64 y5, .bool y6] (by first | exact hce2 | exact hceR) rfl ?_) | ((with_reducible refine isW2 ?_); refine wpList_push rfl rfl 23 _ rfl _ _ rfl SRJob #[.int .i64 y0, .int .i64 y1, .int .i64 y2, .int .i64 y3, .slice yA yn yc, .int .i64 y5, .bool y6] rfl rfl W.heap.size (.slice A out.length cc) (out.length) (out.flatMap JobV.cells) rfl rfl hown rfl hn1 hzr ?_; intro A1 c1 wa owna hxa; have hwa : Ext Nothing W wa := hx.trans hxa (fun q hq e => absurd (own_ge hown e) (by omega))))
     go_roundw
     case rel => exact ⟨t + 1, HT.out, by go_num, out ++ [(⟨y0, y1, y2, y3, yg, y5, y6⟩, .slice yA yn yc)], true, A1, c1, HS.out.trans (by simp [Fsm.putS, he]), by have := HL.out; simpa [Fsm.putS, he] using this, by simp, rfl, own_snoc owna rfl rfl, hwa⟩
     case measure => have := HT.out; simp [intOf]; omega
   | false =>
    by_cases hge : x0 ≤ y0
    ·have hge2 : decide (x0 ≤ y0) = true := by simpa using hge
     by_cases he : y0 = x0
     ·have hne : (y0 != x0) = false := by simpa using he
      go_wp2_with (first | go_skip | go_guarded)
      go_quiet (fail)
      have hd := (Ext.refl Nothing wr).drewN nq
      generalize wr.drewN nq = wq at hd ⊢
      have hx := hx.tr hd
      have hown := own_ext hown hd (fun _ _ e => e)
      have hX := hX.e0 hd
      have hzr := hx.size
      have k0 := hd.c0 k0
      have hxk := hd.c0 hxk
      have hceR : ∀ j u, (JobV.cells (⟨y0, y1, y2, y3, yg, y5, y6⟩, .slice yA yn yc))[j]? = some u → wq.cell? ⟨b, off + t * 7 + j, none⟩ = some u := fun j u hu => hd.cell (hceR j u hu) (fun e => e)
      clear hd
      go_wp2_with (first | go_skip | go_guarded | ((with_reducible refine isW ?_); refine wpList_load_blk rfl 39 _ rfl STJob bx rfl #[.int .i64 x0, .int .i64 x1, .int .i64 x2, .int .i64 x3, .slice AG2 nG cG2, .int .i64 x5, .bool x6] (show Blk _ _ 39 _ from by first | exact hX2 | exact hX) rfl ?_) | ((with_reducible refine isW2 ?_); refine wpList_push rfl rfl 23 _ rfl _ _ rfl SRJob #[.int .i64 x0, .int .i64 x1, .int .i64 x2, .int .i64 x3, .slice AG2 nG cG2, .int .i64 x5, .bool x6] rfl rfl W.heap.size (.slice A out.length cc) (out.length) (out.flatMap JobV.cells) rfl rfl hown rfl hn1 hzr ?_; intro A1 c1 wa owna hxa; have hwa : Ext Nothing W wa := hx.trans hxa (fun q hq e => absurd (own_ge hown e) (by omega)); have hX2 := hXW.e0 hwa; have hza := hwa.size; have hxk2 : wa.cell? ⟨bx, 0, none⟩ = some (.int .i64 x0) := hX2.cell 0; have k02 : wa.cell? ⟨b, off + t * 7, none⟩ = some (.int .i64 y0) := hwa.cell (hce 0 _ rfl) (fun e => e); have hce2 : ∀ j u, (JobV.cells (⟨y0, y1, y2, y3, yg, y5, y6⟩, .slice yA yn yc))[j]? = some u → wa.cell? ⟨b, off + t * 7 + j, none⟩ = some u := fun j u hu => hwa.cell (hce j u hu) (fun e => e)))
      go_quiet (fail)
      have hd := (Ext.refl Nothing wa).drewN nq
      generalize wa.drewN nq = wv at hd ⊢
      have hwa := hwa.tr hd
      have owna := own_ext owna hd (fun _ _ e => e)
      have hX2 := hX2.e0 hd
      have hza := hwa.size
      have k02 := hd.c0 k02
      have hxk2 := hd.c0 hxk2
      have hce2 : ∀ j u, (JobV.cells (⟨y0, y1, y2, y3, yg, y5, y6⟩, .slice yA yn yc))[j]? = some u → wv.cell? ⟨b, off + t * 7 + j, none⟩ = some u := fun j u hu => hd.cell (hce2 j u hu) (fun e => e)
      clear hd
      go_wp2_with (first | go_skip | go_guarded)
      go_roundw
      case rel => exact ⟨t + 1, HT.out, by go_num, out ++ [(⟨x0, x1, x2, x3, xg, x5, x6⟩, .slice AG2 nG cG2)], true, A1, c1, HS.out.trans (by simp [Fsm.putS, he]), by have := HL.out; simpa [Fsm.putS, he] using this, by simp, rfl, own_snoc owna rfl rfl, hwa⟩
      case measure => have := HT.out; simp [intOf]; omega
     ·have hne : (y0 != x0) = true := by simpa using he
      go_wp2_with (first | go_skip | go_guarded)
      go_quiet (fail)
      have hd := (Ext.refl Nothing wr).drewN nq
      generalize wr.drewN nq = wq at hd ⊢
      have hx := hx.tr hd
      have hown := own_ext hown hd (fun _ _ e => e)
      have hX := hX.e0 hd
      have hzr := hx.size
      have k0 := hd.c0 k0
      have hxk := hd.c0 hxk
      have hceR : ∀ j u, (JobV.cells (⟨y0, y1, y2, y3, yg, y5, y6⟩, .slice yA yn yc))[j]? = some u → wq.cell? ⟨b, off + t * 7 + j, none⟩ = some u := fun j u hu => hd.cell (hceR j u hu) (fun e => e)
      clear hd
      go_wp2_with (first | go_skip | go_guarded | ((with_reducible refine isW ?_); refine wpList_load_blk rfl 39 _ rfl STJob bx rfl #[.int .i64 x0, .int .i64 x1, .int .i64 x2, .int .i64 x3, .slice AG2 nG cG2, .int .i64 x5, .bool x6] (show Blk _ _ 39 _ from by first | exact hX2 | exact hX) rfl ?_) | ((with_reducible refine isW2 ?_); refine wpList_push rfl rfl 23 _ rfl _ _ rfl SRJob #[.int .i64 x0, .int .i64 x1, .int .i64 x2, .int .i64 x3, .slice AG2 nG cG2, .int .i64 x5, .bool x6] rfl rfl W.heap.size (.slice A out.length cc) (out.length) (out.flatMap JobV.cells) rfl rfl hown rfl hn1 hzr ?_; intro A1 c1 wa owna hxa; have hwa : Ext Nothing W wa := hx.trans hxa (fun q hq e => absurd (own_ge hown e) (by omega)); have hX2 := hXW.e0 hwa; have hza := hwa.size; have hxk2 : wa.cell? ⟨bx, 0, none⟩ = some (.int .i64 x0) := hX2.cell 0; have k02 : wa.cell? ⟨b, off + t * 7, none⟩ = some (.int .i64 y0) := hwa.cell (hce 0 _ rfl) (fun e => e); have hce2 : ∀ j u, (JobV.cells (⟨y0, y1, y2, y3, yg, y5, y6⟩, .slice yA yn yc))[j]? = some u → wa.cell? ⟨b, off + t * 7 + j, none⟩ = some u := fun j u hu => hwa.cell (hce j u hu) (fun e => e)))
      go_quiet (fail)
      have hd := (Ext.refl Nothing wa).drewN nq
      generalize wa.drewN nq = wv at hd ⊢
      have hwa := hwa.tr hd
      have owna := own_ext owna hd (fun _ _ e => e)
      have hX2 := hX2.e0 hd
      have hza := hwa.size
      have k02 := hd.c0 k02
      have hxk2 := hd.c0 hxk2
      have hce2 : ∀ j u, (JobV.cells (⟨y0, y1, y2, y3, yg, y5, y6⟩, .slice yA yn yc))[j]? = some u → wv.cell? ⟨b, off + t * 7 + j, none⟩ = some u := fun j u hu => hd.cell (hce2 j u hu) (fun e => e)
      clear hd
      go_wp2_with (first | go_skip | go_guarded | ((with_reducible refine isW ?_); refine wpList_load_at rfl 39 _ rfl STJob b (off + t * 7) rfl #[.int .i64 y0, .int .i64 y1, .int .i64 y2, .int .i64 y3, .slice yA yn yc, .int .i64 y5, .bool y6] (by first | exact hce2 | exact hceR) rfl ?_) | ((with_reducible refine isW2 ?_); refine wpList_push rfl rfl 23 _ rfl _ _ rfl SRJob #[.int .i64 y0, .int .i64 y1, .int .i64 y2, .int .i64 y3, .slice yA yn yc, .int .i64 y5, .bool y6] rfl rfl W.heap.size (.slice A1 (out.length + 1) c1) (out.length + 1) (out.flatMap JobV.cells ++ #[.int .i64 x0, .int .i64 x1, .int .i64 x2, .int .i64 x3, .slice AG2 nG cG2, .int .i64 x5, .bool x6].toList) rfl rfl owna rfl hn2 hza ?_; intro A2 c2 wb ownb hxb))
      go_roundw
      case rel => exact ⟨t + 1, HT.out, by go_num, out ++ [(⟨x0, x1, x2, x3, xg, x5, x6⟩, .slice AG2 nG cG2)] ++ [(⟨y0, y1, y2, y3, yg, y5, y6⟩, .slice yA yn yc)], true, A2, c2, HS.out.trans (by simp [Fsm.putS, he, hge]), by have := HL.out; simpa [Fsm.putS, he, hge] using this, by simp, rfl, own_snoc2 ownb rfl rfl rfl, hwa.trans hxb (fun q hq e => absurd (own_ge owna e) (by omega))⟩
      case measure => have := HT.out; simp [intOf]; omega
    ·have he : ¬ y0 = x0 := by omega
     have hne : (y0 != x0) = true := by simpa using he
     have hge2 : decide (x0 ≤ y0) = false := by simpa using hge
     have HG := Lib.hid hge
     go_wp2_with (first | go_skip | go_guarded)
     go_quiet (fail)
     have hd := (Ext.refl Nothing wr).drewN nq
     generalize wr.drewN nq = wq at hd ⊢
     have hx := hx.tr hd
     have hown := own_ext hown hd (fun _ _ e => e)
     have hX := hX.e0 hd
     have hzr := hx.size
     have k0 := hd.c0 k0
     have hxk := hd.c0 hxk
     have hceR : ∀ j u, (JobV.cells (⟨y0, y1, y2, y3, yg, y5, y6⟩, .slice yA yn yc))[j]? = some u → wq.cell? ⟨b, off + t * 7 + j, none⟩ = some u := fun j u hu => hd.cell (hceR j u hu) (fun e => e)
     clear hd
     go_wp2_with (first | go_skip | go_guarded)
     go_quiet (fail)
     have hd := (Ext.refl Nothing wq).drewN nq
     generalize wq.drewN nq = wv at hd ⊢
     have hx := hx.tr hd
     have hown := own_ext hown hd (fun _ _ e => e)
     have hX := hX.e0 hd
     have hzr := hx.size
     have k0 := hd.c0 k0
     have hxk := hd.c0 hxk
     have hceR : ∀ j u, (JobV.cells (⟨y0, y1, y2, y3, yg, y5, y6⟩, .slice yA yn yc))[j]? = some u → wv.cell? ⟨b, off + t * 7 + j, none⟩ = some u := fun j u hu => hd.cell (hceR j u hu) (fun e => e)
     clear hd
     go_wp2_with (first | go_skip | go_guarded | ((with_reducible refine isW ?_); refine wpList_load_at rfl 39 _ rfl STJob b (off + t * 7) rfl #[.int .i64 y0, .int .i64 y1, .int .i64 y2, .int .i64 y3, .slice yA yn yc, .int .i64 y5, .bool y6] (by first | exact hce2 | exact hceR) rfl ?_) | ((with_reducible refine isW2 ?_); refine wpList_push rfl rfl 23 _ rfl _ _ rfl SRJob #[.int .i64 y0, .int .i64 y1, .int .i64 y2, .int .i64 y3, .slice yA yn yc, .int .i64 y5, .bool y6] rfl rfl W.heap.size (.slice A out.length cc) (out.length) (out.flatMap JobV.cells) rfl rfl hown rfl hn1 hzr ?_; intro A1 c1 wa owna hxa; have hwa : Ext Nothing W wa := hx.trans hxa (fun q hq e => absurd (own_ge hown e) (by omega))))
     go_roundw
     case rel => exact ⟨t + 1, HT.out, by go_num, out ++ [(⟨y0, y1, y2, y3, yg, y5, y6⟩, .slice yA yn yc)], false, A1, c1, HS.out.trans (by simp [Fsm.putS, he, HG.out]), by have := HL.out; simpa [Fsm.putS, he, HG.out, hge2] using this, by simp, rfl, own_snoc owna rfl rfl, hwa⟩
     case measure => have := HT.out; simp [intOf]; omega
  ·have hzz : (l.take t) = l := List.take_of_length_le (by have := hel.out; omega)
   rw [hzz] at hz
   have hfin := Fsm.put_fold (key := (fun x : JobV => x.1.id)) (x := (⟨x0, x1, x2, x3, xg, x5, x6⟩, .slice AG2 nG cG2)) l []
   rw [hz, List.nil_append] at hfin
   have HF := Lib.hid hfin
   have hol : out.length < 67108864 := by have := hel.out; omega
   have hnl : ¬ ((t : Int) < n) := by omega
   clear hz hfin hzz
   cases pb with
    | true =>
     go_wp2_with (first | go_skip | go_guarded)
     go_ret
     have hF : (Fsm.putL (fun x : JobV => x.1.id) (⟨x0, x1, x2, x3, xg, x5, x6⟩, .slice AG2 nG cG2) l) = out := HF.out.symm
     have hxe := hx
     refine ⟨A, cc, AG2, cG2, ?_⟩
     rw [hF]
     exact ⟨by simp, by simpa using own_base hown (by omega), hbx ▸ own_ext hgo hxe (fun _ _ e => e), hxW.tr hxe⟩
    | false =>
     go_wp2_with (first | go_skip | go_guarded | ((with_reducible refine isW ?_); refine wpList_load_blk rfl 39 _ rfl STJob bx rfl #[.int .i64 x0, .int .i64 x1, .int .i64 x2, .int .i64 x3, .slice AG2 nG cG2, .int .i64 x5, .bool x6] (show Blk _ _ 39 _ from hX) rfl ?_) | ((with_reducible refine isW2 ?_); refine wpList_push rfl rfl 23 _ rfl _ _ rfl SRJob #[.int .i64 x0, .int .i64 x1, .int .i64 x2, .int .i64 x3, .slice AG2 nG cG2, .int .i64 x5, .bool x6] rfl rfl W.heap.size (.slice A out.length cc) (out.length) (out.flatMap JobV.cells) rfl rfl hown rfl hol hzr ?_; intro A1 c1 wa owna hxa))
     go_ret
     have hF : (Fsm.putL (fun x : JobV => x.1.id) (⟨x0, x1, x2, x3, xg, x5, x6⟩, .slice AG2 nG cG2) l) = out ++ [(⟨x0, x1, x2, x3, xg, x5, x6⟩, .slice AG2 nG cG2)] := HF.out.symm
     have hxe := (hx.trans hxa (fun q hq e => absurd (own_ge hown e) (by omega)))
     refine ⟨A1, c1, AG2, cG2, ?_⟩
     rw [hF]
     exact ⟨by simp, by simpa using own_base (own_snoc (x := ((⟨x0, x1, x2, x3, xg, x5, x6⟩, .slice AG2 nG cG2) : JobV)) owna rfl rfl) (by omega), hbx ▸ own_ext hgo hxe (fun _ _ e => e), hxW.tr hxe⟩
end Go.Proofs.YtlpfcmnnmdhaoaaGreat
