/- The disk's Crash. -/
import Derived.Test.YtockcifkphfnlaaGreatDoorAk14
import Derived.Test.YtockcifkphfnlaaGreatDoorAkC
namespace Go.Proofs.YtockcifkphfnlaaGreatDoor
set_option linter.unusedVariables false
set_option linter.unusedSimpArgs false
open Go.RowKit
open Go.Maps Go.WideMaps
variable {M : Nat → Prop}

theorem DeedV.isFn {w : World} {Ok : Nat → Prop} {v : Value} {x : Dk.DidD} (h : DeedV w Ok v x) : ∃ f caps, v = .func (.func f) #[] caps := by
  obtain ⟨_, _, _, _, h, _⟩ := h
  exact ⟨_, _, h⟩
theorem deed_ok {x : Dk.DidD} (h : Dk.DidOk x) : DeedOk x := ⟨by have h9 := h.name; unfold Dk.nameOk at h9; simp only [Bool.and_eq_true, decide_eq_true_eq] at h9; have := h9.2.2; unfold maxLen; omega, by
  by_cases hk : x.kind = 3
  · have h9 := h.to_ hk; unfold Dk.nameOk at h9; simp only [Bool.and_eq_true, decide_eq_true_eq] at h9; have := h9.2.2; unfold maxLen; omega
  · exact h.tl hk, h.data⟩
/-- the disk while a crash goes through its deeds: the durable files are F -/
structure CrashAt (w : World) (Ok : Nat → Prop) (b bd bn : Nat) (A : Option Addr) (n c : Nat) (L : Int) (ct : Bool) (ys : List DeedC) (F : Dk.Files) : Prop where
  blk : Blk w b 90 #[.map (some bd), .map (some bn), .slice A n c, .bool ct, .int .i64 L]
  dur : FM w Ok bd F
  own : w.ownsRow b 103 2 (.slice A n c) n (ys.flatMap DeedC.cells)
  deeds : ∀ y ∈ ys, DeedV w Ok y.2 y.1
theorem CrashAt.keep0 {w w' : World} {Ok : Nat → Prop} {b bd bn n c : Nat} {A : Option Addr} {L : Int} {ct : Bool} {ys : List DeedC} {F : Dk.Files} (h : CrashAt w Ok b bd bn A n c L ct ys F) (hx : Ext Nothing w w') : CrashAt w' Ok b bd bn A n c L ct ys F :=
  ⟨h.blk.e0 hx, h.dur.keep hx (fun e => e) Off.none, own_ext h.own hx (fun _ _ e => e), fun y hy => (h.deeds y hy).keep hx Off.none Box.none⟩
theorem CrashAt.step {w w' : World} {Ok Ok' : Nat → Prop} {b bd bn n c : Nat} {A : Option Addr} {L : Int} {ct : Bool} {ys : List DeedC} {F F' : Dk.Files} (h : CrashAt w Ok b bd bn A n c L ct ys F) (hx : Ext (fun g => g = bd) w w') (hF : FM w' Ok' bd F') (hok : ∀ g, g < w'.heap.size → Ok' g → Ok g) : CrashAt w' Ok b bd bn A n c L ct ys F' :=
  ⟨h.blk.ext hx (fun e => h.dur.ne h.blk e.symm), hF.mono hok, own_ext h.own hx (fun g hg e => own_fm h.own h.dur (by rw [hg, show g = bd from e])), fun y hy => (h.deeds y hy).keep hx (map_off h.dur) (map_box h.dur)⟩
set_option maxRecDepth 20000 in
set_option maxHeartbeats 16000000 in
theorem dkCrash {Ok : Nat → Prop} {b : Nat} {d : Dk.DiskD} (k : Int) (w : World) (h : DiskIs M w Ok b d) (hg : Dk.Good d) (hdn : d.done.length < 67108864) (hk : In64 k) (hMM : ∀ q, M q → q < w.heap.size) :
    Calls Tryz.prog 19 #[.pointer (some ⟨b, 0, none⟩), .int .i64 k] w fun e w' => e = .returned (.tuple #[]) ∧ DiskIs M w' (OkN w Ok) b (d.crash k) ∧ Ext (DkB M b w) w w' := by
  obtain ⟨bd, bn, A, n, c, L, ys, h⟩ := h.out
  have hsl : Sl w 2 A n (ys.map DeedC.cells) := Sl.of_own (f := DeedC.cells) (sz := 2) (fun _ => rfl) (by have := h.own; exact this) h.len
  have k2 : w.cell? ⟨b, 2, none⟩ = some (.slice A n c) := h.blk.cell 2
  have hnd : n = d.done.length := by rw [h.len, ← h.data, List.length_map]
  have HND := Lib.hid hnd
  have hn : n < 67108864 := by omega
  have HAU := Lib.hid (Dk.allUnits_le hg.did)
  clear hnd
  go_enter Tryz.func19, Tryz.ntmps19
  go_upto_region 2 with (first | go_skip | go_guarded)
  go_loopw [4, 15] (fun v4 ki wr => ∃ t : Nat, t ≤ n ∧ ki = .int .i64 t ∧ v4 = .int .i64 ((1 + Dk.allUnits (d.done.take t) : Nat) : Int) ∧ Ext Nothing w wr) (fun _ ki _ => n - (intOf ki).toNat)
  case atStart => exact ⟨0, Nat.zero_le _, rfl, rfl, Ext.refl _ _⟩
  case round =>
    obtain ⟨t, ht, rfl, rfl, hx⟩ := hrel
    by_cases hlt : t < n
    · obtain ⟨hjn, q, off, hAe, hce⟩ := hsl.get hx hlt
      have hyd : d.done[t]? = some ys[t].1 := by rw [← h.data, List.getElem?_map, List.getElem?_eq_getElem hjn]; rfl
      have HU := Lib.hid (Dk.units_take hyd)
      have HM := Lib.hid (Dk.units_mono d.done (t + 1))
      have hfn := (h.deeds _ (List.getElem_mem hjn)).isFn
      generalize ys[t] = y at hce hyd HU hfn
      obtain ⟨x, v⟩ := y
      subst hAe
      obtain ⟨f, caps, hfn⟩ := hfn
      have hfn : v = .func (.func f) #[] caps := hfn
      subst hfn
      have hce : ∀ j u, (#[.int .i64 (Dk.units x : Int), .func (.func f) #[] caps] : Array Value).toList[j]? = some u → wr.cell? ⟨q, off + t * 2 + j, none⟩ = some u := hce
      have hk0 : (0 : Int) ≤ (t : Int) := by omega
      have hk1 : (t : Int) < n := by omega
      have HT := Lib.hid hlt
      have hsum : (1 + Dk.allUnits (d.done.take t) : Nat) + Dk.units x ≤ 1099511627776000 := by have h1 := HU.out; have h2 := HM.out; have h3 := HAU.out; simp only at h1; omega
      have HUS := Lib.hid (show (1 + Dk.allUnits (d.done.take (t + 1)) : Nat) = (1 + Dk.allUnits (d.done.take t) : Nat) + Dk.units x by have h1 := HU.out; simp only at h1; omega)
      generalize (1 + Dk.allUnits (d.done.take t) : Nat) = m at hsum HUS ⊢
      clear hlt hyd
      go_wp2_with (first | go_skip | go_guarded | ((with_reducible refine dW ?_); refine wpList_load_at rfl 103 _ rfl STDeed q (off + t * 2) rfl #[.int .i64 (Dk.units x : Int), .func (.func f) #[] caps] hce rfl ?_) | ((with_reducible refine dW ?_); refine wpList_store_blk rfl 103 _ _ rfl STDeed wr.heap.size rfl #[.int .i64 (Dk.units x : Int), .func (.func f) #[] caps] rfl (show Blk _ _ 103 _ from Blk.new wr _ _) rfl rfl rfl ?_; intro w2 hB2 hx2; have c0 : w2.cell? ⟨wr.heap.size, 0, none⟩ = some (.int .i64 (Dk.units x : Int)) := hB2.cell 0))
      have hx3 : Ext Nothing wr w2 := (show Ext Nothing wr _ from Ext.auto).trans hx2 (fun g hg e => absurd (show g = wr.heap.size from e) (by omega))
      go_roundw
      case rel => exact ⟨t + 1, HT.out, by go_num, by rw [HUS.out]; push_cast; rfl, hx.tr hx3⟩
      case measure => have := HT.out; simp [intOf]; omega
    · have hnl : ¬ ((t : Int) < n) := by omega
      have HE := Lib.hid (show Dk.allUnits (d.done.take t) = Dk.allUnits d.done by rw [List.take_of_length_le (by have := HND.out; omega)])
      rw [HE.out]
      have HP := Lib.hid (Dk.pick_le d k)
      have hgo := Dk.pick_go k (1 + Dk.allUnits d.done) (by omega)
      have hpk : k % ((1 + Dk.allUnits d.done : Nat) : Int) = (Dk.pick d k : Int) := by
        unfold Dk.pick
        have h1 := Int.emod_nonneg k (b := (Dk.allUnits d.done : Int) + 1) (by omega)
        rw [show (((1 + Dk.allUnits d.done : Nat)) : Int) = (Dk.allUnits d.done : Int) + 1 by omega]
        omega
      have hpos : 0 < 1 + Dk.allUnits d.done := by omega
      have hmx : (1 + Dk.allUnits d.done : Nat) ≤ 1099511627776000 := by have := HAU.out; omega
      have hpb : Dk.pick d k ≤ 1099511627776 * 1024 := by have := HP.out; omega
      generalize (1 + Dk.allUnits d.done : Nat) = m at hgo hpk hpos hmx ⊢
      rw [hpk] at hgo
      generalize hp0 : Dk.pick d k = p0 at hgo hpb
      have HP0 := Lib.hid hp0
      clear hp0 hpk HE
      go_upto_region 6 with (first | go_skip | go_guarded)
      have hm0 : ((m : Int) == 0) = false := by simp; omega
      go_upto_region 7 with (first | go_skip | go_guarded)
      have hkm : wrap64 (k.tmod (m : Int) + (m : Int)) = k.tmod (m : Int) + (m : Int) := by have h1 := Int.lt_tmod_of_pos k (b := (m : Int)) (by omega); have h2 := Int.tmod_lt_of_pos k (b := (m : Int)) (by omega); unfold wrap64; omega
      rw [hkm, hgo]
      have HL := Lib.hid (And.intro h.l0 h.l1)
      have HNE2 := Lib.hid h.ne
      have hsz0 := hx.size
      have hI0 : CrashAt wr (OkN w Ok) b bd bn A n c L (decide (0 ≤ d.left)) ys d.dur := ⟨h.blk.e0 hx, (h.dur.keep hx (fun e => e) Off.none).mono (fun _ _ hg => .inl hg), own_ext h.own hx (fun _ _ e => e), fun y hy => ((h.deeds y hy).keep hx Off.none Box.none).mono (fun _ _ hg => .inl hg)⟩
      have hK0 : Ext (DkB M b w) w wr := hx.mono (fun _ _ e => e.elim)
      have hM0 := Dk.mid_zero hg p0
      have HDA := Lib.hid h.data
      have HLN := Lib.hid h.len
      have j2 : wr.cell? ⟨b, 2, none⟩ = some (.slice A n c) := hI0.blk.cell 2
      clear hkm hgo hnl ht hlt hpos hmx hm0 hsl k2
      obtain ⟨w1, rfl⟩ : ∃ z : World, z = wr := ⟨_, rfl⟩
      go_upto_region 8 with (first | go_skip | go_guarded)
      clear j2
      go_loopw [7, 36] (fun v7 ki wr => ∃ t : Nat, t ≤ n ∧ ki = .int .i64 t ∧ ∃ p F, v7 = .int .i64 ((p : Nat) : Int) ∧ p ≤ p0 ∧ Dk.Mid d p0 t F p ∧ CrashAt wr (OkN w Ok) b bd bn A n c L (decide (0 ≤ d.left)) ys F ∧ Ext (DkB M b w) w wr ∧ w.heap.size ≤ wr.heap.size) (fun _ ki _ => n - (intOf ki).toNat)
      case atStart => exact ⟨0, Nat.zero_le _, rfl, p0, d.dur, rfl, Nat.le_refl _, hM0, hI0, hK0, hsz0⟩
      case round =>
        clear hM0 hI0 hK0 hsz0 hx
        obtain ⟨t, ht, rfl, p, F, rfl, hpp, hM, hI, hK, hsz⟩ := hrel
        by_cases hlt : t < n
        · have hsl : Sl wr 2 A n (ys.map DeedC.cells) := Sl.of_own (f := DeedC.cells) (sz := 2) (fun _ => rfl) (by have := hI.own; exact this) HLN.out
          obtain ⟨hjn, q, off, hAe, hce⟩ := hsl.get (Ext.refl _ _) hlt
          have hyd : d.done[t]? = some ys[t].1 := by rw [← HDA.out, List.getElem?_map, List.getElem?_eq_getElem hjn]; rfl
          have hdv := hI.deeds _ (List.getElem_mem hjn)
          have hfn := hdv.isFn
          generalize ys[t] = y at hce hyd hfn hdv
          obtain ⟨x, v⟩ := y
          subst hAe
          obtain ⟨f, caps, hfn⟩ := hfn
          have hfn : v = .func (.func f) #[] caps := hfn
          subst hfn
          have hdv : DeedV wr (OkN w Ok) (.func (.func f) #[] caps) x := hdv
          have hyd : d.done[t]? = some x := hyd
          have hce : ∀ j u, (#[.int .i64 (Dk.units x : Int), .func (.func f) #[] caps] : Array Value).toList[j]? = some u → wr.cell? ⟨q, off + t * 2 + j, none⟩ = some u := hce
          have hk0 : (0 : Int) ≤ (t : Int) := by omega
          have hk1 : (t : Int) < n := by omega
          have HT := Lib.hid hlt
          have HYD := Lib.hid hyd
          clear hlt hyd hsl
          have HQ := Lib.hid (show ∀ j u, (#[.int .i64 (Dk.units x : Int), .func (.func f) #[] caps] : Array Value).toList[j]? = some u → wr.cell? ⟨q, off + t * 2 + j, none⟩ = some u from hce)
          clear hce
          go_upto_region 10 with (first | go_skip | go_guarded | ((with_reducible refine dW ?_); refine wpList_load_at rfl 103 _ rfl STDeed q (off + t * 2) rfl #[.int .i64 (Dk.units x : Int), .func (.func f) #[] caps] HQ.out rfl ?_) | ((with_reducible refine dW ?_); refine wpList_store_blk rfl 103 _ _ rfl STDeed wr.heap.size rfl #[.int .i64 (Dk.units x : Int), .func (.func f) #[] caps] rfl (show Blk _ _ 103 _ from Blk.new wr _ _) rfl rfl rfl ?_; intro w2 hB2 hx2))
          go_frame
          have hx3 : Ext Nothing wr w2 := (show Ext Nothing wr _ from Ext.auto).trans hx2 (fun g hg e => absurd (show g = wr.heap.size from e) (by omega))
          have hI2 := hI.keep0 hx3
          have hdv2 := hdv.keep hx3 Off.none Box.none
          have hK2 : Ext (DkB M b w) w w2 := hK.t0 hx3
          have hsz2 : w.heap.size ≤ w2.heap.size := by have := hx3.size; omega
          generalize wr.heap.size = V at hB2 ⊢
          clear hI hdv hK hx2 hx3 hsz HQ
          cases hz : ((p : Int) == 0) with
          | true =>
            obtain rfl : p = 0 := by simp at hz; omega
            clear hz hk0 hk1
            have HF := Lib.hid (Dk.mid_end hM (.inl rfl))
            have k0 : w2.cell? ⟨b, 0, none⟩ = some (.map (some bd)) := hI2.blk.cell 0
            go_upto_region 14 with (first | go_skip | go_guarded)
            go_wp2_with (first | go_skip | go_guarded | (go_at_call 28; (with_reducible refine (mapsClone w2 hI2.dur).mono ?_); rintro e w3 ⟨rfl, hF3, hx3⟩; have h3 := hI2.keep0 hx3; have k1 : w3.cell? ⟨b, 1, none⟩ = some (.map (some bn)) := h3.blk.cell 1; have f1 : w3.frozen? ⟨b, 1, none⟩ = false := h3.blk.frozen 1; have k2 : w3.cell? ⟨b, 2, none⟩ = some (.slice (some ⟨q, off, none⟩) n c) := h3.blk.cell 2; have f2 : w3.frozen? ⟨b, 2, none⟩ = false := h3.blk.frozen 2; have k3 : w3.cell? ⟨b, 3, none⟩ = some (.bool (decide (0 ≤ d.left))) := h3.blk.cell 3; have f3 : w3.frozen? ⟨b, 3, none⟩ = false := h3.blk.frozen 3))
            go_end0
            have hx4 : Ext (fun q => q = b) w3 (((w3.setCell ⟨b, 1, none⟩ (.map (some w2.heap.size))).setCell ⟨b, 2, none⟩ (.slice none 0 0)).setCell ⟨b, 3, none⟩ (.bool false)) := ((Ext.set1 w3 b 1 _).trans (Ext.set1 _ b 2 _) (fun _ _ e => e)).trans (Ext.set1 _ b 3 _) (fun _ _ e => e)
            have hB4 := ((h3.blk.set_ 1 (.map (some w2.heap.size))).set_ 2 (.slice none 0 0)).set_ 3 (.bool false)
            have hoff : Off w3 (fun q => q = b) (OkN w Ok) := fun q cs e hq => by subst e; exact absurd rfl (Blk.ne h3.blk hq (by decide))
            have hD3 := (h3.dur.keep hx4 (fun e => h3.dur.ne h3.blk e) hoff)
            have hN3 := (hF3.keep hx4 (fun e => hF3.ne h3.blk e) hoff)
            refine ⟨rfl, ⟨bd, w2.heap.size, none, 0, 0, L, [], ⟨hB4, fun h9 => absurd h9 (by simp [Dk.DiskD.crash]), HL.out.1, HL.out.2, ?_, ?_, ⟨by have := hI2.dur.lt; omega, HNE2.out.2.1, by have := hI2.blk.lt; omega, HNE2.out.2.2.2.1, fun e => by have := hMM _ e; omega⟩, World.ownsRow_nil _ _ _ _, rfl, rfl, by simp⟩⟩, DkB.trans hK2 (((hx3.mono (fun _ _ e => e.elim) : Ext (DkB M b w2) w2 w3)).trans hx4 (fun g hg e => by have e : g = b := e; subst e; exact ⟨by omega, .inl ⟨_, hI2.blk⟩⟩))⟩
            · show FM _ _ bd (Dk.torn d.dur d.done (Dk.pick d k)); rw [HP0.out, HF.out]; exact hD3
            · show FM _ _ _ (Dk.torn d.dur d.done (Dk.pick d k)); rw [HP0.out, HF.out]; exact hN3
          | false =>
            have hpos : 0 < p := by simp at hz; omega
            have HPOS := Lib.hid hpos
            have HM := Lib.hid hM
            have hfo := hM.ok
            clear hpos hM
            have c0 : w2.cell? ⟨V, 0, none⟩ = some (.int .i64 (Dk.units x : Int)) := hB2.cell 0
            have c1 : w2.cell? ⟨V, 1, none⟩ = some (.func (.func f) #[] caps) := hB2.cell 1
            have k0 : w2.cell? ⟨b, 0, none⟩ = some (.map (some bd)) := hI2.blk.cell 0
            have hxd := hg.did x (List.mem_of_getElem? HYD.out)
            have hok : DeedOk x := deed_ok hxd
            have hub := Dk.units_le hxd
            obtain ⟨u, hu⟩ : ∃ u, u = Dk.units x := ⟨_, rfl⟩
            rw [← hu] at c0 hub hB2
            have HU := Lib.hid hu
            clear hu
            obtain ⟨mi, hmi⟩ : ∃ z, z = min p u := ⟨_, rfl⟩
            have hmin : min (p : Int) (u : Int) = (mi : Int) := by omega
            have hmp : mi ≤ p := by omega
            have hmu : mi ≤ 1048576 := by omega
            have HMI := Lib.hid hmi
            clear hmi
            go_upto_region 11 with (first | go_skip | go_guarded)
            refine zH (S := fun g => g = bd) (by kernel_rfl) (fun Wd hS hd => ?_)
            have hVb : V ≠ bd := fun e => hI2.dur.ne hB2 e.symm
            have hbb : b ≠ bd := fun e => hI2.dur.ne hI2.blk e.symm
            refine zT 0 (.pointer (some ⟨V, 1, none⟩)) rfl (by kernel_rfl) (by rfl) hS (fun _ _ _ h => h) (fun W' hS' => by go_simp) ?_
            refine zT 1 (.func (.func f) #[] caps) rfl (by kernel_rfl) (by rfl) hS (fun _ _ _ h => h) (fun W' hS' => by have q9 := hS'.cell c1 (fun e => hVb e); go_simp) ?_
            refine zT 2 (.pointer (some ⟨b, 0, none⟩)) rfl (by kernel_rfl) (by rfl) hS (fun _ _ _ h => h) (fun W' hS' => by go_simp) ?_
            refine zT 3 (.pointer (some ⟨b, 0, none⟩)) rfl (by kernel_rfl) (by rfl) hS (fun _ _ _ h => h) (fun W' hS' => by go_simp) ?_
            refine zT 4 (.pointer (some ⟨b, 0, none⟩)) rfl (by kernel_rfl) (by rfl) hS (fun _ _ _ h => h) (fun W' hS' => by go_simp) ?_
            refine zT 5 (.map (some bd)) rfl (by kernel_rfl) (by rfl) hS (fun _ _ _ h => h) (fun W' hS' => by have q9 := hS'.cell k0 (fun e => hbb e); go_simp) ?_
            refine zT 6 (.int .i64 (p : Int)) rfl (by kernel_rfl) (by rfl) hS (fun _ _ _ h => h) (fun W' hS' => by go_simp) ?_
            refine zT 7 (.pointer (some ⟨V, 0, none⟩)) rfl (by kernel_rfl) (by rfl) hS (fun _ _ _ h => h) (fun W' hS' => by go_simp) ?_
            refine zT 8 (.int .i64 (u : Int)) rfl (by kernel_rfl) (by rfl) hS (fun _ _ _ h => h) (fun W' hS' => by have q9 := hS'.cell c0 (fun e => hVb e); go_simp) ?_
            refine zT 9 (.int .i64 (mi : Int)) rfl (by kernel_rfl) (by rfl) hS (fun _ _ _ h => h) (fun W' hS' => by go_simp) ?_
            (try simp only [Act.put, zA, zB, zC, zD, zE, zF])
            refine zO 10 (by kernel_rfl) ?_
            obtain ⟨f2, caps2, e2, hent, hrun⟩ := deed_fn (hdv2.keep hd Off.none Box.none) hok
            injection e2 with e3 _ e4
            injection e3 with e3
            subst e3
            subst e4
            have hcall := hrun bd F mi (hI2.dur.keep hd (fun e => e) Off.none) hfo.asc (by omega) (Dk.find_len hfo)
            refine wpOp_call rfl (by rfl) ?_ (hcall.mono ?_)
            · go_simp
            rintro e w4 ⟨rfl, hF4, hx4⟩
            have hI4 := (hI2.keep0 hd).step hx4 hF4 (fun g _ hg9 => by rcases hg9 with hg9 | hg9; (exact hg9); exact .inr (by have := hd.size; omega))
            have hB4 := (hB2.e0 hd).ext hx4 (fun e => hVb e)
            have hK4 : Ext (DkB M b w) w w4 := DkB.trans hK2 ((hd.mono (fun _ _ e => e.elim) : Ext (DkB M b w2) w2 Wd).trans hx4 (fun g hg e => by have e : g = bd := e; subst e; obtain ⟨Ln, e2, _⟩ := hI2.dur.out; obtain ⟨es2, ck2, m2, _⟩ := e2; exact ⟨HNE2.out.2.1, .inr (.inr ⟨⟨_, _, m2⟩, HNE2.out.2.2.2.1⟩)⟩))
            have hsz4 : w.heap.size ≤ w4.heap.size := by have h1 := hd.size; have h2 := hx4.size; omega
            refine ⟨_, rfl, hS.trans hx4 (fun g _ e => e), wpAnyH_done (by kernel_rfl) ?_ _⟩
            (try simp only [Act.put, zA, zB, zC, zD, zE, zF])
            have c4 : w4.cell? ⟨V, 0, none⟩ = some (.int .i64 (u : Int)) := hB4.cell 0
            clear hI2 hdv2 hK2 hsz2 hB2 c0 c1 k0 hd hS hx4 hF4 hcall hrun hent
            have hsub : (p : Int) - (mi : Int) = ((p - mi : Nat) : Int) := by omega
            have HSB := Lib.hid hsub
            clear hsub
            go_wp2
            go_roundw
            case rel => exact ⟨t + 1, HT.out, by go_num, p - mi, _, by rw [← HSB.out], by omega, by have h9 := Dk.mid_step hg HM.out HYD.out HPOS.out; rw [← HU.out, ← HMI.out] at h9; exact h9, hI4, hK4, hsz4⟩
            case measure => have := HT.out; simp [intOf]; omega
        · have hnl : ¬ ((t : Int) < n) := by omega
          have HE := Lib.hid (Dk.mid_end hM (.inr (by have h1 := HND.out; omega)))
          clear hM
          have HF := Lib.hid (HE.out)
          have k0 : wr.cell? ⟨b, 0, none⟩ = some (.map (some bd)) := hI.blk.cell 0
          go_upto_region 14 with (first | go_skip | go_guarded)
          go_wp2_with (first | go_skip | go_guarded | (go_at_call 28; (with_reducible refine (mapsClone wr hI.dur).mono ?_); rintro e w3 ⟨rfl, hF3, hx3⟩; have h3 := hI.keep0 hx3; have k1 : w3.cell? ⟨b, 1, none⟩ = some (.map (some bn)) := h3.blk.cell 1; have f1 : w3.frozen? ⟨b, 1, none⟩ = false := h3.blk.frozen 1; have k2 : w3.cell? ⟨b, 2, none⟩ = some (.slice A n c) := h3.blk.cell 2; have f2 : w3.frozen? ⟨b, 2, none⟩ = false := h3.blk.frozen 2; have k3 : w3.cell? ⟨b, 3, none⟩ = some (.bool (decide (0 ≤ d.left))) := h3.blk.cell 3; have f3 : w3.frozen? ⟨b, 3, none⟩ = false := h3.blk.frozen 3))
          go_end0
          have hx4 : Ext (fun q => q = b) w3 (((w3.setCell ⟨b, 1, none⟩ (.map (some wr.heap.size))).setCell ⟨b, 2, none⟩ (.slice none 0 0)).setCell ⟨b, 3, none⟩ (.bool false)) := ((Ext.set1 w3 b 1 _).trans (Ext.set1 _ b 2 _) (fun _ _ e => e)).trans (Ext.set1 _ b 3 _) (fun _ _ e => e)
          have hB4 := ((h3.blk.set_ 1 (.map (some wr.heap.size))).set_ 2 (.slice none 0 0)).set_ 3 (.bool false)
          have hoff : Off w3 (fun q => q = b) (OkN w Ok) := fun q cs e hq => by subst e; exact absurd rfl (Blk.ne h3.blk hq (by decide))
          have hD3 := (h3.dur.keep hx4 (fun e => h3.dur.ne h3.blk e) hoff)
          have hN3 := (hF3.keep hx4 (fun e => hF3.ne h3.blk e) hoff)
          refine ⟨rfl, ⟨bd, wr.heap.size, none, 0, 0, L, [], ⟨hB4, fun h9 => absurd h9 (by simp [Dk.DiskD.crash]), HL.out.1, HL.out.2, ?_, ?_, ⟨by have := hI.dur.lt; omega, HNE2.out.2.1, by have := hI.blk.lt; omega, HNE2.out.2.2.2.1, fun e => by have := hMM _ e; omega⟩, World.ownsRow_nil _ _ _ _, rfl, rfl, by simp⟩⟩, DkB.trans hK (((hx3.mono (fun _ _ e => e.elim) : Ext (DkB M b wr) wr w3)).trans hx4 (fun g hg e => by have e : g = b := e; subst e; exact ⟨by omega, .inl ⟨_, hI.blk⟩⟩))⟩
          · show FM _ _ bd (Dk.torn d.dur d.done (Dk.pick d k)); rw [HP0.out, HF.out]; exact hD3
          · show FM _ _ _ (Dk.torn d.dur d.done (Dk.pick d k)); rw [HP0.out, HF.out]; exact hN3
end Go.Proofs.YtockcifkphfnlaaGreatDoor
