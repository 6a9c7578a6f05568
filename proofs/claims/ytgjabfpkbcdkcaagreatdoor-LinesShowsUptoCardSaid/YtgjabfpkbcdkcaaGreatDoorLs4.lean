/- The document's Show. (printed by wip/gen/lsref.py) -/
import Derived.Test.YtgjabfpkbcdkcaaGreatDoorLs3
import Derived.Test.YtgjabfpkbcdkcaaGreatDoorCalm
namespace Go.Proofs.YtgjabfpkbcdkcaaGreatDoor
set_option linter.unusedVariables false
set_option linter.unusedSimpArgs false
open Go.RowKit Go.Lib

theorem run_add_op {P : Program} {ρ : Operand → Value} {o : Oper} {t t' : TypeId} {x y : Operand} {l m : List UInt8} {w : World} (ho : o.op = .binOp .add t x y t') (hx : ρ x = strV l) (hy : ρ y = strV m) (hl : l.length + m.length ≤ 9223372036854775807) :
    (execOp ρ o).run P w = .ok (.value (strV (l ++ m))) w := by
  unfold execOp
  simp only [ho, hx, hy]
  have h1 := run_addS (P := P) t l m hl w
  simp [h1, eqGuard]
set_option maxRecDepth 20000 in
set_option maxHeartbeats 16000000 in
theorem lsRef (A : Option Addr) (n c : Nat) (l : List AnsV) (e : Int) (w : World) (hl : Sl w 6 A n (l.map AnsV.cells)) (hok : ∀ x ∈ l, x.Ok) (hn : n ≤ 1048576) (he : I64 e) :
    Calls Tryz.prog 13 #[.slice A n c, .int .i64 e] w fun r w' => r = .returned (strV (showF (l.map AnsV.d) e)) ∧ Ext Nothing w w' := by
  go_enter Tryz.func13, Tryz.ntmps13
  go_upto_region 2 with (first | go_skip | go_guarded)
  obtain ⟨O, hO⟩ : ∃ O, O = showF [] e := ⟨_, rfl⟩
  have hOl : O.length ≤ 30 := by
    have := itoa_length_le e he.1 he.2
    rw [hO]; unfold showF
    split <;> simp <;> omega
  have HO := Lib.hid hO
  go_upto_if 9 with (first | go_skip | go_guarded)
  obtain ⟨q, hq⟩ : ∃ q : Bool, (e != 0) = q := ⟨_, rfl⟩
  rw [hq]
  go_cut [5] from 10 to 13 (fun v wx => v = strV O ∧ Ext Nothing w wx)
  case first =>
    have hit := lsDigits e w he.1 he.2
    have h6 : O = if e = 0 then [111, 107] else [101, 114, 114, 111, 114, 32] ++ itoa e := by rw [hO]; simp [showF]
    cases q with
    | true =>
      have h0 : e ≠ 0 := by simpa using hq
      rw [if_neg h0] at h6
      have H6 := Lib.hid h6
      have hil := itoa_length_le e he.1 he.2
      clear h6 hO hq
      go_wp2_with (first | go_skip | go_guarded | (go_at_call 26; (with_reducible refine hit.mono ?_); rintro v w2 ⟨rfl, hx2⟩) | ((with_reducible refine cAd 9 rfl ?_); refine wpList_addS rfl _ _ _ _ rfl [101, 114, 114, 111, 114, 32] (itoa e) rfl rfl (by simp; omega) ?_))
      go_meet
      exact ⟨(by rw [H6.out]; rfl), hx2⟩
    | false =>
      have h0 : e = 0 := by simpa using hq
      rw [if_pos h0] at h6
      have H6 := Lib.hid h6
      clear h6 hO hq hit
      go_wp2_with (first | go_skip | go_guarded)
      go_meet
      exact ⟨(by rw [H6.out]), Ext.refl _ _⟩
  case rest =>
    obtain ⟨rfl, hx⟩ := hcut
    obtain ⟨W, rfl⟩ : ∃ W : World, W = wc := ⟨_, rfl⟩
    have hlW := hl.ext0 hx
    clear hO hq hl
    go_upto_region 5 with (first | go_skip | go_guarded)
    go_loopw [5, 6] (fun so ki wr => ∃ t : Nat, t ≤ n ∧ ki = .int .i64 t ∧ so = strV (showF ((l.take t).map AnsV.d) e) ∧ (showF ((l.take t).map AnsV.d) e).length ≤ 30 + 200 * t ∧ Ext Nothing W wr) (fun _ ki _ => n - (Go.RowKit.intOf ki).toNat)
    case atStart => exact ⟨0, Nat.zero_le _, rfl, (by rw [HO.out]; rfl), by rw [HO.out] at hOl; exact hOl, Ext.refl _ _⟩
    case round =>
      obtain ⟨t, htn, rfl, rfl, hpl, hxr⟩ := hrel
      by_cases hlt : t < n
      · have hln : n = l.length := by have := hlW.1; simpa using this
        obtain ⟨x, hxt⟩ : ∃ x, l[t]? = some x := ⟨_, List.getElem?_eq_getElem (by omega)⟩
        have hxk := hok x (List.mem_of_getElem? hxt)
        obtain ⟨gb, goff, rfl, hxl, hcx⟩ := hlW.2 t x.cells (by rw [List.getElem?_map, hxt]; rfl)
        have hnext := showF_snoc (l.map AnsV.d) e t x.d (by rw [List.getElem?_map, hxt]; rfl)
        rw [← List.map_take, ← List.map_take] at hnext
        have hcl : ∀ (j : Nat) (u : Value), x.cells.toArray.toList[j]? = some u → wr.cell? ⟨gb, goff + t * 6 + j, none⟩ = some u := fun j u hu => by
          have h1 := hcx j u (by simpa using hu)
          exact hxr.cell h1 (fun e => e)
        generalize showF ((l.take t).map AnsV.d) e = acc at hnext hpl ⊢
        have HT := Lib.hid hlt
        have HN := Lib.hid hnext
        have hk0 : (0 : Int) ≤ (t : Int) := by omega
        have hk1 : (t : Int) < (n : Int) := by omega
        have hk2 : (t : Int) + 1 ≤ 1048577 := by omega
        obtain ⟨⟨client, req, index, code, value, allocs⟩, XA, xc⟩ := x
        clear hln hcx hxl hxt hnext hlt htn
        go_upto_region 8 with (first | go_skip | go_guarded | ((with_reducible refine lLd 82 rfl ?_); refine wpList_load_at rfl 82 _ rfl STAns gb (goff + t * 6) rfl #[.int .i64 client, .int .i64 req, .int .i64 index, .int .i64 code, .int .i64 value, .slice XA allocs xc] hcl rfl ?_))
        have hxa : Ext Nothing wr (wr.alloc (.cells #[.int .i64 client, .int .i64 req, .int .i64 index, .int .i64 code, .int .i64 value, .slice XA allocs xc] 82)) := Ext.auto
        have hBx := Blk.new wr 82 #[.int .i64 client, .int .i64 req, .int .i64 index, .int .i64 code, .int .i64 value, .slice XA allocs xc]
        have hxr := hxr.tr hxa
        clear hxa hcl
        generalize wr.heap.size = xb at hBx ⊢
        generalize (wr.alloc (.cells #[.int .i64 client, .int .i64 req, .int .i64 index, .int .i64 code, .int .i64 value, .slice XA allocs xc] 82)) = w3 at hBx hxr ⊢
        have x0 : w3.cell? ⟨xb, 0, none⟩ = some (.int .i64 client) := by rw [hBx.cell]; rfl
        have x1 : w3.cell? ⟨xb, 1, none⟩ = some (.int .i64 req) := by rw [hBx.cell]; rfl
        have x2 : w3.cell? ⟨xb, 2, none⟩ = some (.int .i64 index) := by rw [hBx.cell]; rfl
        have x3 : w3.cell? ⟨xb, 3, none⟩ = some (.int .i64 code) := by rw [hBx.cell]; rfl
        have x4 : w3.cell? ⟨xb, 4, none⟩ = some (.int .i64 value) := by rw [hBx.cell]; rfl
        have x5 : w3.cell? ⟨xb, 5, none⟩ = some (.slice XA allocs xc) := by rw [hBx.cell]; rfl
        have hi0 := hxk.1
        have hi1 := hxk.2.1
        have hi2 := hxk.2.2.1
        have hi3 := hxk.2.2.2.1
        have hi4 := hxk.2.2.2.2.1
        have hi5 : I64 (allocs : Int) := by have h9 := hxk.2.2.2.2.2; unfold maxLen at h9; unfold I64; simp only at h9; omega
        have e0 := itoa_length_le client hi0.1 hi0.2
        have e1 := itoa_length_le req hi1.1 hi1.2
        have e2 := itoa_length_le index hi2.1 hi2.2
        have e3 := itoa_length_le code hi3.1 hi3.2
        have e4 := itoa_length_le value hi4.1 hi4.2
        have e5 := itoa_length_le (allocs : Int) hi5.1 hi5.2
        clear hBx hxk
        refine calm_region (by kernel_rfl) (by kernel_rfl) ?_
        refine calm_val (v := strV acc) (by kernel_rfl) (fun W hW => by go_simp) ?_
        (try simp only [Act.put, zA, zB, zC, zD, zE, zF])
        refine calm_val (v := strV (acc ++ [32])) (by kernel_rfl) (fun W hW => run_add_op (l := acc) (m := [32]) rfl rfl rfl (by simp only [List.length_append, List.length_cons, List.length_nil]; omega)) ?_
        (try simp only [Act.put, zA, zB, zC, zD, zE, zF])
        refine calm_val (v := .pointer (some ⟨xb, 0, none⟩)) (by kernel_rfl) (fun W hW => by go_simp) ?_
        (try simp only [Act.put, zA, zB, zC, zD, zE, zF])
        refine calm_val (v := .int .i64 client) (by kernel_rfl) (fun W hW => by have q9 := hW.c0 x0; go_simp) ?_
        (try simp only [Act.put, zA, zB, zC, zD, zE, zF])
        refine calm_call (v := strV (itoa client)) (f := 26) (args := #[.int .i64 client]) (by kernel_rfl) (fun W hW => by go_simp) (fun W hW => (lsDigits client W hi0.1 hi0.2).mono fun v w' ⟨he, hx⟩ => ⟨he, hW.tr hx⟩) ?_
        (try simp only [Act.put, zA, zB, zC, zD, zE, zF])
        refine calm_val (v := strV (acc ++ [32] ++ itoa client)) (by kernel_rfl) (fun W hW => run_add_op (l := acc ++ [32]) (m := itoa client) rfl rfl rfl (by simp only [List.length_append, List.length_cons, List.length_nil]; omega)) ?_
        (try simp only [Act.put, zA, zB, zC, zD, zE, zF])
        refine calm_val (v := strV (acc ++ [32] ++ itoa client ++ [47])) (by kernel_rfl) (fun W hW => run_add_op (l := acc ++ [32] ++ itoa client) (m := [47]) rfl rfl rfl (by simp only [List.length_append, List.length_cons, List.length_nil]; omega)) ?_
        (try simp only [Act.put, zA, zB, zC, zD, zE, zF])
        refine calm_val (v := .pointer (some ⟨xb, 1, none⟩)) (by kernel_rfl) (fun W hW => by go_simp) ?_
        (try simp only [Act.put, zA, zB, zC, zD, zE, zF])
        refine calm_val (v := .int .i64 req) (by kernel_rfl) (fun W hW => by have q9 := hW.c0 x1; go_simp) ?_
        (try simp only [Act.put, zA, zB, zC, zD, zE, zF])
        refine calm_call (v := strV (itoa req)) (f := 26) (args := #[.int .i64 req]) (by kernel_rfl) (fun W hW => by go_simp) (fun W hW => (lsDigits req W hi1.1 hi1.2).mono fun v w' ⟨he, hx⟩ => ⟨he, hW.tr hx⟩) ?_
        (try simp only [Act.put, zA, zB, zC, zD, zE, zF])
        refine calm_val (v := strV (acc ++ [32] ++ itoa client ++ [47] ++ itoa req)) (by kernel_rfl) (fun W hW => run_add_op (l := acc ++ [32] ++ itoa client ++ [47]) (m := itoa req) rfl rfl rfl (by simp only [List.length_append, List.length_cons, List.length_nil]; omega)) ?_
        (try simp only [Act.put, zA, zB, zC, zD, zE, zF])
        refine calm_val (v := strV (acc ++ [32] ++ itoa client ++ [47] ++ itoa req ++ [47])) (by kernel_rfl) (fun W hW => run_add_op (l := acc ++ [32] ++ itoa client ++ [47] ++ itoa req) (m := [47]) rfl rfl rfl (by simp only [List.length_append, List.length_cons, List.length_nil]; omega)) ?_
        (try simp only [Act.put, zA, zB, zC, zD, zE, zF])
        refine calm_val (v := .pointer (some ⟨xb, 2, none⟩)) (by kernel_rfl) (fun W hW => by go_simp) ?_
        (try simp only [Act.put, zA, zB, zC, zD, zE, zF])
        refine calm_val (v := .int .i64 index) (by kernel_rfl) (fun W hW => by have q9 := hW.c0 x2; go_simp) ?_
        (try simp only [Act.put, zA, zB, zC, zD, zE, zF])
        refine calm_call (v := strV (itoa index)) (f := 26) (args := #[.int .i64 index]) (by kernel_rfl) (fun W hW => by go_simp) (fun W hW => (lsDigits index W hi2.1 hi2.2).mono fun v w' ⟨he, hx⟩ => ⟨he, hW.tr hx⟩) ?_
        (try simp only [Act.put, zA, zB, zC, zD, zE, zF])
        refine calm_val (v := strV (acc ++ [32] ++ itoa client ++ [47] ++ itoa req ++ [47] ++ itoa index)) (by kernel_rfl) (fun W hW => run_add_op (l := acc ++ [32] ++ itoa client ++ [47] ++ itoa req ++ [47]) (m := itoa index) rfl rfl rfl (by simp only [List.length_append, List.length_cons, List.length_nil]; omega)) ?_
        (try simp only [Act.put, zA, zB, zC, zD, zE, zF])
        refine calm_val (v := strV (acc ++ [32] ++ itoa client ++ [47] ++ itoa req ++ [47] ++ itoa index ++ [47])) (by kernel_rfl) (fun W hW => run_add_op (l := acc ++ [32] ++ itoa client ++ [47] ++ itoa req ++ [47] ++ itoa index) (m := [47]) rfl rfl rfl (by simp only [List.length_append, List.length_cons, List.length_nil]; omega)) ?_
        (try simp only [Act.put, zA, zB, zC, zD, zE, zF])
        refine calm_val (v := .pointer (some ⟨xb, 3, none⟩)) (by kernel_rfl) (fun W hW => by go_simp) ?_
        (try simp only [Act.put, zA, zB, zC, zD, zE, zF])
        refine calm_val (v := .pointer (some ⟨xb, 3, none⟩)) (by kernel_rfl) (fun W hW => by go_simp) ?_
        (try simp only [Act.put, zA, zB, zC, zD, zE, zF])
        refine calm_val (v := .int .i64 code) (by kernel_rfl) (fun W hW => by have q9 := hW.c0 x3; go_simp) ?_
        (try simp only [Act.put, zA, zB, zC, zD, zE, zF])
        refine calm_call (v := strV (itoa code)) (f := 26) (args := #[.int .i64 code]) (by kernel_rfl) (fun W hW => by go_simp) (fun W hW => (lsDigits code W hi3.1 hi3.2).mono fun v w' ⟨he, hx⟩ => ⟨he, hW.tr hx⟩) ?_
        (try simp only [Act.put, zA, zB, zC, zD, zE, zF])
        refine calm_val (v := strV (acc ++ [32] ++ itoa client ++ [47] ++ itoa req ++ [47] ++ itoa index ++ [47] ++ itoa code)) (by kernel_rfl) (fun W hW => run_add_op (l := acc ++ [32] ++ itoa client ++ [47] ++ itoa req ++ [47] ++ itoa index ++ [47]) (m := itoa code) rfl rfl rfl (by simp only [List.length_append, List.length_cons, List.length_nil]; omega)) ?_
        (try simp only [Act.put, zA, zB, zC, zD, zE, zF])
        refine calm_val (v := strV (acc ++ [32] ++ itoa client ++ [47] ++ itoa req ++ [47] ++ itoa index ++ [47] ++ itoa code ++ [47])) (by kernel_rfl) (fun W hW => run_add_op (l := acc ++ [32] ++ itoa client ++ [47] ++ itoa req ++ [47] ++ itoa index ++ [47] ++ itoa code) (m := [47]) rfl rfl rfl (by simp only [List.length_append, List.length_cons, List.length_nil]; omega)) ?_
        (try simp only [Act.put, zA, zB, zC, zD, zE, zF])
        refine calm_val (v := .pointer (some ⟨xb, 3, none⟩)) (by kernel_rfl) (fun W hW => by go_simp) ?_
        (try simp only [Act.put, zA, zB, zC, zD, zE, zF])
        refine calm_val (v := .pointer (some ⟨xb, 4, none⟩)) (by kernel_rfl) (fun W hW => by go_simp) ?_
        (try simp only [Act.put, zA, zB, zC, zD, zE, zF])
        refine calm_val (v := .int .i64 value) (by kernel_rfl) (fun W hW => by have q9 := hW.c0 x4; go_simp) ?_
        (try simp only [Act.put, zA, zB, zC, zD, zE, zF])
        refine calm_call (v := strV (itoa value)) (f := 26) (args := #[.int .i64 value]) (by kernel_rfl) (fun W hW => by go_simp) (fun W hW => (lsDigits value W hi4.1 hi4.2).mono fun v w' ⟨he, hx⟩ => ⟨he, hW.tr hx⟩) ?_
        (try simp only [Act.put, zA, zB, zC, zD, zE, zF])
        refine calm_val (v := strV (acc ++ [32] ++ itoa client ++ [47] ++ itoa req ++ [47] ++ itoa index ++ [47] ++ itoa code ++ [47] ++ itoa value)) (by kernel_rfl) (fun W hW => run_add_op (l := acc ++ [32] ++ itoa client ++ [47] ++ itoa req ++ [47] ++ itoa index ++ [47] ++ itoa code ++ [47]) (m := itoa value) rfl rfl rfl (by simp only [List.length_append, List.length_cons, List.length_nil]; omega)) ?_
        (try simp only [Act.put, zA, zB, zC, zD, zE, zF])
        refine calm_val (v := strV (acc ++ [32] ++ itoa client ++ [47] ++ itoa req ++ [47] ++ itoa index ++ [47] ++ itoa code ++ [47] ++ itoa value ++ [47])) (by kernel_rfl) (fun W hW => run_add_op (l := acc ++ [32] ++ itoa client ++ [47] ++ itoa req ++ [47] ++ itoa index ++ [47] ++ itoa code ++ [47] ++ itoa value) (m := [47]) rfl rfl rfl (by simp only [List.length_append, List.length_cons, List.length_nil]; omega)) ?_
        (try simp only [Act.put, zA, zB, zC, zD, zE, zF])
        refine calm_val (v := .pointer (some ⟨xb, 3, none⟩)) (by kernel_rfl) (fun W hW => by go_simp) ?_
        (try simp only [Act.put, zA, zB, zC, zD, zE, zF])
        refine calm_val (v := .pointer (some ⟨xb, 5, none⟩)) (by kernel_rfl) (fun W hW => by go_simp) ?_
        (try simp only [Act.put, zA, zB, zC, zD, zE, zF])
        refine calm_val (v := .slice XA allocs xc) (by kernel_rfl) (fun W hW => by have q9 := hW.c0 x5; go_simp) ?_
        (try simp only [Act.put, zA, zB, zC, zD, zE, zF])
        refine calm_val (v := .int .i64 (allocs : Int)) (by kernel_rfl) (fun W hW => by go_simp) ?_
        (try simp only [Act.put, zA, zB, zC, zD, zE, zF])
        refine calm_call (v := strV (itoa (allocs : Int))) (f := 26) (args := #[.int .i64 (allocs : Int)]) (by kernel_rfl) (fun W hW => by go_simp) (fun W hW => (lsDigits (allocs : Int) W hi5.1 hi5.2).mono fun v w' ⟨he, hx⟩ => ⟨he, hW.tr hx⟩) ?_
        (try simp only [Act.put, zA, zB, zC, zD, zE, zF])
        refine calm_val (v := strV (acc ++ [32] ++ itoa client ++ [47] ++ itoa req ++ [47] ++ itoa index ++ [47] ++ itoa code ++ [47] ++ itoa value ++ [47] ++ itoa (allocs : Int))) (by kernel_rfl) (fun W hW => run_add_op (l := acc ++ [32] ++ itoa client ++ [47] ++ itoa req ++ [47] ++ itoa index ++ [47] ++ itoa code ++ [47] ++ itoa value ++ [47]) (m := itoa (allocs : Int)) rfl rfl rfl (by simp only [List.length_append, List.length_cons, List.length_nil]; omega)) ?_
        (try simp only [Act.put, zA, zB, zC, zD, zE, zF])
        refine calm_val (v := strV (acc ++ [32] ++ itoa client ++ [47] ++ itoa req ++ [47] ++ itoa index ++ [47] ++ itoa code ++ [47] ++ itoa value ++ [47] ++ itoa (allocs : Int))) (by kernel_rfl) (fun W hW => by go_simp) ?_
        (try simp only [Act.put, zA, zB, zC, zD, zE, zF])
        refine calm_nil (fun wq hxq => ?_)
        (try simp only [Act.put, zA, zB, zC, zD, zE, zF])
        clear x0 x1 x2 x3 x4 x5
        have hxs := hxr.tr hxq
        go_wp2_with (first | go_skip | go_guarded)
        go_roundw
        case rel =>
          refine ⟨t + 1, HT.out, by go_num, ?_, ?_, hxs⟩
          · rw [HN.out]
            simp [showOne]
          · rw [HN.out]
            simp [showOne]
            omega
        case measure => have := HT.out; simp [Go.RowKit.intOf]; omega
      · have hnl : ¬ ((t : Int) < (n : Int)) := by omega
        have hln : n = l.length := by have := hlW.1; simpa using this
        have HE := Lib.hid (show (l.map AnsV.d).take t = l.map AnsV.d by rw [List.take_of_length_le (by simp; omega)])
        clear hln hlt htn
        go_wp2_with (first | go_skip | go_guarded)
        go_ret
        refine ⟨?_, hx.tr hxr⟩
        show Ending.returned (strV (showF ((l.map AnsV.d).take t) e)) = _
        rw [HE.out]
end Go.Proofs.YtgjabfpkbcdkcaaGreatDoor
