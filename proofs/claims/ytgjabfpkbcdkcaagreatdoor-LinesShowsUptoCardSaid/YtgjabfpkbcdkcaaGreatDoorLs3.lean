/- lines.Show. -/
import Derived.Test.YtgjabfpkbcdkcaaGreatDoorLs2
import Derived.Lib.AppendIntMem
import Derived.Lib.LaidTab
import Derived.Deep.CutBlock
namespace Go.Proofs.YtgjabfpkbcdkcaaGreatDoor
set_option linter.unusedVariables false
set_option linter.unusedSimpArgs false
open Go.RowKit Go.Lib

/-- the table of the powers of ten -/
abbrev PTab (w : World) : Prop := Lib.TabIs Tryz.prog w "internal/strconv.uint64pow10" .u64 Lib.pow10Tab
theorem lsItoa (n : Int) (w : World) (h0 : -9223372036854775808 ≤ n) (h1 : n ≤ 9223372036854775807) (ht : PTab w) : Calls Tryz.prog 17 #[.int .i64 n] w fun e w' => e = .returned (strV (itoa n)) ∧ Ext Nothing w w' := by
  refine (Tryz.strconv_Itoa n h0 h1 w ht).mono ?_
  rintro e w' ⟨rfl, k, os, rfl⟩
  exact ⟨rfl, Ext.of_below' (below_grow _ w (Nat.le_refl _) k os)⟩
/-- an answer as it lies -/
structure AnsV where
  d : ShowD
  A : Option Addr
  c : Nat
def AnsV.cells (x : AnsV) : List Value := [.int .i64 x.d.client, .int .i64 x.d.req, .int .i64 x.d.index, .int .i64 x.d.code, .int .i64 x.d.value, .slice x.A x.d.allocs x.c]
def I64 (a : Int) : Prop := -9223372036854775808 ≤ a ∧ a ≤ 9223372036854775807
def AnsV.Ok (x : AnsV) : Prop := I64 x.d.client ∧ I64 x.d.req ∧ I64 x.d.index ∧ I64 x.d.code ∧ I64 x.d.value ∧ x.d.allocs ≤ maxLen
theorem STAns : StructT Tryz.prog 82 6 := .of (by kernel_rfl)
/-- the parts of an answer's text -/
def partsF (x : ShowD) : List (List UInt8) := [32 :: itoa x.client, 47 :: itoa x.req, 47 :: itoa x.index, 47 :: itoa x.code, 47 :: itoa x.value, 47 :: itoa x.allocs]
theorem parts_all (x : ShowD) : (partsF x).flatten = showOne x := by simp [partsF, showOne]
/-- a builder's state beside the caller's own rows -/
structure BuF (W w : World) (b : Nat) (l : List UInt8) : Prop where
  is : Lib.IsBuilderF 57 5 b b (Lib.byteCells l) w
  below : Below b W w
  lt : b < w.heap.size
section
variable {W w w' : World} {b : Nat} {l s : List UInt8}
theorem BuF.write (h : BuF W w b l) (hl : l.length + s.length ≤ 140737488355328) :
    Calls Tryz.prog 16 #[.pointer (some ⟨b, 0, none⟩), strV s] w fun e w' => (∃ k : Int, e = .returned (.tuple #[.int .i64 k, .nilIface])) ∧ BuF W w' b (l ++ s) ∧ Lib.OthersKept 5 (some b) w w' := by
  refine (bWrite b b l s w h.is hl (Nat.le_of_lt h.lt)).mono ?_
  rintro e w' ⟨h1, h2, h3, h4⟩
  exact ⟨h1, ⟨h2, h.below.trans h3, Nat.lt_of_lt_of_le h.lt h3.size⟩, h4⟩
end
theorem PTab.on {w w' : World} (h : PTab w) (hx : Below w.heap.size w w') : PTab w' := (Lib.tabBelow_of_tabIs h).on hx |>.here
theorem BuF.tab {W w : World} {l : List UInt8} (h : BuF W w W.heap.size l) (ht : PTab W) : PTab w := ht.on h.below
theorem BuF.fresh (W : World) : BuF W (W.alloc (.cells #[.pointer none, .slice none 0 0] 57)) W.heap.size [] := by
  refine ⟨?_, Below.alloc (Below.refl _ _) (Nat.le_refl _) _, by simp⟩
  rcases Lib.fresh_isBuilder 57 5 W with h | h
  · exact .inl (Lib.BuilderAtF.of h)
  · exact .inr (Lib.BuilderAtF.of h)
theorem ownF_ext {w w' : World} {B e sz n : Nat} {v : Value} {xs : List Value} (h : w.ownsRowF B e sz v n xs) (hx : Ext Nothing w w') : w'.ownsRowF B e sz v n xs := by
  refine ⟨h.1, ?_⟩
  rcases h.2 with hn | ⟨g, cap, cur, fz, rfl, hb, hg, rest⟩
  · exact .inl hn
  · exact .inr ⟨g, cap, cur, fz, rfl, hb, hx.heap hg (fun e => e), rest⟩
theorem BuF.ext0 {W w w' : World} {b : Nat} {l : List UInt8} (h : BuF W w b l) (hx : Ext Nothing w w') (hW : b ≤ w.heap.size) : BuF W w' b l := by
  have key : ∀ p, Lib.BuilderAtF 57 5 b b p (Lib.byteCells l) w → Lib.BuilderAtF 57 5 b b p (Lib.byteCells l) w' := by
    rintro p ⟨h1, v, h2, h3, h4⟩
    exact ⟨h1, v, hx.heap h2 (fun e => e), ownF_ext h3 hx, h4⟩
  exact ⟨h.is.imp (key _) (key _), h.below.trans ⟨hx.os, hx.tape, hx.output, hx.size, fun k hk => hx.block k (by have := h.lt; omega) (fun e => e)⟩, Nat.lt_of_lt_of_le h.lt hx.size⟩
section
variable {P : Program} {ops : Array Oper} {rest : List Oper} {o : Oper} {a : Act} {w : World} {Q : Exit → Act → World → Prop}
theorem lLd (ty : TypeId) {x : Operand} (h0 : o.op = .load ty x) (h : wpList P ops Q (o :: rest) a w) : wpList P ops Q (o :: rest) a w := h
end
def numsF (x : ShowD) : List Int := [x.client, x.req, x.index, x.code, x.value, (x.allocs : Int)]
theorem Blk.ok {w w' : World} {g t b : Nat} {cs : Array Value} (h : Blk w g t cs) (hk : Lib.OthersKept 5 (some b) w w') (hg : g ≠ b) (ht : t ≠ 5) : Blk w' g t cs :=
  hk g _ h (by simpa using hg) (fun c fz e => by injection e with _ e2 _; exact ht e2)
theorem parts_step {x : ShowD} {j : Nat} (hj : j < 6) : ∃ n, (numsF x)[j]? = some n ∧ ((partsF x).take (j + 1)).flatten = ((partsF x).take j).flatten ++ ((if j = 0 then 32 else 47) :: itoa n) := by
  have hc : j = 0 ∨ j = 1 ∨ j = 2 ∨ j = 3 ∨ j = 4 ∨ j = 5 := by omega
  rcases hc with rfl | rfl | rfl | rfl | rfl | rfl <;> exact ⟨_, rfl, by simp [partsF]⟩
theorem nums_i64 {x : ShowD} (hc : I64 x.client) (hr : I64 x.req) (hi : I64 x.index) (hd : I64 x.code) (hv : I64 x.value) (ha : x.allocs ≤ maxLen) {j : Nat} {n : Int} (h : (numsF x)[j]? = some n) : I64 n := by
  have hm := List.mem_of_getElem? h
  simp only [numsF, List.mem_cons, List.not_mem_nil, or_false] at hm
  rcases hm with rfl | rfl | rfl | rfl | rfl | rfl
  · exact hc
  · exact hr
  · exact hi
  · exact hd
  · exact hv
  · unfold maxLen at ha; unfold I64; omega
set_option maxRecDepth 20000 in
set_option maxHeartbeats 8000000 in
theorem lsShow (A : Option Addr) (n c : Nat) (l : List AnsV) (e : Int) (w : World) (hl : Sl w 6 A n (l.map AnsV.cells)) (hok : ∀ x ∈ l, x.Ok) (hn : n ≤ 1048576) (he : I64 e) (ht : PTab w) :
    Calls Tryz.prog 12 #[.slice A n c, .int .i64 e] w fun r w' => r = .returned (strV (showF (l.map AnsV.d) e)) ∧ Ext Nothing w w' := by
  go_enter Tryz.func12, Tryz.ntmps12
  go_upto_region 2 with (first | go_skip | go_guarded)
  obtain ⟨O, hO⟩ : ∃ O, O = showF [] e := ⟨_, rfl⟩
  have hOl : O.length ≤ 30 := by
    have := itoa_length_le e he.1 he.2
    rw [hO]; unfold showF
    split <;> simp <;> omega
  have HO := Lib.hid hO
  go_upto_if 12 with (first | go_skip | go_guarded)
  obtain ⟨q, hq⟩ : ∃ q : Bool, (e != 0) = q := ⟨_, rfl⟩
  rw [hq]
  go_cut [5] from 13 to 16 (fun v wx => v = strV O ∧ Ext Nothing w wx)
  case first =>
    have hit := lsItoa e w he.1 he.2 ht
    have h6 : O = if e = 0 then [111, 107] else [101, 114, 114, 111, 114, 32] ++ itoa e := by rw [hO]; simp [showF]
    cases q with
    | true =>
      have h0 : e ≠ 0 := by simpa using hq
      rw [if_neg h0] at h6
      have H6 := Lib.hid h6
      have hil := itoa_length_le e he.1 he.2
      clear h6 hO hq
      go_wp2_with (first | go_skip | go_guarded | (go_at_call 17; (with_reducible refine hit.mono ?_); rintro v w2 ⟨rfl, hx2⟩) | ((with_reducible refine cAd 9 rfl ?_); refine wpList_addS rfl _ _ _ _ rfl [101, 114, 114, 111, 114, 32] (itoa e) rfl rfl (by simp; omega) ?_))
      go_meet
      exact ⟨(by rw [H6.out]; rfl), hx2⟩
    | false =>
      have h0 : e = 0 := by simpa using hq
      rw [if_pos h0] at h6
      have H6 := Lib.hid h6
      clear h6 hO hq hit
      go_wp2_with (first | go_skip | go_guarded)
      go_meet
      exact ⟨(by rw [H6.out]), Ext.refl _ _⟩
  case rest =>
    obtain ⟨rfl, hx⟩ := hcut
    obtain ⟨W, rfl⟩ : ∃ W : World, W = wc := ⟨_, rfl⟩
    have hlW := hl.ext0 hx
    have htW : PTab W := ht.on hx.below0
    have hf := BuF.fresh W
    have hcall := hf.write (s := O) (by simp; omega)
    clear hO hq hl ht
    go_upto_region 7 with (first | go_skip | go_guarded | (go_at_call 16; (with_reducible refine hcall.mono ?_); rintro v w2 ⟨⟨k, rfl⟩, hb2, hk2⟩))
    clear hcall hk2 hf
    go_loopw [20] (fun ki wr => ∃ t : Nat, t ≤ n ∧ ki = .int .i64 t ∧ BuF W wr W.heap.size (showF ((l.take t).map AnsV.d) e) ∧ (showF ((l.take t).map AnsV.d) e).length ≤ 30 + 200 * t) (fun ki _ => n - (Go.RowKit.intOf ki).toNat)
    case atStart => exact ⟨0, Nat.zero_le _, rfl, by have h9 := hb2; rw [List.nil_append, HO.out] at h9; exact h9, by rw [HO.out] at hOl; exact hOl⟩
    case round =>
      obtain ⟨t, htn, rfl, hb, hpl⟩ := hrel
      by_cases hlt : t < n
      · have hln : n = l.length := by have := hlW.1; simpa using this
        obtain ⟨x, hxt⟩ : ∃ x, l[t]? = some x := ⟨_, List.getElem?_eq_getElem (by omega)⟩
        have hxk := hok x (List.mem_of_getElem? hxt)
        obtain ⟨gb, goff, rfl, hxl, hcx⟩ := hlW.2 t x.cells (by rw [List.getElem?_map, hxt]; rfl)
        have hnext := showF_snoc (l.map AnsV.d) e t x.d (by rw [List.getElem?_map, hxt]; rfl)
        rw [← List.map_take, ← List.map_take] at hnext
        have hcl : ∀ (j : Nat) (u : Value), x.cells.toArray.toList[j]? = some u → wr.cell? ⟨gb, goff + t * 6 + j, none⟩ = some u := fun j u hu => by
          have h1 := hcx j u (by simpa using hu)
          exact (Ext.of_below (S := Nothing) hb.below (Nat.le_refl _)).cell h1 (fun e => e)
        generalize showF ((l.take t).map AnsV.d) e = pre at hb hnext hpl
        have HT := Lib.hid hlt
        have HN := Lib.hid hnext
        have hk0 : (0 : Int) ≤ (t : Int) := by omega
        have hk1 : (t : Int) < (n : Int) := by omega
        have hk2 : (t : Int) + 1 ≤ 1048577 := by omega
        obtain ⟨⟨client, req, index, code, value, allocs⟩, XA, xc⟩ := x
        clear hln hcx hxl hxt hnext hlt htn
        go_upto_region 9 with (first | go_skip | go_guarded | ((with_reducible refine lLd 82 rfl ?_); refine wpList_load_at rfl 82 _ rfl STAns gb (goff + t * 6) rfl #[.int .i64 client, .int .i64 req, .int .i64 index, .int .i64 code, .int .i64 value, .slice XA allocs xc] hcl rfl ?_))
        have hxa : Ext Nothing wr (wr.alloc (.cells #[.int .i64 client, .int .i64 req, .int .i64 index, .int .i64 code, .int .i64 value, .slice XA allocs xc] 82)) := Ext.auto
        have hBx := Blk.new wr 82 #[.int .i64 client, .int .i64 req, .int .i64 index, .int .i64 code, .int .i64 value, .slice XA allocs xc]
        have hb3 := hb.ext0 hxa (Nat.le_of_lt hb.lt)
        clear hb hxa hcl
        generalize wr.heap.size = xb at hBx ⊢
        generalize (wr.alloc (.cells #[.int .i64 client, .int .i64 req, .int .i64 index, .int .i64 code, .int .i64 value, .slice XA allocs xc] 82)) = w3 at hBx hb3 ⊢
        have x0 : w3.cell? ⟨xb, 0, none⟩ = some (.int .i64 client) := by rw [hBx.cell]; rfl
        have x1 : w3.cell? ⟨xb, 1, none⟩ = some (.int .i64 req) := by rw [hBx.cell]; rfl
        have x2 : w3.cell? ⟨xb, 2, none⟩ = some (.int .i64 index) := by rw [hBx.cell]; rfl
        have x3 : w3.cell? ⟨xb, 3, none⟩ = some (.int .i64 code) := by rw [hBx.cell]; rfl
        have x4 : w3.cell? ⟨xb, 4, none⟩ = some (.int .i64 value) := by rw [hBx.cell]; rfl
        have x5 : w3.cell? ⟨xb, 5, none⟩ = some (.slice XA allocs xc) := by rw [hBx.cell]; rfl
        clear hBx
        go_upto_region 10 with (first | go_skip | go_guarded)
        clear x0 x1 x2 x3 x4 x5
        have hxa : Ext Nothing w3 (w3.alloc (.cells #[.int .i64 client, .int .i64 req, .int .i64 index, .int .i64 code, .int .i64 value, .int .i64 (allocs : Int)] 3)) := Ext.auto
        have hBr := Blk.new w3 3 #[.int .i64 client, .int .i64 req, .int .i64 index, .int .i64 code, .int .i64 value, .int .i64 (allocs : Int)]
        have hb4 := hb3.ext0 hxa (Nat.le_of_lt hb3.lt)
        have hrb : w3.heap.size ≠ W.heap.size := by have := hb3.lt; omega
        clear hb3 hxa
        generalize w3.heap.size = rb at hBr hrb ⊢
        generalize (w3.alloc (.cells #[.int .i64 client, .int .i64 req, .int .i64 index, .int .i64 code, .int .i64 value, .int .i64 (allocs : Int)] 3)) = w4 at hBr hb4 ⊢
        have HRB := Lib.hid hrb
        clear hrb
        go_loopw [42] (fun kj ws => ∃ j : Nat, j ≤ 6 ∧ kj = .int .i64 j ∧ BuF W ws W.heap.size (pre ++ ((partsF ⟨client, req, index, code, value, allocs⟩).take j).flatten) ∧ (((partsF ⟨client, req, index, code, value, allocs⟩).take j).flatten).length ≤ 30 * j ∧ Blk ws rb 3 #[.int .i64 client, .int .i64 req, .int .i64 index, .int .i64 code, .int .i64 value, .int .i64 (allocs : Int)]) (fun kj _ => 6 - (Go.RowKit.intOf kj).toNat)
        case atStart => exact ⟨0, by omega, rfl, by simpa using hb4, by simp, hBr⟩
        case round =>
          obtain ⟨j, hj, rfl, hbj, hpj, hBj⟩ := hrel
          by_cases hlt6 : j < 6
          · obtain ⟨nj, hnj, hst⟩ := parts_step (x := ⟨client, req, index, code, value, allocs⟩) hlt6
            have hni := nums_i64 hxk.1 hxk.2.1 hxk.2.2.1 hxk.2.2.2.1 hxk.2.2.2.2.1 hxk.2.2.2.2.2 hnj
            have hcj := hBj.cell j
            rw [show (#[.int .i64 client, .int .i64 req, .int .i64 index, .int .i64 code, .int .i64 value, .int .i64 (allocs : Int)] : Array Value)[j]? = some (.int .i64 nj) by
              rw [show (#[.int .i64 client, .int .i64 req, .int .i64 index, .int .i64 code, .int .i64 value, .int .i64 (allocs : Int)] : Array Value) = ⟨(numsF ⟨client, req, index, code, value, allocs⟩).map (Value.int .i64)⟩ from rfl]
              simp [hnj]] at hcj
            have hj0 : (0 : Int) ≤ (j : Int) := by omega
            have hj1 : (j : Int) < 6 := by omega
            by_cases hz : j = 0
            · subst hz
              rw [if_pos rfl] at hst
              have HST := Lib.hid hst
              clear hst hnj
              have hw1 := hbj.write (s := [32]) (by simp only [List.length_append, List.length_cons, List.length_nil]; omega)
              clear hbj
              go_upto_region 15 with (first | go_skip | go_guarded | (go_at_call 16; (with_reducible refine hw1.mono ?_); rintro v w5 ⟨⟨k1, rfl⟩, hb5, hk5⟩))
              clear hw1
              have hB5 := hBj.ok hk5 HRB.out (by decide)
              have hit := lsItoa nj w5 hni.1 hni.2 (hb5.tab htW)
              have hil := itoa_length_le nj hni.1 hni.2
              clear hBj hk5
              go_wp2_with (first | go_skip | go_guarded | (go_at_call 17; (with_reducible refine hit.mono ?_); rintro v w6 ⟨rfl, hx6⟩; have hb6 := hb5.ext0 hx6 (Nat.le_of_lt hb5.lt); have hB6 := hB5.e0 hx6; have hw2 := hb6.write (s := itoa nj) (by simp only [List.length_append, List.length_cons, List.length_nil]; omega)) | (go_at_call 16; (with_reducible refine hw2.mono ?_); rintro v w7 ⟨⟨k2, rfl⟩, hb7, hk7⟩))
              go_roundw
              case rel =>
                have hB7 := hB6.ok hk7 HRB.out (by decide)
                refine ⟨1, by omega, by go_num, ?_, ?_, hB7⟩
                · rw [HST.out]
                  simpa [List.append_assoc] using hb7
                · rw [HST.out]
                  simp only [List.length_append, List.length_cons]
                  omega
              case measure => (simp [Go.RowKit.intOf]; try omega)
            · rw [if_neg hz] at hst
              have HST := Lib.hid hst
              have hzb : ((j : Int) == 0) = false := by simp; omega
              clear hst hnj
              have hw1 := hbj.write (s := [47]) (by simp only [List.length_append, List.length_cons, List.length_nil]; omega)
              clear hbj
              go_upto_region 15 with (first | go_skip | go_guarded | (go_at_call 16; (with_reducible refine hw1.mono ?_); rintro v w5 ⟨⟨k1, rfl⟩, hb5, hk5⟩))
              clear hw1
              have hB5 := hBj.ok hk5 HRB.out (by decide)
              have hit := lsItoa nj w5 hni.1 hni.2 (hb5.tab htW)
              have hil := itoa_length_le nj hni.1 hni.2
              clear hBj hk5
              go_wp2_with (first | go_skip | go_guarded | (go_at_call 17; (with_reducible refine hit.mono ?_); rintro v w6 ⟨rfl, hx6⟩; have hb6 := hb5.ext0 hx6 (Nat.le_of_lt hb5.lt); have hB6 := hB5.e0 hx6; have hw2 := hb6.write (s := itoa nj) (by simp only [List.length_append, List.length_cons, List.length_nil]; omega)) | (go_at_call 16; (with_reducible refine hw2.mono ?_); rintro v w7 ⟨⟨k2, rfl⟩, hb7, hk7⟩))
              go_roundw
              case rel =>
                have hB7 := hB6.ok hk7 HRB.out (by decide)
                refine ⟨j + 1, by omega, by go_num, ?_, ?_, hB7⟩
                · rw [HST.out]
                  simpa [List.append_assoc] using hb7
                · rw [HST.out]
                  simp only [List.length_append, List.length_cons]
                  omega
              case measure => (simp [Go.RowKit.intOf]; try omega)
          · obtain rfl : j = 6 := by omega
            have hfl : ((partsF ⟨client, req, index, code, value, allocs⟩).take 6).flatten = showOne ⟨client, req, index, code, value, allocs⟩ := by
              rw [← parts_all]; rfl
            rw [hfl] at hbj hpj
            clear hlt6 hBj hj
            go_wp2_with (first | go_skip | go_guarded)
            go_roundw
            case rel =>
              refine ⟨t + 1, HT.out, by go_num, ?_, ?_⟩
              · rw [HN.out]; exact hbj
              · rw [HN.out, List.length_append]; omega
            case measure => have := HT.out; simp [Go.RowKit.intOf]; omega
      · have hnl : ¬ ((t : Int) < (n : Int)) := by omega
        have hln : n = l.length := by have := hlW.1; simpa using this
        have HE := Lib.hid (show (l.map AnsV.d).take t = l.map AnsV.d by rw [List.take_of_length_le (by simp; omega)])
        have hst := Tryz.Builder_String_any_k W.heap.size W.heap.size (showF ((l.take t).map AnsV.d) e) wr hb.is (Nat.le_of_lt hb.lt)
        have hbl := hb.below
        clear hln hlt htn hb
        go_wp2_with (first | go_skip | go_guarded | (go_at_call 18; (with_reducible refine hst.mono ?_); rintro v w9 ⟨rfl, _, hb9, _⟩))
        go_ret
        refine ⟨?_, hx.tr (Ext.of_below (hbl.trans hb9) (Nat.le_refl _))⟩
        show Ending.returned (strV (showF ((l.map AnsV.d).take t) e)) = _
        rw [HE.out]
end Go.Proofs.YtgjabfpkbcdkcaaGreatDoor
