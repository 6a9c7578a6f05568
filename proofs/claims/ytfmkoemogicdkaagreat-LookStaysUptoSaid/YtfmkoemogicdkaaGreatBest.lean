/- The node on which a demand leaves the least. (printed by wip/gen/best.py) -/
import Derived.Test.YtfmkoemogicdkaaGreatFitL
import Derived.Test.YtfmkoemogicdkaaGreatMay
namespace Go.Proofs.YtfmkoemogicdkaaGreat
set_option linter.unusedVariables false
open Go.RowKit

theorem ZTNode : ZeroT Tryz.prog 37 8 := .of (by kernel_rfl)
theorem may_true {ns : List NodD} {l more : List AllocD} {id : Int} {ask : ResD} (h : mayF ns l more id ask = true) : ∃ n r, ns.find? (fun n => n.id == id) = some n ∧ usedM l more id = some r := by
  unfold mayF at h
  split at h
  · cases h
  · rename_i n hn
    cases hu : usedM l more id with
    | none => rw [hu] at h; simp at h
    | some r => exact ⟨n, r, hn, rfl⟩
def betterF (o : Option (Int × Int)) (id lf : Int) : Option (Int × Int) := match o with | none => some (id, lf) | some q => if lf < q.2 || (lf == q.2 && decide (id < q.1)) then some (id, lf) else some q
theorem bestStep_true {ns : List NodD} {l more : List AllocD} {ask : ResD} {o : Option (Int × Int)} {x n : NodD} {r : ResD} (hm : mayF ns l more x.id ask = true) (hf : ns.find? (fun n => n.id == x.id) = some n) (hu : usedM l more n.id = some r) :
    bestStep ns l more ask o x = betterF o n.id (leftF n r ask) := by
  unfold bestStep
  rw [if_pos hm, hf]
  simp only [hu]
  cases o <;> rfl
set_option maxRecDepth 100000 in
set_option maxHeartbeats 8000000 in
theorem best_any (AN : Option Addr) (nN cN : Nat) (ns : List NodD) (AA : Option Addr) (nA cA : Nat) (l : List AllocD) (AM : Option Addr) (nM cM : Nat) (more : List AllocD) (ask : ResD) (w : World) (s0 s1 s2 s3 s6 s7 s8 : Value)
    (hN : Sl w 8 AN nN (ns.map NodD.cells)) (hnN : nN ≤ 67108864) (hl : Sl w 11 AA nA (l.map AllocD.cells)) (hn : nA ≤ 67108864) (hmo : Sl w 11 AM nM (more.map AllocD.cells)) (hnM : nM ≤ 2000000000000) :
    Calls Tryz.prog 42 #[.agg #[s0, s1, s2, s3, .slice AN nN cN, .slice AA nA cA, s6, s7, s8], .slice AM nM cM, .agg #[.int .i64 ask.cpu, .int .i64 ask.mem]] w fun e w' => e = .returned (.tuple #[.int .i64 (((bestF ns l more ask).map (·.1)).getD 0), .bool (bestF ns l more ask).isSome]) ∧ Ext Nothing w w' := by
  have hlen := Lib.hid hN.len
  have hx0 : Ext Nothing w ((w.alloc (.cells #[s0, s1, s2, s3, .slice AN nN cN, .slice AA nA cA, s6, s7, s8] 29)).alloc (.cells #[.int .i64 ask.cpu, .int .i64 ask.mem] 35)) := by (repeat' (first | (with_reducible assumption) | (with_reducible exact Ext.refl _ _) | (with_reducible refine Ext.alloc ?_ _) | (with_reducible refine Ext.drew ?_) | (with_reducible refine Ext.drewN ?_ _) | (with_reducible refine Ext.setCell ?_ (.inl (by simp only [World.size_alloc, World.size_setCell, World.size_drew] <;> omega)) _) | (with_reducible refine Ext.trans ?_ (by assumption) (fun _ _ e => e))))
  have hb0 : Blk ((w.alloc (.cells #[s0, s1, s2, s3, .slice AN nN cN, .slice AA nA cA, s6, s7, s8] 29)).alloc (.cells #[.int .i64 ask.cpu, .int .i64 ask.mem] 35)) w.heap.size 29 #[s0, s1, s2, s3, .slice AN nN cN, .slice AA nA cA, s6, s7, s8] := (Blk.new w _ _).ext (S := Nothing) (by (repeat' (first | (with_reducible assumption) | (with_reducible exact Ext.refl _ _) | (with_reducible refine Ext.alloc ?_ _) | (with_reducible refine Ext.drew ?_) | (with_reducible refine Ext.drewN ?_ _) | (with_reducible refine Ext.setCell ?_ (.inl (by simp only [World.size_alloc, World.size_setCell, World.size_drew] <;> omega)) _) | (with_reducible refine Ext.trans ?_ (by assumption) (fun _ _ e => e))))) (fun e => e)
  have ha0 : Blk ((w.alloc (.cells #[s0, s1, s2, s3, .slice AN nN cN, .slice AA nA cA, s6, s7, s8] 29)).alloc (.cells #[.int .i64 ask.cpu, .int .i64 ask.mem] 35)) (w.heap.size + 1) 35 #[.int .i64 ask.cpu, .int .i64 ask.mem] := Blk.new' _ _ _ (by simp)
  have hz0 : ((w.alloc (.cells #[s0, s1, s2, s3, .slice AN nN cN, .slice AA nA cA, s6, s7, s8] 29)).alloc (.cells #[.int .i64 ask.cpu, .int .i64 ask.mem] 35)).heap.size = w.heap.size + 2 := by simp
  have cN0 : ((w.alloc (.cells #[s0, s1, s2, s3, .slice AN nN cN, .slice AA nA cA, s6, s7, s8] 29)).alloc (.cells #[.int .i64 ask.cpu, .int .i64 ask.mem] 35)).cell? ⟨w.heap.size, 4, none⟩ = some (.slice AN nN cN) := hb0.cell 4
  go_enter Tryz.func42, Tryz.ntmps42
  go_wp2
  obtain ⟨W0, hW0⟩ : ∃ X, (w.alloc (.cells #[s0, s1, s2, s3, .slice AN nN cN, .slice AA nA cA, s6, s7, s8] 29)).alloc (.cells #[.int .i64 ask.cpu, .int .i64 ask.mem] 35) = X := ⟨_, rfl⟩
  rw [hW0] at hx0 hb0 ha0 hz0 ⊢
  clear hW0
  go_loopw [8, 18] (fun v8 i wr => ∃ k : Nat, k ≤ nN ∧ i = .int .i64 k ∧ Ext Nothing W0 wr ∧ ∃ o, (ns.take k).foldl (bestStep ns l more ask) none = o ∧ ((o = none ∧ v8 = .pointer none) ∨ ∃ q g, o = some q ∧ v8 = .pointer (some ⟨g, 0, none⟩) ∧ Blk wr g 130 #[.int .i64 q.1, .int .i64 q.2])) (fun _ i _ => nN - (intOf i).toNat)
  case atStart => exact ⟨0, Nat.zero_le _, rfl, Ext.refl _ _, none, rfl, .inl ⟨rfl, rfl⟩⟩
  case round =>
    obtain ⟨k, hk, rfl, hx, o, hf, ho⟩ := hrel
    have hxw : Ext Nothing w wr := hx0.trans hx (fun _ _ e => e)
    have hwz := hxw.size
    have hbr := hb0.ext hx (fun e => e)
    have har := ha0.ext hx (fun e => e)
    have halt := har.lt
    by_cases hlt : k < nN
    · obtain ⟨hjn, b, off, rfl, hce⟩ := hN.get hxw hlt
      have hst := foldl_take (bestStep ns l more ask) none ns k hjn
      rw [hf] at hst
      generalize ns[k] = x at hce hst
      have hxB : Ext Nothing wr (wr.alloc (.cells #[.int .i64 x.id, .int .i64 x.cap.cpu, .int .i64 x.cap.mem, .bool x.up, .bool x.drain, .int .i64 x.boot, .int .i64 x.epoch, .int .i64 x.seq] 37)) := by (repeat' (first | (with_reducible assumption) | (with_reducible exact Ext.refl _ _) | (with_reducible refine Ext.alloc ?_ _) | (with_reducible refine Ext.drew ?_) | (with_reducible refine Ext.drewN ?_ _) | (with_reducible refine Ext.setCell ?_ (.inl (by simp only [World.size_alloc, World.size_setCell, World.size_drew] <;> omega)) _) | (with_reducible refine Ext.trans ?_ (by assumption) (fun _ _ e => e))))
      have hcx : ∀ q u, (#[.int .i64 x.id, .int .i64 x.cap.cpu, .int .i64 x.cap.mem, .bool x.up, .bool x.drain, .int .i64 x.boot, .int .i64 x.epoch, .int .i64 x.seq] : Array Value).toList[q]? = some u → wr.cell? ⟨b, off + k * 8 + q, none⟩ = some u := fun q u hu => hce q u hu
      have qa0 : (wr.alloc (.cells #[.int .i64 x.id, .int .i64 x.cap.cpu, .int .i64 x.cap.mem, .bool x.up, .bool x.drain, .int .i64 x.boot, .int .i64 x.epoch, .int .i64 x.seq] 37)).cell? ⟨w.heap.size + 1, 0, none⟩ = some (.int .i64 ask.cpu) := (har.ext hxB (fun e => e)).cell 0
      have qa1 : (wr.alloc (.cells #[.int .i64 x.id, .int .i64 x.cap.cpu, .int .i64 x.cap.mem, .bool x.up, .bool x.drain, .int .i64 x.boot, .int .i64 x.epoch, .int .i64 x.seq] 37)).cell? ⟨w.heap.size + 1, 1, none⟩ = some (.int .i64 ask.mem) := (har.ext hxB (fun e => e)).cell 1
      cases hm : mayF ns l more x.id ask with
      | false =>
        have H := Lib.hid (show (ns.take (k + 1)).foldl (bestStep ns l more ask) none = o by rw [hst]; unfold bestStep; rw [if_neg (by simp [hm])])
        have HM := Lib.hid hm
        clear hst hf hm
        go_wp2_with (first | (refine wpList_load_at rfl 37 _ rfl STNode b (off + k * 8) rfl #[.int .i64 x.id, .int .i64 x.cap.cpu, .int .i64 x.cap.mem, .bool x.up, .bool x.drain, .int .i64 x.boot, .int .i64 x.epoch, .int .i64 x.seq] (by exact hcx) rfl ?_) | (refine wpList_load_blk rfl 29 _ rfl STStore w.heap.size rfl #[s0, s1, s2, s3, .slice (some ⟨b, off, none⟩) nN cN, .slice AA nA cA, s6, s7, s8] (by exact hbr.ext hxB (fun e => e)) rfl ?_) | (go_at_call 41; refine (may_any _ nN cN ns AA nA cA l AM nM cM more x.id ask _ s0 s1 s2 s3 s6 s7 s8 (hN.ext0 (hxw.trans hxB (fun _ _ e => e))) hnN (hl.ext0 (hxw.trans hxB (fun _ _ e => e))) hn (hmo.ext0 (hxw.trans hxB (fun _ _ e => e))) hnM).mono ?_; rintro e Y ⟨rfl, hY⟩; rw [HM.out]))
        go_roundw
        case rel =>
          have hxY : Ext Nothing wr Y := hxB.trans hY (fun _ _ e => e)
          refine ⟨k + 1, by omega, by go_num, hx.trans hxY (fun _ _ e => e), o, H.out, ?_⟩
          rcases ho with h | ⟨q, g, h1, h2, h3⟩
          · exact .inl h
          · exact .inr ⟨q, g, h1, h2, h3.ext hxY (fun e => e)⟩
        case measure => simp [intOf]; omega
      | true =>
        obtain ⟨n, r, hfn, hur⟩ := may_true hm
        have HM := Lib.hid hm
        rcases idx_cases (fun n : NodD => n.id == x.id) ns with ⟨_, hfn2, _⟩ | ⟨i, n2, hp, hni, hnid, hfn2, _⟩
        · rw [hfn] at hfn2; cases hfn2
        · rw [hfn] at hfn2
          obtain rfl : n = n2 := by simpa using hfn2
          have hid : n.id = x.id := by simpa using hnid
          have hil : i < ns.length := (List.getElem?_eq_some_iff.1 hni).1
          have hin : i < nN := by have := hlen.out; omega
          obtain ⟨_, b', off', hAe, hcn⟩ := hN.get hxw hin
          cases hAe
          rw [(List.getElem?_eq_some_iff.1 hni).2] at hcn
          have hur' : usedM l more n.id = some r := by rw [hid]; exact hur
          rw [bestStep_true hm hfn hur'] at hst
          have HP := Lib.hid hp
          have HU := Lib.hid hur'
          have HST := Lib.hid hst
          clear hst hf hm hfn hfn2 hp hur hur' hnid hid
          have hi0 : (0 : Int) ≤ i := by omega
          have hi1 : (i : Int) < nN := by omega
          go_wp2_with (first | (refine wpList_load_at rfl 37 _ rfl STNode b (off + k * 8) rfl #[.int .i64 x.id, .int .i64 x.cap.cpu, .int .i64 x.cap.mem, .bool x.up, .bool x.drain, .int .i64 x.boot, .int .i64 x.epoch, .int .i64 x.seq] (by exact hcx) rfl ?_) | (refine wpList_load_blk rfl 29 _ rfl STStore w.heap.size rfl #[s0, s1, s2, s3, .slice (some ⟨b, off, none⟩) nN cN, .slice AA nA cA, s6, s7, s8] (by exact hbr.ext hxB (fun e => e)) rfl ?_) | (go_at_call 41; refine (may_any _ nN cN ns AA nA cA l AM nM cM more x.id ask _ s0 s1 s2 s3 s6 s7 s8 (hN.ext0 (hxw.trans hxB (fun _ _ e => e))) hnN (hl.ext0 (hxw.trans hxB (fun _ _ e => e))) hn (hmo.ext0 (hxw.trans hxB (fun _ _ e => e))) hnM).mono ?_; rintro e Y ⟨rfl, hY⟩; rw [HM.out]))
          have hxY : Ext Nothing wr Y := hxB.trans hY (fun _ _ e => e)
          have hwY : Ext Nothing w Y := hxw.trans hxY (fun _ _ e => e)
          have hbY := hbr.ext hxY (fun e => e)
          have hxbY : Blk Y wr.heap.size 37 #[.int .i64 x.id, .int .i64 x.cap.cpu, .int .i64 x.cap.mem, .bool x.up, .bool x.drain, .int .i64 x.boot, .int .i64 x.epoch, .int .i64 x.seq] := (Blk.new wr 37 #[.int .i64 x.id, .int .i64 x.cap.cpu, .int .i64 x.cap.mem, .bool x.up, .bool x.drain, .int .i64 x.boot, .int .i64 x.epoch, .int .i64 x.seq]).ext hY (fun e => e)
          have hYd : Ext Nothing Y Y.drew := Ext.drew (Ext.refl _ _)
          refine wp_region_held (S := fun W' => Ext Nothing Y W') (by kernel_rfl) ?_
          have TK : True := trivial
          refine wpAnyH_take (i := 0) (v := .pointer (some ⟨w.heap.size, 4, none⟩)) rfl (by kernel_rfl) (by kernel_rfl) (by kernel_rfl) (fun _ _ _ h => h) (.inl ⟨by rfl, ?_⟩) hYd ?_
          · intro W' hS
            go_simp
          refine wpAnyH_take (i := 1) (v := .slice (some ⟨b, off, none⟩) nN cN) rfl (by kernel_rfl) (by kernel_rfl) (by kernel_rfl) (fun _ _ _ h => h) (.inl ⟨by rfl, ?_⟩) hYd ?_
          · intro W' hS
            have q4 : W'.cell? ⟨w.heap.size, 4, none⟩ = some (.slice (some ⟨b, off, none⟩) nN cN) := (hbY.ext hS (fun e => e)).cell 4
            go_simp
          refine wpAnyH_take (i := 2) (v := .agg #[s0, s1, s2, s3, .slice (some ⟨b, off, none⟩) nN cN, .slice AA nA cA, s6, s7, s8]) rfl (by kernel_rfl) (by kernel_rfl) (by kernel_rfl) (fun _ _ _ h => h) (.inl ⟨by rfl, ?_⟩) hYd ?_
          · intro W' hS
            exact run_load_struct (sz := 9) (b := w.heap.size) (off := 0) rfl STStore (by go_simp) (fun j u hu => by rw [Nat.zero_add, (hbY.ext hS (fun e => e)).cell]; simpa using hu) rfl
          refine wpAnyH_take (i := 3) (v := .pointer (some ⟨wr.heap.size, 0, none⟩)) rfl (by kernel_rfl) (by kernel_rfl) (by kernel_rfl) (fun _ _ _ h => h) (.inl ⟨by rfl, ?_⟩) hYd ?_
          · intro W' hS
            go_simp
          refine wpAnyH_take (i := 4) (v := .int .i64 x.id) rfl (by kernel_rfl) (by kernel_rfl) (by kernel_rfl) (fun _ _ _ h => h) (.inl ⟨by rfl, ?_⟩) hYd ?_
          · intro W' hS
            have q5 : W'.cell? ⟨wr.heap.size, 0, none⟩ = some (.int .i64 x.id) := (hxbY.ext hS (fun e => e)).cell 0
            go_simp
          have hcn2 : ∀ (W' : World), Ext Nothing Y W' → ∀ q u, (#[.int .i64 n.id, .int .i64 n.cap.cpu, .int .i64 n.cap.mem, .bool n.up, .bool n.drain, .int .i64 n.boot, .int .i64 n.epoch, .int .i64 n.seq] : Array Value).toList[q]? = some u → W'.cell? ⟨b, off + i * 8 + q, none⟩ = some u := fun W' h q u hu => (hxY.trans h (fun _ _ e => e)).cell (hcn q u hu) (fun e => e)
          refine wpAnyH_all (rs := [5, 8]) (by kernel_rfl) (by simp) (List.forall_mem_cons.2 ⟨?w5, List.forall_mem_cons.2 ⟨?w8, fun _ h => absurd h (by simp)⟩⟩)
          refine wpOp_call (f := 20) (args := #[.agg #[s0, s1, s2, s3, .slice (some ⟨b, off, none⟩) nN cN, .slice AA nA cA, s6, s7, s8], .int .i64 x.id]) rfl (by rfl) (by go_simp) ((findNode _ nN cN ns x.id _ (hN.ext0 (hwY.trans hYd (fun _ _ e => e))) hnN s0 s1 s2 s3 _ _ s6 s7 s8 rfl).mono ?_)
          rintro e W5 ⟨rfl, hW5⟩
          have hS5 : Ext Nothing Y W5 := hYd.trans hW5 (fun _ _ e => e)
          refine ⟨.int .i64 (i : Int), by rw [HP.out], hS5, ?_⟩
          simp only [Act.put, List.getElem_toArray, List.getElem_cons_succ, List.getElem_cons_zero, List.setIfInBounds_toArray, List.set_cons_succ, List.set_cons_zero]
          refine wpAnyH_take (i := 6) (v := .pointer (some ⟨b, off + i * 8, none⟩)) rfl (by kernel_rfl) (by kernel_rfl) (by kernel_rfl) (fun _ _ _ h => h) (.inl ⟨by rfl, ?_⟩) hS5 ?_
          · intro W' hS
            go_simp
          refine wpAnyH_take (i := 7) (v := .agg #[.int .i64 n.id, .int .i64 n.cap.cpu, .int .i64 n.cap.mem, .bool n.up, .bool n.drain, .int .i64 n.boot, .int .i64 n.epoch, .int .i64 n.seq]) rfl (by kernel_rfl) (by kernel_rfl) (by kernel_rfl) (fun _ _ _ h => h) (.inl ⟨by rfl, ?_⟩) hS5 ?_
          · intro W' hS
            exact run_load_struct (sz := 8) (b := b) (off := off + i * 8) rfl STNode (by go_simp) (hcn2 W' hS) rfl
          simp only [Act.put, List.getElem_toArray, List.getElem_cons_succ, List.getElem_cons_zero, List.setIfInBounds_toArray, List.set_cons_succ, List.set_cons_zero]
          refine wpAnyH_all (rs := [8]) (by kernel_rfl) (by simp) (List.forall_mem_cons.2 ⟨?_, fun _ h => absurd h (by simp)⟩)
          refine wpOp_alloc rfl (by rfl) rfl ZTNode (fun z hz => ⟨hS5.alloc _, ?_⟩)
          simp only [Act.put, List.getElem_toArray, List.getElem_cons_succ, List.getElem_cons_zero, List.setIfInBounds_toArray, List.set_cons_succ, List.set_cons_zero]
          refine wpAnyH_all (rs := [9]) (by kernel_rfl) (by simp) (List.forall_mem_cons.2 ⟨?_, fun _ h => absurd h (by simp)⟩)
          refine wpOp_store (p := W5.heap.size) (cs := #[.int .i64 n.id, .int .i64 n.cap.cpu, .int .i64 n.cap.mem, .bool n.up, .bool n.drain, .int .i64 n.boot, .int .i64 n.epoch, .int .i64 n.seq]) rfl (by rfl) rfl (by go_simp) (by go_simp) (Blk.new W5 _ z) hz STNode rfl rfl (fun W6 hNB hE6 => ?_)
          have hY6 : Ext Nothing Y W6 := (hS5.alloc _).trans hE6 (fun q hq e => by have := hS5.size; omega)
          refine ⟨hY6, wpAnyH_done (by kernel_rfl) ?_ _⟩
          clear hE6
          generalize W5.heap.size = p at hNB ⊢
          simp only [Act.put, List.getElem_toArray, List.getElem_cons_succ, List.getElem_cons_zero, List.setIfInBounds_toArray, List.set_cons_succ, List.set_cons_zero]
          rotate_left
          refine wpOp_alloc rfl (by rfl) rfl ZTNode (fun z hz => ⟨hYd.alloc _, ?_⟩)
          simp only [Act.put, List.getElem_toArray, List.getElem_cons_succ, List.getElem_cons_zero, List.setIfInBounds_toArray, List.set_cons_succ, List.set_cons_zero]
          refine wpAnyH_all (rs := [5]) (by kernel_rfl) (by simp) (List.forall_mem_cons.2 ⟨?_, fun _ h => absurd h (by simp)⟩)
          have hYz : Ext Nothing Y (Y.drew.alloc (.cells z 37)) := hYd.alloc _
          refine wpOp_call (f := 20) (args := #[.agg #[s0, s1, s2, s3, .slice (some ⟨b, off, none⟩) nN cN, .slice AA nA cA, s6, s7, s8], .int .i64 x.id]) rfl (by rfl) (by go_simp) ((findNode _ nN cN ns x.id _ (hN.ext0 (hwY.trans hYz (fun _ _ e => e))) hnN s0 s1 s2 s3 _ _ s6 s7 s8 rfl).mono ?_)
          rintro e W5 ⟨rfl, hW5⟩
          have hS5 : Ext Nothing Y W5 := hYz.trans hW5 (fun _ _ e => e)
          have hB5 : Blk W5 Y.heap.size 37 z := (Blk.new' Y.drew 37 z (n := Y.heap.size) rfl).ext hW5 (fun e => e)
          refine ⟨.int .i64 (i : Int), by rw [HP.out], hS5, ?_⟩
          simp only [Act.put, List.getElem_toArray, List.getElem_cons_succ, List.getElem_cons_zero, List.setIfInBounds_toArray, List.set_cons_succ, List.set_cons_zero]
          refine wpAnyH_take (i := 6) (v := .pointer (some ⟨b, off + i * 8, none⟩)) rfl (by kernel_rfl) (by kernel_rfl) (by kernel_rfl) (fun _ _ _ h => h) (.inl ⟨by rfl, ?_⟩) hS5 ?_
          · intro W' hS
            go_simp
          refine wpAnyH_take (i := 7) (v := .agg #[.int .i64 n.id, .int .i64 n.cap.cpu, .int .i64 n.cap.mem, .bool n.up, .bool n.drain, .int .i64 n.boot, .int .i64 n.epoch, .int .i64 n.seq]) rfl (by kernel_rfl) (by kernel_rfl) (by kernel_rfl) (fun _ _ _ h => h) (.inl ⟨by rfl, ?_⟩) hS5 ?_
          · intro W' hS
            exact run_load_struct (sz := 8) (b := b) (off := off + i * 8) rfl STNode (by go_simp) (hcn2 W' hS) rfl
          simp only [Act.put, List.getElem_toArray, List.getElem_cons_succ, List.getElem_cons_zero, List.setIfInBounds_toArray, List.set_cons_succ, List.set_cons_zero]
          refine wpAnyH_all (rs := [9]) (by kernel_rfl) (by simp) (List.forall_mem_cons.2 ⟨?_, fun _ h => absurd h (by simp)⟩)
          refine wpOp_store (p := Y.heap.size) (cs := #[.int .i64 n.id, .int .i64 n.cap.cpu, .int .i64 n.cap.mem, .bool n.up, .bool n.drain, .int .i64 n.boot, .int .i64 n.epoch, .int .i64 n.seq]) rfl (by rfl) rfl (by go_simp) (by go_simp) hB5 hz STNode rfl rfl (fun W6 hNB hE6 => ?_)
          have hY6 : Ext Nothing Y W6 := hS5.trans hE6 (fun q hq e => by omega)
          refine ⟨hY6, wpAnyH_done (by kernel_rfl) ?_ _⟩
          clear hE6 hB5
          have hpY : Y.heap.size ≤ Y.heap.size := Nat.le_refl _
          generalize Y.heap.size = p at hNB ⊢
          simp only [Act.put, List.getElem_toArray, List.getElem_cons_succ, List.getElem_cons_zero, List.setIfInBounds_toArray, List.set_cons_succ, List.set_cons_zero]
          all_goals (
            have hxY6 : Ext Nothing wr W6 := hxY.trans hY6 (fun _ _ e => e)
            have hw6 : Ext Nothing w W6 := hxw.trans hxY6 (fun _ _ e => e)
            have hb6 := hbr.ext hxY6 (fun e => e)
            have ha6 := har.ext hxY6 (fun e => e)
            have n0 : W6.cell? ⟨p, 0, none⟩ = some (.int .i64 n.id) := hNB.cell 0
            rcases ho with ⟨rfl, rfl⟩ | ⟨q, g, rfl, rfl, hq⟩
            · go_wp2_with (first | (refine wpList_load_blk rfl 29 _ rfl STStore w.heap.size rfl #[s0, s1, s2, s3, .slice (some ⟨b, off, none⟩) nN cN, .slice AA nA cA, s6, s7, s8] (by exact hb6) rfl ?_) | (go_at_call 54; refine (usedM_any AA nA cA l AM nM cM more n.id _ s0 s1 s2 s3 _ s6 s7 s8 (hl.ext0 hw6) hn (hmo.ext0 hw6) hnM).mono ?_; rintro e W7 ⟨rfl, hW7⟩; rw [HU.out]; simp only [optR, Option.getD_some, Option.isSome_some]; have hV : Ext Nothing W6 (W7.alloc (.cells #[.int .i64 r.cpu, .int .i64 r.mem] 35)) := hW7.alloc _; have p0 : (W7.alloc (.cells #[.int .i64 r.cpu, .int .i64 r.mem] 35)).cell? ⟨p, 0, none⟩ = some (.int .i64 n.id) := (hNB.ext hV (fun e => e)).cell 0; have p1 : (W7.alloc (.cells #[.int .i64 r.cpu, .int .i64 r.mem] 35)).cell? ⟨p, 1, none⟩ = some (.int .i64 n.cap.cpu) := (hNB.ext hV (fun e => e)).cell 1; have p2 : (W7.alloc (.cells #[.int .i64 r.cpu, .int .i64 r.mem] 35)).cell? ⟨p, 2, none⟩ = some (.int .i64 n.cap.mem) := (hNB.ext hV (fun e => e)).cell 2; have p2' : (W7.alloc (.cells #[.int .i64 r.cpu, .int .i64 r.mem] 35)).cell? ⟨p, 1 + 1, none⟩ = some (.int .i64 n.cap.mem) := p2; have k0 : (W7.alloc (.cells #[.int .i64 r.cpu, .int .i64 r.mem] 35)).cell? ⟨w.heap.size + 1, 0, none⟩ = some (.int .i64 ask.cpu) := (ha6.ext hV (fun e => e)).cell 0; have k1 : (W7.alloc (.cells #[.int .i64 r.cpu, .int .i64 r.mem] 35)).cell? ⟨w.heap.size + 1, 1, none⟩ = some (.int .i64 ask.mem) := (ha6.ext hV (fun e => e)).cell 1))
              generalize hLF : wrap64 (wrap64 (wrap64 (n.cap.cpu - r.cpu) - ask.cpu) + wrap64 (wrap64 (n.cap.mem - r.mem) - ask.mem)) = LF
              have HB := Lib.hid (show (ns.take (k + 1)).foldl (bestStep ns l more ask) none = some (n.id, LF) by rw [HST.out, ← hLF]; rfl)
              clear hLF
              go_quiet (fail)
              go_wp2
              go_roundw
              case rel =>
                have hW2V : Ext Nothing wr (W7.alloc (.cells #[.int .i64 r.cpu, .int .i64 r.mem] 35)) := hxY6.trans hV (fun _ _ e => e)
                exact ⟨k + 1, by omega, by go_num, (hx.trans hW2V (fun _ _ e => e)).trans (by (repeat' (first | (with_reducible assumption) | (with_reducible exact Ext.refl _ _) | (with_reducible refine Ext.alloc ?_ _) | (with_reducible refine Ext.drew ?_) | (with_reducible refine Ext.drewN ?_ _) | (with_reducible refine Ext.setCell ?_ (.inl (by simp only [World.size_alloc, World.size_setCell, World.size_drew] <;> omega)) _) | (with_reducible refine Ext.trans ?_ (by assumption) (fun _ _ e => e))))) (fun _ _ e => e), some (n.id, LF), HB.out, .inr ⟨(n.id, LF), _, rfl, rfl, Blk.new' _ _ _ (by simp)⟩⟩
              case measure => simp [intOf]; omega
            · go_wp2_with (first | (refine wpList_load_blk rfl 29 _ rfl STStore w.heap.size rfl #[s0, s1, s2, s3, .slice (some ⟨b, off, none⟩) nN cN, .slice AA nA cA, s6, s7, s8] (by exact hb6) rfl ?_) | (go_at_call 54; refine (usedM_any AA nA cA l AM nM cM more n.id _ s0 s1 s2 s3 _ s6 s7 s8 (hl.ext0 hw6) hn (hmo.ext0 hw6) hnM).mono ?_; rintro e W7 ⟨rfl, hW7⟩; rw [HU.out]; simp only [optR, Option.getD_some, Option.isSome_some]; have hV : Ext Nothing W6 (W7.alloc (.cells #[.int .i64 r.cpu, .int .i64 r.mem] 35)) := hW7.alloc _; have p0 : (W7.alloc (.cells #[.int .i64 r.cpu, .int .i64 r.mem] 35)).cell? ⟨p, 0, none⟩ = some (.int .i64 n.id) := (hNB.ext hV (fun e => e)).cell 0; have p1 : (W7.alloc (.cells #[.int .i64 r.cpu, .int .i64 r.mem] 35)).cell? ⟨p, 1, none⟩ = some (.int .i64 n.cap.cpu) := (hNB.ext hV (fun e => e)).cell 1; have p2 : (W7.alloc (.cells #[.int .i64 r.cpu, .int .i64 r.mem] 35)).cell? ⟨p, 2, none⟩ = some (.int .i64 n.cap.mem) := (hNB.ext hV (fun e => e)).cell 2; have p2' : (W7.alloc (.cells #[.int .i64 r.cpu, .int .i64 r.mem] 35)).cell? ⟨p, 1 + 1, none⟩ = some (.int .i64 n.cap.mem) := p2; have k0 : (W7.alloc (.cells #[.int .i64 r.cpu, .int .i64 r.mem] 35)).cell? ⟨w.heap.size + 1, 0, none⟩ = some (.int .i64 ask.cpu) := (ha6.ext hV (fun e => e)).cell 0; have k1 : (W7.alloc (.cells #[.int .i64 r.cpu, .int .i64 r.mem] 35)).cell? ⟨w.heap.size + 1, 1, none⟩ = some (.int .i64 ask.mem) := (ha6.ext hV (fun e => e)).cell 1))
              generalize hLF : wrap64 (wrap64 (wrap64 (n.cap.cpu - r.cpu) - ask.cpu) + wrap64 (wrap64 (n.cap.mem - r.mem) - ask.mem)) = LF
              have g0 : (W7.alloc (.cells #[.int .i64 r.cpu, .int .i64 r.mem] 35)).cell? ⟨g, 0, none⟩ = some (.int .i64 q.1) := ((hq.ext hxY6 (fun e => e)).ext hV (fun e => e)).cell 0
              have g1 : (W7.alloc (.cells #[.int .i64 r.cpu, .int .i64 r.mem] 35)).cell? ⟨g, 1, none⟩ = some (.int .i64 q.2) := ((hq.ext hxY6 (fun e => e)).ext hV (fun e => e)).cell 1
              have hB0 : (ns.take (k + 1)).foldl (bestStep ns l more ask) none = if LF < q.2 || (LF == q.2 && decide (n.id < q.1)) then some (n.id, LF) else some q := by rw [HST.out, ← hLF]; rfl
              clear hLF
              cases d1 : decide (LF < q.2) with
              | true =>
                have HB := Lib.hid (show (ns.take (k + 1)).foldl (bestStep ns l more ask) none = some (n.id, LF) by rw [hB0, if_pos (by simp [of_decide_eq_true d1])])
                clear hB0
                go_quiet (fail)
                go_wp2
                go_roundw
                case rel =>
                  have hW2V : Ext Nothing wr (W7.alloc (.cells #[.int .i64 r.cpu, .int .i64 r.mem] 35)) := hxY6.trans hV (fun _ _ e => e)
                  exact ⟨k + 1, by omega, by go_num, (hx.trans hW2V (fun _ _ e => e)).trans (by (repeat' (first | (with_reducible assumption) | (with_reducible exact Ext.refl _ _) | (with_reducible refine Ext.alloc ?_ _) | (with_reducible refine Ext.drew ?_) | (with_reducible refine Ext.drewN ?_ _) | (with_reducible refine Ext.setCell ?_ (.inl (by simp only [World.size_alloc, World.size_setCell, World.size_drew] <;> omega)) _) | (with_reducible refine Ext.trans ?_ (by assumption) (fun _ _ e => e))))) (fun _ _ e => e), some (n.id, LF), HB.out, .inr ⟨(n.id, LF), _, rfl, rfl, Blk.new' _ _ _ (by simp)⟩⟩
                case measure => simp [intOf]; omega
              | false =>
                cases d2 : (LF == q.2) with
                | false =>
                  have HB := Lib.hid (show (ns.take (k + 1)).foldl (bestStep ns l more ask) none = some q by rw [hB0, if_neg (by simp [d1, d2])])
                  clear hB0
                  go_quiet (fail)
                  go_wp2
                  go_roundw
                  case rel =>
                    have hW2V : Ext Nothing wr (W7.alloc (.cells #[.int .i64 r.cpu, .int .i64 r.mem] 35)) := hxY6.trans hV (fun _ _ e => e)
                    exact ⟨k + 1, by omega, by go_num, (hx.trans hW2V (fun _ _ e => e)).trans (by (repeat' (first | (with_reducible assumption) | (with_reducible exact Ext.refl _ _) | (with_reducible refine Ext.alloc ?_ _) | (with_reducible refine Ext.drew ?_) | (with_reducible refine Ext.drewN ?_ _) | (with_reducible refine Ext.setCell ?_ (.inl (by simp only [World.size_alloc, World.size_setCell, World.size_drew] <;> omega)) _) | (with_reducible refine Ext.trans ?_ (by assumption) (fun _ _ e => e))))) (fun _ _ e => e), some q, HB.out, .inr ⟨q, g, rfl, rfl, (hq.ext hW2V (fun e => e)).ext (S := Nothing) (by (repeat' (first | (with_reducible assumption) | (with_reducible exact Ext.refl _ _) | (with_reducible refine Ext.alloc ?_ _) | (with_reducible refine Ext.drew ?_) | (with_reducible refine Ext.drewN ?_ _) | (with_reducible refine Ext.setCell ?_ (.inl (by simp only [World.size_alloc, World.size_setCell, World.size_drew] <;> omega)) _) | (with_reducible refine Ext.trans ?_ (by assumption) (fun _ _ e => e))))) (fun e => e)⟩⟩
                  case measure => simp [intOf]; omega
                | true =>
                  cases d3 : decide (n.id < q.1) with
                  | true =>
                    have HB := Lib.hid (show (ns.take (k + 1)).foldl (bestStep ns l more ask) none = some (n.id, LF) by rw [hB0, if_pos (by simp [d2, d3])])
                    clear hB0
                    go_quiet (fail)
                    go_wp2
                    go_roundw
                    case rel =>
                      have hW2V : Ext Nothing wr (W7.alloc (.cells #[.int .i64 r.cpu, .int .i64 r.mem] 35)) := hxY6.trans hV (fun _ _ e => e)
                      exact ⟨k + 1, by omega, by go_num, (hx.trans hW2V (fun _ _ e => e)).trans (by (repeat' (first | (with_reducible assumption) | (with_reducible exact Ext.refl _ _) | (with_reducible refine Ext.alloc ?_ _) | (with_reducible refine Ext.drew ?_) | (with_reducible refine Ext.drewN ?_ _) | (with_reducible refine Ext.setCell ?_ (.inl (by simp only [World.size_alloc, World.size_setCell, World.size_drew] <;> omega)) _) | (with_reducible refine Ext.trans ?_ (by assumption) (fun _ _ e => e))))) (fun _ _ e => e), some (n.id, LF), HB.out, .inr ⟨(n.id, LF), _, rfl, rfl, Blk.new' _ _ _ (by simp)⟩⟩
                    case measure => simp [intOf]; omega
                  | false =>
                    have HB := Lib.hid (show (ns.take (k + 1)).foldl (bestStep ns l more ask) none = some q by rw [hB0, if_neg (by simp [d1, d2, d3])])
                    clear hB0
                    go_quiet (fail)
                    go_wp2
                    go_roundw
                    case rel =>
                      have hW2V : Ext Nothing wr (W7.alloc (.cells #[.int .i64 r.cpu, .int .i64 r.mem] 35)) := hxY6.trans hV (fun _ _ e => e)
                      exact ⟨k + 1, by omega, by go_num, (hx.trans hW2V (fun _ _ e => e)).trans (by (repeat' (first | (with_reducible assumption) | (with_reducible exact Ext.refl _ _) | (with_reducible refine Ext.alloc ?_ _) | (with_reducible refine Ext.drew ?_) | (with_reducible refine Ext.drewN ?_ _) | (with_reducible refine Ext.setCell ?_ (.inl (by simp only [World.size_alloc, World.size_setCell, World.size_drew] <;> omega)) _) | (with_reducible refine Ext.trans ?_ (by assumption) (fun _ _ e => e))))) (fun _ _ e => e), some q, HB.out, .inr ⟨q, g, rfl, rfl, (hq.ext hW2V (fun e => e)).ext (S := Nothing) (by (repeat' (first | (with_reducible assumption) | (with_reducible exact Ext.refl _ _) | (with_reducible refine Ext.alloc ?_ _) | (with_reducible refine Ext.drew ?_) | (with_reducible refine Ext.drewN ?_ _) | (with_reducible refine Ext.setCell ?_ (.inl (by simp only [World.size_alloc, World.size_setCell, World.size_drew] <;> omega)) _) | (with_reducible refine Ext.trans ?_ (by assumption) (fun _ _ e => e))))) (fun e => e)⟩⟩
                    case measure => simp [intOf]; omega)
    · obtain rfl : nN = k := by omega
      have hall : ns.take nN = ns := List.take_of_length_le (by have := hlen.out; omega)
      rw [hall] at hf
      rcases ho with ⟨rfl, rfl⟩ | ⟨q, g, rfl, rfl, hq⟩
      · have HB := Lib.hid (show bestF ns l more ask = none from hf)
        clear hf
        go_wp2
        refine bodyPost_ret (results_tmp2 rfl _ _ _) rfl ?_
        rw [HB.out]
        exact ⟨rfl, hxw⟩
      · have HB := Lib.hid (show bestF ns l more ask = some q from hf)
        clear hf
        have g0 : wr.cell? ⟨g, 0, none⟩ = some (.int .i64 q.1) := hq.cell 0
        go_wp2
        refine bodyPost_ret (results_tmp2 rfl _ _ _) rfl ?_
        rw [HB.out]
        exact ⟨rfl, hxw⟩
end Go.Proofs.YtfmkoemogicdkaaGreat
