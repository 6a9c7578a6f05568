/- AgentObeys is true, whatever is told. (printed by wip/gen/agobey.py) -/
import Derived.Test.YtockcifkphfnlaaGreatDoorAgX
namespace Go.Proofs.YtockcifkphfnlaaGreatDoor
set_option linter.unusedVariables false
set_option linter.unusedSimpArgs false
open Go.RowKit
namespace Ag

/-- is there another one of that number? -/
def twiceAt (l : List AllocD) (k : Nat) (x : AllocD) : Bool := (List.range l.length).any fun j => decide (j ≠ k) && ((l[j]?.map (·.id)) == some x.id)
def runsB (run : List AllocD) (x : AllocD) : Bool := run.any fun y => y.id == x.id
def obey1 (run : List AllocD) (ended : List Int) (x : AllocD) (twice : Bool) : Bool :=
  if x.node ≠ 2 ∨ x.epoch ≠ 5 ∨ twice = true then true
  else !((runsB run x && x.stop) || (!runsB run x && !x.stop && !(ended.any fun i => i == x.id)))
theorem twice_false {l : List AllocD} {k j : Nat} {x y : AllocD} (h : twiceAt l k x = false) (hj : l[j]? = some y) (he : y.id = x.id) : j = k := by
  unfold twiceAt at h
  rw [List.any_eq_false] at h
  have hlt : j < l.length := by
    rcases Nat.lt_or_ge j l.length with h9 | h9
    · exact h9
    · rw [List.getElem?_eq_none h9] at hj; cases hj
  have h1 := h j (List.mem_range.2 hlt)
  rcases Decidable.em (j = k) with h9 | h9
  · exact h9
  · exact absurd (by simp [h9, hj, he]) h1
theorem tfind_put (T : Tasks) (hT : TAsc T) (k j : Int) (v : TaskD) : tfind (tput T k v) j = if j = k then some v else tfind T j := by
  have hA := tput_asc hT k v
  by_cases e : j = k
  · rw [if_pos e, tfind_mem hA, tput_mem]
    exact .inl (by rw [e])
  · rw [if_neg e]
    cases hf : tfind T j with
    | none =>
      rw [tfind_none] at hf ⊢
      intro hm
      obtain ⟨p, hp, rfl⟩ := List.mem_map.1 hm
      rcases tput_mem.1 hp with rfl | ⟨hp, _⟩
      · exact e rfl
      · exact hf (List.mem_map.2 ⟨p, hp, rfl⟩)
    | some u =>
      rw [tfind_mem hT] at hf
      rw [tfind_mem hA, tput_mem]
      exact .inr ⟨hf, e⟩
/-- what one told allocation makes of its task -/
def taskOf (S : Tasks) (x : AllocD) : TaskD :=
  match tfind S x.id with
  | none => (x, if x.stop then 5 else 2)
  | some t => (t.1, if x.stop ∧ t.2 < 3 then 5 else t.2)
theorem told1_eq (s : AgD) (T : Tasks) (x : AllocD) : told1 s T x = if x.node ≠ 2 ∨ x.epoch ≠ s.epoch then T else tput T x.id (taskOf s.tasks x) := by
  unfold told1 taskOf
  split
  · rfl
  · cases tfind s.tasks x.id <;> rfl
/-- a number's task is the one of the last told allocation of that number -/
theorem told_find (s : AgD) : ∀ (l : List AllocD) (T : Tasks), TAsc T → ∀ k, tfind (l.foldl (told1 s) T) k = match (l.filter fun x => decide (x.node = 2 ∧ x.epoch = s.epoch ∧ x.id = k)).getLast? with | some x => some (taskOf s.tasks x) | none => tfind T k
  | [], T, hT, k => rfl
  | x :: r, T, hT, k => by
    rw [List.foldl_cons, told_find s r _ (told1_asc s hT x) k, List.filter_cons]
    by_cases hx : x.node = 2 ∧ x.epoch = s.epoch ∧ x.id = k
    · rw [if_pos (decide_eq_true hx), List.getLast?_cons]
      cases hr : (r.filter fun x => decide (x.node = 2 ∧ x.epoch = s.epoch ∧ x.id = k)).getLast? with
      | some y => rfl
      | none =>
        simp only [Option.getD_none]
        rw [told1_eq, if_neg (by rintro (e | e); exact e hx.1; exact e hx.2.1), tfind_put _ hT, if_pos hx.2.2.symm]
    · rw [if_neg (by simpa using hx)]
      cases hr : (r.filter fun x => decide (x.node = 2 ∧ x.epoch = s.epoch ∧ x.id = k)).getLast? with
      | some y => rfl
      | none =>
        simp only
        rw [told1_eq]
        split
        · rfl
        · rename_i hn
          rw [tfind_put _ hT, if_neg]
          intro e
          rw [not_or, Decidable.not_not, Decidable.not_not] at hn
          exact hx ⟨hn.1, hn.2, e.symm⟩
/-- what is known of tasks behind a told list: S: what was known ahead, l: what was told -/
structure Knows (S T : Tasks) (l : List AllocD) : Prop where
  asc : TAsc T
  from_ : ∀ p ∈ T, ∃ x ∈ l, x.id = p.1 ∧ x.node = 2 ∧ x.epoch = 5 ∧ p.2 = taskOf S x
  one : ∀ k x, l[k]? = some x → x.node = 2 → x.epoch = 5 → twiceAt l k x = false → tfind T x.id = some (taskOf S x)
theorem knows_told (s : AgD) (he : s.epoch = 5) (l : List AllocD) : Knows s.tasks (told s l).tasks l := by
  have hA : TAsc (told s l).tasks := told_asc s l (by simp [TAsc])
  have hF : ∀ k, tfind (told s l).tasks k = match (l.filter fun x => decide (x.node = 2 ∧ x.epoch = s.epoch ∧ x.id = k)).getLast? with | some x => some (taskOf s.tasks x) | none => tfind [] k := told_find s l [] (by simp [TAsc])
  refine ⟨hA, fun p hp => ?_, fun k x hk h1 h2 h3 => ?_⟩
  · obtain ⟨i, v⟩ := p
    have hm := (tfind_mem hA).2 hp
    rw [hF] at hm
    cases hr : (l.filter fun x => decide (x.node = 2 ∧ x.epoch = s.epoch ∧ x.id = i)).getLast? with
    | none => rw [hr] at hm; cases hm
    | some x =>
      rw [hr] at hm
      have hx := List.mem_of_getLast? hr
      rw [List.mem_filter, decide_eq_true_eq] at hx
      exact ⟨x, hx.1, hx.2.2.2, hx.2.1, by rw [← he]; exact hx.2.2.1, by simpa using hm.symm⟩
  · rw [hF]
    cases hr : (l.filter fun y => decide (y.node = 2 ∧ y.epoch = s.epoch ∧ y.id = x.id)).getLast? with
    | none =>
      rw [List.getLast?_eq_none_iff, List.filter_eq_nil_iff] at hr
      exact absurd (by simp [h1, h2, he]) (hr x (List.mem_of_getElem? hk))
    | some y =>
      have hy := List.mem_of_getLast? hr
      rw [List.mem_filter, decide_eq_true_eq] at hy
      obtain ⟨j, hj⟩ := List.getElem?_of_mem hy.1
      have hjk := twice_false h3 hj hy.2.2.2
      subst hjk
      rw [hk] at hj
      cases hj
      rfl
theorem mem_running {T : Tasks} {x : AllocD} : x ∈ (T.filter (fun p => p.2.2 == 2)).map (·.2.1) ↔ ∃ k, (k, (x, (2 : Int))) ∈ T := by
  rw [List.mem_map]
  constructor
  · rintro ⟨p, hp, rfl⟩
    rw [List.mem_filter] at hp
    obtain ⟨k, y, st⟩ := p
    have : st = 2 := by simpa using hp.2
    subst this
    exact ⟨k, hp.1⟩
  · rintro ⟨k, hk⟩
    exact ⟨_, List.mem_filter.2 ⟨hk, by simp⟩, rfl⟩
/-- tasks whose allocations bear their numbers -/
def Own (T : Tasks) : Prop := ∀ p ∈ T, p.2.1.id = p.1 ∧ p.2.1.node = 2 ∧ p.2.1.epoch = 5
theorem own_knows {S T : Tasks} {l : List AllocD} (hS : Own S) (hA : TAsc S) (h : Knows S T l) : Own T := fun p hp => by
  obtain ⟨x, hx, e1, e2, e3, e4⟩ := h.from_ p hp
  rw [e4]
  unfold taskOf
  cases hf : tfind S x.id with
  | none => exact ⟨e1, e2, e3⟩
  | some t =>
    have hm := hS _ ((tfind_mem hA).1 hf)
    exact ⟨hm.1.trans e1, hm.2.1, hm.2.2⟩
/-- what runs is in order, of the machine's number and epoch, and was told -/
structure RunOk (run l : List AllocD) : Prop where
  node : ∀ x ∈ run, x.node = 2 ∧ x.epoch = 5
  asc : (run.map (·.id)).Pairwise (· < ·)
  found : ∀ x ∈ run, ∃ y ∈ l, y.id = x.id
theorem run_ok {S T : Tasks} {l : List AllocD} (hS : Own S) (hA : TAsc S) (h : Knows S T l) (s : AgD) (hs : s.tasks = T) : RunOk (running s) l := by
  have hO := own_knows hS hA h
  unfold running
  rw [hs]
  refine ⟨fun x hx => ?_, ?_, fun x hx => ?_⟩
  · obtain ⟨k, hk⟩ := mem_running.1 hx
    exact (hO _ hk).2
  · have h1 : ((T.filter (fun p => p.2.2 == 2)).map (·.2.1)).map (·.id) = (T.filter (fun p => p.2.2 == 2)).map (·.1) := by
      rw [List.map_map]
      exact List.map_congr_left (fun p hp => (hO p (List.mem_filter.1 hp).1).1)
    rw [h1]
    have h2 : ((T.filter (fun p => p.2.2 == 2)).map (·.1)).Sublist (T.map (·.1)) := (List.filter_sublist).map _
    exact List.Pairwise.sublist h2 h.asc
  · obtain ⟨k, hk⟩ := mem_running.1 hx
    obtain ⟨y, hy, e1, _⟩ := h.from_ _ hk
    exact ⟨y, hy, e1.trans (hO _ hk).1.symm⟩
/-- does the state of a known task stand for a stop that was told? -/
def Stops (S : Tasks) (ended : List Int) : Prop := ∀ p ∈ S, (p.2.2 = 2 ∨ p.2.2 = 5) ∧ (p.2.2 = 5 → p.1 ∈ ended)
theorem obeys_ok {S T : Tasks} {l : List AllocD} {ended : List Int} (hS : Own S) (hA : TAsc S) (hE : Stops S ended) (h : Knows S T l) (s : AgD) (hs : s.tasks = T) : ∀ k x, l[k]? = some x → obey1 (running s) ended x (twiceAt l k x) = true := by
  intro k x hk
  have hO := own_knows hS hA h
  unfold obey1
  split
  · rfl
  · rename_i hn
    rw [not_or, not_or, Decidable.not_not, Decidable.not_not] at hn
    have hone := h.one k x hk hn.1 hn.2.1 (by simpa using hn.2.2)
    have hruns : runsB (running s) x = decide ((taskOf S x).2 = 2) := by
      unfold runsB
      rw [Bool.eq_iff_iff, List.any_eq_true, decide_eq_true_eq]
      constructor
      · rintro ⟨y, hy, e⟩
        unfold running at hy
        rw [hs] at hy
        obtain ⟨j, hj⟩ := mem_running.1 hy
        have e1 := (hO _ hj).1
        have e2 : y.id = x.id := by simpa using e
        have h9 : tfind T x.id = some (y, 2) := (tfind_mem h.asc).2 (by rw [← e2, e1]; exact hj)
        rw [hone] at h9
        rw [Option.some.inj h9]
      · intro e
        have hm := (tfind_mem h.asc).1 hone
        have e1 := (hO _ hm).1
        refine ⟨(taskOf S x).1, ?_, by simpa using e1⟩
        unfold running
        rw [hs]
        refine mem_running.2 ⟨x.id, ?_⟩
        rw [← e]
        exact hm
    rw [hruns]
    unfold taskOf
    cases hf : tfind S x.id with
    | none =>
      cases hst : x.stop <;> simp
    | some t =>
      have hm := (tfind_mem hA).1 hf
      obtain ⟨h1, h2⟩ := hE _ hm
      cases hst : x.stop with
      | true =>
        rcases h1 with e | e
        · have e : t.2 = 2 := e
          simp [e]
        · have e : t.2 = 5 := e
          simp [e]
      | false =>
        rcases h1 with e | e
        · have e : t.2 = 2 := e
          simp [e]
        · have e : t.2 = 5 := e
          have hin : x.id ∈ ended := h2 e
          simp [e, hin]
/-- behind the first list: what stopped was told so -/
theorem stops_first {T : Tasks} {l : List AllocD} (h : Knows [] T l) : Stops T ((l.filter (·.stop)).map (·.id)) := fun p hp => by
  obtain ⟨x, hx, e1, e2, e3, e4⟩ := h.from_ p hp
  have e5 : p.2.2 = if x.stop then 5 else 2 := by rw [e4]; rfl
  rw [e5]
  cases hst : x.stop with
  | true => exact ⟨.inr rfl, fun _ => List.mem_map.2 ⟨x, List.mem_filter.2 ⟨hx, hst⟩, e1⟩⟩
  | false => exact ⟨.inl rfl, fun e => by simp at e⟩
/-- when the lease is over nothing runs -/
theorem tick_over {s : AgD} {d : Dk.DiskD} (hd : s.down = false) (hl : lapsed { s with clock := s.clock + 1 } = true) : (tick s d).1.epoch = 0 ∧ (tick s d).1.tasks = [] := by
  have hA : tickA { s with clock := s.clock + 1 } d = ({ s with clock := s.clock + 1 }, d, 0) := by unfold tickA; rw [if_neg (by rw [hd]; simp)]
  have hy := yields_zero { s with clock := s.clock + 1 } d
  have hB : tickB { s with clock := s.clock + 1 } d = yields { s with clock := s.clock + 1 } d := tickB_zero _ _ hl
  generalize yields { s with clock := s.clock + 1 } d = r at hy hB
  obtain ⟨s3, d3, e3⟩ := r
  obtain ⟨z0, z1, z2, z3, z4⟩ := hy
  by_cases he : e3 = 0
  · subst he
    by_cases hm : s3.clock % 3 = 0
    · rw [tick_d hA hB hm]
      refine ⟨(send_epoch s3).trans z0, ?_⟩
      show (send s3).1.tasks = []
      unfold send
      split <;> exact z3
    · rw [tick_c hA hB hm]
      exact ⟨z0, z3⟩
  · rw [tick_b hA hB he]
    exact ⟨z0, z3⟩
end Ag

theorem range_any (f : Nat → Bool) (j : Nat) : (List.range (j + 1)).any f = ((List.range j).any f || f j) := by
  rw [List.range_succ, List.any_append]
  simp
theorem take_any {α : Type} (l : List α) (f : α → Bool) (j : Nat) (y : α) (h : l[j]? = some y) : (l.take (j + 1)).any f = ((l.take j).any f || f y) := by
  rw [List.take_add_one, h, List.any_append]
  simp
set_option maxRecDepth 20000 in
set_option maxHeartbeats 16000000 in
theorem lawObeys (RA TA EA : Option Addr) (rn rc tn tc en ec : Nat) (run told : List AllocD) (ended : List Int) (w : World) (hr : Sl w 11 RA rn (run.map AllocD.cells)) (ht : Sl w 11 TA tn (told.map AllocD.cells)) (he : Sl w 1 EA en (ended.map fun i => [Value.int .i64 i])) (hrn : rn ≤ 1048577) (htn : tn ≤ 1048577) (hen : en ≤ 67108863)
    (h : ∀ k x, told[k]? = some x → Ag.obey1 run ended x (Ag.twiceAt told k x) = true) :
    Calls Tryz.prog 17 #[.slice RA rn rc, .slice TA tn tc, .slice EA en ec] w fun e w' => e = .returned (.bool true) ∧ Ext Nothing w w' := by
  have hrl : rn = run.length := by have := hr.len; simpa using this
  have htl : tn = told.length := by have := ht.len; simpa using this
  have hel : en = ended.length := by have := he.len; simpa using this
  have HLN := Lib.hid (And.intro hrl (And.intro htl hel))
  have HHH := Lib.hid h
  clear hrl htl hel h
  go_enter Tryz.func17, Tryz.ntmps17
  go_upto_region 2 with (first | go_skip | go_guarded)
  go_loopw [7] (fun kv wr => ∃ t : Nat, t ≤ tn ∧ kv = .int .i64 t ∧ Ext Nothing w wr) (fun kv _ => tn - (intOf kv).toNat)
  case atStart => exact ⟨0, Nat.zero_le _, rfl, Ext.refl _ _⟩
  case round =>
    obtain ⟨t, htt, rfl, hxw⟩ := hrel
    by_cases hlt : t < tn
    · obtain ⟨hjx, q, off, hAe, hce⟩ := ht.get (f := AllocD.cells) hxw hlt
      have hob := HHH.out t _ (List.getElem?_eq_getElem hjx)
      have HXT := Lib.hid (show told[t]? = some told[t] from List.getElem?_eq_getElem hjx)
      generalize told[t] = x at hce hob HXT
      have HOB := Lib.hid hob
      have HT := Lib.hid hlt
      have hcD : ∀ j u, x.cells.toArray.toList[j]? = some u → wr.cell? ⟨q, off + t * 11 + j, none⟩ = some u := fun j u hu => hce j u (by simpa using hu)
      have hk0 : (0 : Int) ≤ (t : Int) := by omega
      have hk1 : (t : Int) < tn := by omega
      have HA := Lib.hid hAe
      rw [hAe]
      clear hce hob hlt hjx hAe
      go_upto_region 7 with (first | go_skip | go_guarded | ((with_reducible refine isLd 67 rfl ?_); refine wpList_load_at rfl 67 _ rfl STAllocG q (off + t * 11) rfl x.cells.toArray hcD rfl ?_) | ((with_reducible refine isAl 67 rfl ?_); refine wpList_alloc_any rfl _ rfl ZTAllocG ?_; intro z hz9) | ((with_reducible refine isSt 67 rfl ?_); refine wpList_store_new rfl _ _ _ rfl STAllocG z hz9 rfl rfl x.cells.toArray rfl rfl rfl ?_; clear hz9))
      have hxX : Ext Nothing wr (wr.alloc (.cells x.cells.toArray 67)) := Ext.auto
      have hX := Blk.new wr 67 x.cells.toArray
      have hx1 := hxw.tr hxX
      generalize wr.heap.size = X at hX ⊢
      clear hcD hxX hxw
      generalize (wr.alloc (.cells x.cells.toArray 67)) = w1 at hX hx1 ⊢
      go_loopw [9, 10] (fun tv jv wr => ∃ j : Nat, j ≤ tn ∧ jv = .int .i64 j ∧ tv = .bool ((List.range j).any (fun i => decide (i ≠ t) && ((told[i]?.map (·.id)) == some x.id))) ∧ Ext Nothing w1 wr) (fun _ jv _ => tn - (intOf jv).toNat)
      case atStart => exact ⟨0, Nat.zero_le _, rfl, rfl, Ext.refl _ _⟩
      case round =>
        obtain ⟨j, hj, rfl, rfl, hxj⟩ := hrel
        have hX2 := hX.e0 hxj
        have x0 : wr.cell? ⟨X, 0, none⟩ = some (.int .i64 x.id) := hX2.cell 0
        by_cases hlj : j < tn
        · obtain ⟨hjy, q2, o2, hA2, hc2⟩ := ht.get (f := AllocD.cells) (hx1.tr hxj) hlj
          have hw : (List.range (j + 1)).any (fun i => decide (i ≠ t) && ((told[i]?.map (·.id)) == some x.id)) = ((List.range j).any (fun i => decide (i ≠ t) && ((told[i]?.map (·.id)) == some x.id)) || (decide (j ≠ t) && (told[j].id == x.id))) := by
            have h9 := range_any (fun i => decide (i ≠ t) && ((told[i]?.map (·.id)) == some x.id)) j
            rw [List.getElem?_eq_getElem hjy] at h9
            exact h9
          have HW := Lib.hid hw
          generalize told[j] = y at hc2 HW
          have y0 : wr.cell? ⟨q2, o2 + j * 11, none⟩ = some (.int .i64 y.id) := by have h9 : wr.cell? ⟨q2, o2 + j * 11 + 0, none⟩ = some (.int .i64 y.id) := hc2 0 _ rfl; simpa using h9
          have HJ := Lib.hid hlj
          have hk2 : (0 : Int) ≤ (j : Int) := by omega
          have hk3 : (j : Int) < tn := by omega
          obtain rfl : q = q2 := by have h9 := HA.out.symm.trans hA2; injection h9 with h9; injection h9
          obtain rfl : off = o2 := by have h9 := HA.out.symm.trans hA2; injection h9 with h9; injection h9
          clear hw hc2 hlj hjy hA2 hX2
          generalize hb : (List.range j).any (fun i => decide (i ≠ t) && ((told[i]?.map (·.id)) == some x.id)) = b at HW ⊢
          clear hb
          go_upto_region 9 with (first | go_skip | go_guarded)
          cases b with
          | true =>
            go_quiet (fail)
            have hdq := (Ext.refl Nothing wr).drewN nq
            generalize wr.drewN nq = w6 at hdq ⊢
            go_wp2_with (first | go_skip | go_guarded)
            go_roundw
            case rel => exact ⟨j + 1, HJ.out, by go_num, by rw [HW.out]; rfl, hxj.tr hdq⟩
            case measure => have := HJ.out; simp [intOf]; omega
          | false =>
            cases z1 : ((j : Int) != (t : Int)) with
            | false =>
              have HD := Lib.hid (show decide (j ≠ t) = false by simp only [bne_eq_false_iff_eq] at z1; simp; omega)
              go_quiet (fail)
              have hdq := (Ext.refl Nothing wr).drewN nq
              generalize wr.drewN nq = w6 at hdq ⊢
              go_wp2_with (first | go_skip | go_guarded)
              go_roundw
              case rel => exact ⟨j + 1, HJ.out, by go_num, by rw [HW.out, HD.out]; rfl, hxj.tr hdq⟩
              case measure => have := HJ.out; simp [intOf]; omega
            | true =>
              have HD := Lib.hid (show decide (j ≠ t) = true by simp only [bne_iff_ne, ne_eq] at z1; simp; omega)
              cases z2 : (y.id == x.id) with
              | false =>
                have HD2 := Lib.hid z2
                go_quiet (fail)
                have hdq := (Ext.refl Nothing wr).drewN nq
                generalize wr.drewN nq = w6 at hdq ⊢
                go_wp2_with (first | go_skip | go_guarded)
                go_roundw
                case rel => exact ⟨j + 1, HJ.out, by go_num, by rw [HW.out, HD.out, HD2.out]; rfl, hxj.tr hdq⟩
                case measure => have := HJ.out; simp [intOf]; omega
              | true =>
                have HD2 := Lib.hid z2
                go_quiet (fail)
                have hdq := (Ext.refl Nothing wr).drewN nq
                generalize wr.drewN nq = w6 at hdq ⊢
                go_wp2_with (first | go_skip | go_guarded)
                go_roundw
                case rel => exact ⟨j + 1, HJ.out, by go_num, by rw [HW.out, HD.out, HD2.out]; rfl, hxj.tr hdq⟩
                case measure => have := HJ.out; simp [intOf]; omega
        · have hnl : ¬ ((j : Int) < tn) := by omega
          have hjt : j = tn := by omega
          have htw : (List.range j).any (fun i => decide (i ≠ t) && ((told[i]?.map (·.id)) == some x.id)) = Ag.twiceAt told t x := by rw [hjt, HLN.out.2.1]; rfl
          rw [htw]
          clear htw hjt hlj hj
          have hx2 := hx1.tr hxj
          clear hx1 hxj
          obtain ⟨w2, rfl⟩ : ∃ z : World, z = wr := ⟨_, rfl⟩
          have x5 : w2.cell? ⟨X, 5, none⟩ = some (.int .i64 x.node) := hX2.cell 5
          have x6 : w2.cell? ⟨X, 6, none⟩ = some (.int .i64 x.epoch) := hX2.cell 6
          clear hX
          generalize htq : Ag.twiceAt told t x = tw at HOB ⊢
          clear htq
          cases z1 : (x.node != 2) with
          | true =>
            go_wp2_with (first | go_skip | go_guarded)
            go_roundw
            case rel => exact ⟨t + 1, HT.out, by go_num, hx2⟩
            case measure => have := HT.out; simp [intOf]; omega
          | false =>
            cases z2 : (x.epoch != 5) with
            | true =>
              go_wp2_with (first | go_skip | go_guarded)
              go_roundw
              case rel => exact ⟨t + 1, HT.out, by go_num, hx2⟩
              case measure => have := HT.out; simp [intOf]; omega
            | false =>
              cases tw with
              | true =>
                go_wp2_with (first | go_skip | go_guarded)
                go_roundw
                case rel => exact ⟨t + 1, HT.out, by go_num, hx2⟩
                case measure => have := HT.out; simp [intOf]; omega
              | false =>
                have hob := HOB.out
                unfold Ag.obey1 at hob
                rw [if_neg (by rintro (e | e | e); simp at z1; exact e z1; simp at z2; exact e z2; cases e)] at hob
                have HO2 := Lib.hid hob
                clear hob x0
                go_upto_region 13 with (first | go_skip | go_guarded)
                clear z1 z2 x5 x6
                go_loopw [11, 12] (fun rv iv wr => ∃ i : Nat, i ≤ rn ∧ iv = .int .i64 i ∧ rv = .bool ((run.take i).any fun y => y.id == x.id) ∧ Ext Nothing w2 wr) (fun _ iv _ => rn - (intOf iv).toNat)
                case atStart => exact ⟨0, Nat.zero_le _, rfl, rfl, Ext.refl _ _⟩
                case round =>
                  obtain ⟨i, hi, rfl, rfl, hxi⟩ := hrel
                  have hX3 := hX2.e0 hxi
                  have x0 : wr.cell? ⟨X, 0, none⟩ = some (.int .i64 x.id) := hX3.cell 0
                  by_cases hli : i < rn
                  · obtain ⟨hjy, q2, o2, hA2, hc2⟩ := hr.get (f := AllocD.cells) (hx2.tr hxi) hli
                    have hw := take_any run (fun y => y.id == x.id) i _ (List.getElem?_eq_getElem hjy)
                    have HW := Lib.hid hw
                    generalize run[i] = y at hc2 HW
                    have y0 : wr.cell? ⟨q2, o2 + i * 11, none⟩ = some (.int .i64 y.id) := by have h9 : wr.cell? ⟨q2, o2 + i * 11 + 0, none⟩ = some (.int .i64 y.id) := hc2 0 _ rfl; simpa using h9
                    have HJ := Lib.hid hli
                    have hk2 : (0 : Int) ≤ (i : Int) := by omega
                    have hk3 : (i : Int) < rn := by omega
                    have HA2 := Lib.hid hA2
                    rw [hA2]
                    clear hw hc2 hli hjy hA2 hX3
                    generalize hb : (run.take i).any (fun y => y.id == x.id) = b at HW ⊢
                    clear hb
                    go_upto_region 15 with (first | go_skip | go_guarded)
                    cases b with
                    | true =>
                      go_quiet (fail)
                      have hdq := (Ext.refl Nothing wr).drewN nq
                      generalize wr.drewN nq = w6 at hdq ⊢
                      go_wp2_with (first | go_skip | go_guarded)
                      go_roundw
                      case rel => exact ⟨i + 1, HJ.out, by go_num, by rw [HW.out]; rfl, hxi.tr hdq⟩
                      case measure => have := HJ.out; simp [intOf]; omega
                    | false =>
                      cases z2 : (y.id == x.id) with
                      | false =>
                        have HD2 := Lib.hid z2
                        go_quiet (fail)
                        have hdq := (Ext.refl Nothing wr).drewN nq
                        generalize wr.drewN nq = w6 at hdq ⊢
                        go_wp2_with (first | go_skip | go_guarded)
                        go_roundw
                        case rel => exact ⟨i + 1, HJ.out, by go_num, by rw [HW.out, HD2.out]; rfl, hxi.tr hdq⟩
                        case measure => have := HJ.out; simp [intOf]; omega
                      | true =>
                        have HD2 := Lib.hid z2
                        go_quiet (fail)
                        have hdq := (Ext.refl Nothing wr).drewN nq
                        generalize wr.drewN nq = w6 at hdq ⊢
                        go_wp2_with (first | go_skip | go_guarded)
                        go_roundw
                        case rel => exact ⟨i + 1, HJ.out, by go_num, by rw [HW.out, HD2.out]; rfl, hxi.tr hdq⟩
                        case measure => have := HJ.out; simp [intOf]; omega
                  · have hnl : ¬ ((i : Int) < rn) := by omega
                    have htw : (run.take i).any (fun y => y.id == x.id) = Ag.runsB run x := by rw [List.take_of_length_le (by have := HLN.out.1; omega)]; rfl
                    rw [htw]
                    have hx3 := hx2.tr hxi
                    clear htw hli hi hx2 hxi
                    obtain ⟨w3, rfl⟩ : ∃ z : World, z = wr := ⟨_, rfl⟩
                    generalize hrq : Ag.runsB run x = ru at HO2 ⊢
                    clear hrq
                    go_upto_region 18 with (first | go_skip | go_guarded)
                    go_loopw [13, 14] (fun ev iv wr => ∃ i : Nat, i ≤ en ∧ iv = .int .i64 i ∧ ev = .bool ((ended.take i).any fun y => y == x.id) ∧ Ext Nothing w3 wr) (fun _ iv _ => en - (intOf iv).toNat)
                    case atStart => exact ⟨0, Nat.zero_le _, rfl, rfl, Ext.refl _ _⟩
                    case round =>
                      obtain ⟨i, hi, rfl, rfl, hxi⟩ := hrel
                      have hX4 := hX3.e0 hxi
                      have x0 : wr.cell? ⟨X, 0, none⟩ = some (.int .i64 x.id) := hX4.cell 0
                      by_cases hli : i < en
                      · obtain ⟨hjy, q2, o2, hA2, hc2⟩ := he.get (f := fun i : Int => [Value.int .i64 i]) (hx3.tr hxi) hli
                        have hw := take_any ended (fun y => y == x.id) i _ (List.getElem?_eq_getElem hjy)
                        have HW := Lib.hid hw
                        generalize ended[i] = y at hc2 HW
                        have y0 : wr.cell? ⟨q2, o2 + i, none⟩ = some (.int .i64 y) := by have h9 := hc2 0 _ rfl; simpa using h9
                        have HJ := Lib.hid hli
                        have hk2 : (0 : Int) ≤ (i : Int) := by omega
                        have hk3 : (i : Int) < en := by omega
                        have HA2 := Lib.hid hA2
                        rw [hA2]
                        clear hw hc2 hli hjy hA2 hX4
                        generalize hb : (ended.take i).any (fun y => y == x.id) = b at HW ⊢
                        clear hb
                        go_upto_region 20 with (first | go_skip | go_guarded)
                        cases b with
                        | true =>
                          go_quiet (fail)
                          have hdq := (Ext.refl Nothing wr).drewN nq
                          generalize wr.drewN nq = w6 at hdq ⊢
                          go_wp2_with (first | go_skip | go_guarded)
                          go_roundw
                          case rel => exact ⟨i + 1, HJ.out, by go_num, by rw [HW.out]; rfl, hxi.tr hdq⟩
                          case measure => have := HJ.out; simp [intOf]; omega
                        | false =>
                          cases z2 : (y == x.id) with
                          | false =>
                            have HD2 := Lib.hid z2
                            go_quiet (fail)
                            have hdq := (Ext.refl Nothing wr).drewN nq
                            generalize wr.drewN nq = w6 at hdq ⊢
                            go_wp2_with (first | go_skip | go_guarded)
                            go_roundw
                            case rel => exact ⟨i + 1, HJ.out, by go_num, by rw [HW.out, HD2.out]; rfl, hxi.tr hdq⟩
                            case measure => have := HJ.out; simp [intOf]; omega
                          | true =>
                            have HD2 := Lib.hid z2
                            go_quiet (fail)
                            have hdq := (Ext.refl Nothing wr).drewN nq
                            generalize wr.drewN nq = w6 at hdq ⊢
                            go_wp2_with (first | go_skip | go_guarded)
                            go_roundw
                            case rel => exact ⟨i + 1, HJ.out, by go_num, by rw [HW.out, HD2.out]; rfl, hxi.tr hdq⟩
                            case measure => have := HJ.out; simp [intOf]; omega
                      · have hnl : ¬ ((i : Int) < en) := by omega
                        have htw : (ended.take i).any (fun y => y == x.id) = (ended.any fun i => i == x.id) := by rw [List.take_of_length_le (by have := HLN.out.2.2; omega)]
                        rw [htw]
                        have hx4 := hx3.tr hxi
                        clear htw hli hi hx3 hxi hX3
                        obtain ⟨w4, rfl⟩ : ∃ z : World, z = wr := ⟨_, rfl⟩
                        have x8 : w4.cell? ⟨X, 9, none⟩ = some (.bool x.stop) := hX4.cell 9
                        generalize hwq : (ended.any fun i => i == x.id) = wa at HO2 ⊢
                        clear hwq
                        generalize hsq : x.stop = st at HO2 x8
                        clear hsq
                        have ho := HO2.out
                        cases ru with
                        | true =>
                          cases st with
                          | true => simp at ho
                          | false =>
                            go_wp2_with (first | go_skip | go_guarded)
                            go_roundw
                            case rel => exact ⟨t + 1, HT.out, by go_num, hx4⟩
                            case measure => have := HT.out; simp [intOf]; omega
                        | false =>
                          cases st with
                          | true =>
                            go_wp2_with (first | go_skip | go_guarded)
                            go_roundw
                            case rel => exact ⟨t + 1, HT.out, by go_num, hx4⟩
                            case measure => have := HT.out; simp [intOf]; omega
                          | false =>
                            cases wa with
                            | false => simp at ho
                            | true =>
                              go_wp2_with (first | go_skip | go_guarded)
                              go_roundw
                              case rel => exact ⟨t + 1, HT.out, by go_num, hx4⟩
                              case measure => have := HT.out; simp [intOf]; omega
    · have hnl : ¬ ((t : Int) < tn) := by omega
      go_wp2_with (first | go_skip | go_guarded)
      go_ret
      exact ⟨rfl, hxw⟩

abbrev bt (a b c d : Int × Int) : List (Int × Int) := [(0, 0), a, b, c, d, (0, 0), (0, 0), (0, 0)]
def SA (k : Nat) : Ag.AgD := ⟨1, 1, false, k, 0, 0, 0, 0, Ag.noBeats, [], if k < 3 then 0 else 1, 0⟩
def SB (k : Nat) (T : Ag.Tasks) : Ag.AgD := ⟨1, 1, false, 3 + k, 5, 11, if k < 3 then 0 else 1, 0, if k < 3 then Ag.noBeats else bt (1, 6) (0, 0) (0, 0) (0, 0), T, if k < 3 then 1 else 2, 0⟩
def SC (k : Nat) (T : Ag.Tasks) : Ag.AgD := ⟨1, 1, false, 6 + k, 5, 14, if k < 3 then 1 else 2, 1, if k < 3 then bt (1, 6) (0, 0) (0, 0) (0, 0) else bt (1, 6) (2, 9) (0, 0) (0, 0), T, if k < 3 then 2 else 3, 0⟩
def SD (k : Nat) (T : Ag.Tasks) : Ag.AgD := ⟨1, 1, false, 9 + k, 5, 17, if k < 3 then 2 else if k < 6 then 3 else 4, 2, if k < 3 then bt (1, 6) (2, 9) (0, 0) (0, 0) else if k < 6 then bt (1, 6) (2, 9) (3, 12) (0, 0) else bt (1, 6) (2, 9) (3, 12) (4, 15), T, if k < 3 then 3 else if k < 6 then 4 else 5, 0⟩
abbrev DD : Dk.DiskD := ⟨Ag.bootFile 1, [], -1⟩
abbrev gA : Ag.MsgD := ⟨9, 102, 1, 1, 0, 5, 1, 0, 0, 0⟩
abbrev gB : Ag.MsgD := ⟨9, 102, 1, 1, 0, 6, 0, 5, 0, 0⟩
abbrev gC : Ag.MsgD := ⟨9, 102, 1, 2, 0, 6, 0, 5, 0, 0⟩
theorem tA0 : Ag.tick (SA 0) DD = (SA 1, DD, none, 0) := rfl
theorem tA1 : Ag.tick (SA 1) DD = (SA 2, DD, none, 0) := rfl
theorem tA2 : Ag.tick (SA 2) DD = (SA 3, DD, some gA, 0) := rfl
theorem tAT : Ag.take (SA 3) DD ⟨10, 1, 102, 1, 0, 5, 1, 0, 0, 5⟩ [] = (SB 0 [], DD, 0) := rfl
theorem tB0 (T : Ag.Tasks) : Ag.tick (SB 0 T) DD = (SB 1 T, DD, none, 0) := rfl
theorem tB1 (T : Ag.Tasks) : Ag.tick (SB 1 T) DD = (SB 2 T, DD, none, 0) := rfl
theorem tB2 (T : Ag.Tasks) : Ag.tick (SB 2 T) DD = (SB 3 T, DD, some gB, 0) := by kernel_rfl
theorem tBT (T : Ag.Tasks) (l : List AllocD) : Ag.take (SB 3 T) DD ⟨10, 1, 102, 1, 0, 6, 0, 5, 0, 5⟩ l = (SC 0 (Ag.told (SB 3 T) l).tasks, DD, 0) := rfl
theorem tC0 (T : Ag.Tasks) : Ag.tick (SC 0 T) DD = (SC 1 T, DD, none, 0) := rfl
theorem tC1 (T : Ag.Tasks) : Ag.tick (SC 1 T) DD = (SC 2 T, DD, none, 0) := rfl
theorem tC2 (T : Ag.Tasks) : Ag.tick (SC 2 T) DD = (SC 3 T, DD, some gC, 0) := by kernel_rfl
theorem tCT (T : Ag.Tasks) (l : List AllocD) : Ag.take (SC 3 T) DD ⟨10, 1, 102, 2, 0, 6, 0, 5, 0, 5⟩ l = (SD 0 (Ag.told (SC 3 T) l).tasks, DD, 0) := rfl
theorem tD (T : Ag.Tasks) (k : Nat) (h : k < 8) : ∃ om, Ag.tick (SD k T) DD = (SD (k + 1) T, DD, om, 0) := by
  match k, h with
  | 0, _ => exact ⟨_, rfl⟩
  | 1, _ => exact ⟨_, rfl⟩
  | 2, _ => exact ⟨_, rfl⟩
  | 3, _ => exact ⟨_, rfl⟩
  | 4, _ => exact ⟨_, rfl⟩
  | 5, _ => exact ⟨_, rfl⟩
  | 6, _ => exact ⟨_, rfl⟩
  | 7, _ => exact ⟨_, rfl⟩
theorem btOk : ∀ p ∈ bt (1, 6) (2, 9) (3, 12) (4, 15), 0 ≤ p.2 ∧ p.2 ≤ ((100 : Nat) : Int) := by decide
theorem limA (k : Nat) (h : k ≤ 3) : Ag.Lim (SA k) DD 100 := by
  match k, h with
  | 0, _ => exact limOf (by decide) (by decide) (by decide) (by decide) (by decide) (by decide) (by decide) (by decide) (by decide)
  | 1, _ => exact limOf (by decide) (by decide) (by decide) (by decide) (by decide) (by decide) (by decide) (by decide) (by decide)
  | 2, _ => exact limOf (by decide) (by decide) (by decide) (by decide) (by decide) (by decide) (by decide) (by decide) (by decide)
  | 3, _ => exact limOf (by decide) (by decide) (by decide) (by decide) (by decide) (by decide) (by decide) (by decide) (by decide)
theorem limB (k : Nat) (h : k ≤ 3) (T : Ag.Tasks) (hT : T.length ≤ 1048577) : Ag.Lim (SB k T) DD 100 := by
  match k, h with
  | 0, _ => exact limOf (show (0 : Int) ≤ 1 ∧ (1 : Int) ≤ 1099511627776 by decide) (show (0 : Int) ≤ 3 ∧ (3 : Int) ≤ ((100 : Nat) : Int) by decide) (show (0 : Int) ≤ 1 ∧ (1 : Int) ≤ ((100 : Nat) : Int) by decide) (show (0 : Int) ≤ 0 ∧ (0 : Int) ≤ ((100 : Nat) : Int) by decide) (show (1 : Int) ≤ 1 ∧ (1 : Int) ≤ 5 by decide) (show (0 : Int) ≤ 0 by decide) hT (show ∀ p ∈ Ag.noBeats, 0 ≤ p.2 ∧ p.2 ≤ ((100 : Nat) : Int) by decide) (by decide)
  | 1, _ => exact limOf (show (0 : Int) ≤ 1 ∧ (1 : Int) ≤ 1099511627776 by decide) (show (0 : Int) ≤ 4 ∧ (4 : Int) ≤ ((100 : Nat) : Int) by decide) (show (0 : Int) ≤ 1 ∧ (1 : Int) ≤ ((100 : Nat) : Int) by decide) (show (0 : Int) ≤ 0 ∧ (0 : Int) ≤ ((100 : Nat) : Int) by decide) (show (1 : Int) ≤ 1 ∧ (1 : Int) ≤ 5 by decide) (show (0 : Int) ≤ 0 by decide) hT (show ∀ p ∈ Ag.noBeats, 0 ≤ p.2 ∧ p.2 ≤ ((100 : Nat) : Int) by decide) (by decide)
  | 2, _ => exact limOf (show (0 : Int) ≤ 1 ∧ (1 : Int) ≤ 1099511627776 by decide) (show (0 : Int) ≤ 5 ∧ (5 : Int) ≤ ((100 : Nat) : Int) by decide) (show (0 : Int) ≤ 1 ∧ (1 : Int) ≤ ((100 : Nat) : Int) by decide) (show (0 : Int) ≤ 0 ∧ (0 : Int) ≤ ((100 : Nat) : Int) by decide) (show (1 : Int) ≤ 1 ∧ (1 : Int) ≤ 5 by decide) (show (0 : Int) ≤ 0 by decide) hT (show ∀ p ∈ Ag.noBeats, 0 ≤ p.2 ∧ p.2 ≤ ((100 : Nat) : Int) by decide) (by decide)
  | 3, _ => exact limOf (show (0 : Int) ≤ 1 ∧ (1 : Int) ≤ 1099511627776 by decide) (show (0 : Int) ≤ 6 ∧ (6 : Int) ≤ ((100 : Nat) : Int) by decide) (show (0 : Int) ≤ 2 ∧ (2 : Int) ≤ ((100 : Nat) : Int) by decide) (show (0 : Int) ≤ 1 ∧ (1 : Int) ≤ ((100 : Nat) : Int) by decide) (show (1 : Int) ≤ 1 ∧ (1 : Int) ≤ 5 by decide) (show (0 : Int) ≤ 0 by decide) hT (show ∀ p ∈ bt (1, 6) (0, 0) (0, 0) (0, 0), 0 ≤ p.2 ∧ p.2 ≤ ((100 : Nat) : Int) by decide) (by decide)
theorem lim_step {s s' : Ag.AgD} {om : Option Ag.MsgD} {er : Int} {N : Nat} (h : Ag.Lim s DD N) (he : Ag.tick s DD = (s', DD, om, er)) : Ag.Lim s' DD (N + 1) := by
  have := Ag.Lim.tick h
  rw [he] at this
  exact this
def St (nn : Nat) (T : Ag.Tasks) : Ag.AgD := if nn = 0 then SB 0 T else if nn = 1 then SC 0 T else SD 0 T
/-- what stands between the rounds of the law -/
structure ObI (W wB wr : World) (a b MB TB : Nat) (tb : Array Value) (nn : Nat) (T : Ag.Tasks) (ended : List Int) (EA : Option Addr) (em ec : Nat) (mcs : Array Value) : Prop where
  law : Law W wr a b (St nn T) DD
  lim : Ag.Lim (St nn T) DD (60 + 10 * nn)
  mb : Blk wr MB 51 mcs
  mz : mcs.size = 46
  tb : Blk wr TB 43 tb
  er : wr.ownsRow wB.heap.size 3 1 (.slice EA em ec) em (ended.flatMap fun i => [Value.int .i64 i])
  len : ended.length = em
  few : em ≤ nn * 1048577
  lb : W.heap.size ≤ MB ∧ W.heap.size ≤ TB ∧ TB < wB.heap.size ∧ MB < wB.heap.size ∧ W.heap.size ≤ wB.heap.size ∧ wB.heap.size ≤ wr.heap.size
  zero : nn = 0 → T = [] ∧ ended = []
  one : nn = 1 → Ag.Own T ∧ Ag.TAsc T ∧ Ag.Stops T ended
set_option maxRecDepth 20000 in
set_option maxHeartbeats 16000000 in
theorem obeys_law (A1 : Option Addr) (n1 c1 : Nat) (l1 : List AllocD) (A2 : Option Addr) (n2 c2 : Nat) (l2 : List AllocD) (W : World) (htab : HTab W) (hl1 : Sl W 11 A1 n1 (l1.map AllocD.cells)) (hn1 : n1 ≤ 1048576) (hi1 : ∀ x ∈ l1, In64 x.id) (hl2 : Sl W 11 A2 n2 (l2.map AllocD.cells)) (hn2 : n2 ≤ 1048576) (hi2 : ∀ x ∈ l2, In64 x.id) :
    Calls Tryz.prog 4 #[.slice A1 n1 c1, .slice A2 n2 c2] W fun e W' => e = .returned (.bool true) ∧ Ext Nothing W W' := by
  go_enter Tryz.func4, Tryz.ntmps4
  go_upto_region 4 with (first | go_skip | go_guarded | ((with_reducible refine isBd 30 rfl ?_); refine wpList_build rfl _ _ rfl #[.int .i64 2, .int .i64 0, .int .i64 0, .bool false, .bool false, .int .i64 0, .int .i64 0, .int .i64 0] (by kernel_rfl) ?_) | (go_at_call 7; (with_reducible refine (dkNew (M := Nothing) W (fun _ => False) (fun _ e => e.elim)).mono ?_); rintro e w1 ⟨b, rfl, hd, hb, hx0⟩) | (go_at_call 6; (with_reducible refine (lwStart 1 hd hb hx0 htab (by decide) (by decide)).mono ?_); rintro e w2 ⟨a, rfl, hL0, ha, hxS⟩; have hL0 : Law W w2 a b (SA 0) ⟨Ag.bootFile 1, [], -1⟩ := hL0))
  go_upto_region 6 with (first | go_skip | go_guarded | ((with_reducible refine isAl 51 rfl ?_); refine wpList_alloc_any rfl _ rfl ZTMsg ?_; intro z hz9))
  have hxm : Ext Nothing w2 (w2.alloc (.cells z 51)) := Ext.auto
  have hMB := Blk.new w2 51 z
  have hMW := hL0.ext.size
  have hL := hL0.e0 hxm
  have hlim : Ag.Lim (SA 0) DD 50 := limOf (by decide) (by decide) (by decide) (by decide) (by decide) (by decide) (by decide) (by decide) (by decide)
  generalize hLq : w2.heap.size = MB at hMB hMW ⊢
  clear hLq hL0 hxS hx0 hd ha
  generalize (w2.alloc (.cells z 51)) = wB at hMB hL ⊢
  clear hxm
  obtain ⟨mcs, rfl⟩ : ∃ y : Array Value, y = z := ⟨_, rfl⟩
  have hmz := hz9
  clear hz9
  go_loopw [8] (fun kv wr => ∃ k : Nat, k ≤ 3 ∧ kv = .int .i64 k ∧ Law W wr a b (SA k) DD ∧ Ag.Lim (SA k) DD (50 + k) ∧ ∃ mcs, Blk wr MB 51 mcs ∧ mcs.size = 46 ∧ (k = 3 → MsgIs mcs gA)) (fun kv _ => 4 - (intOf kv).toNat)
  case atStart => exact ⟨0, by omega, rfl, hL, hlim, mcs, hMB, hmz, fun e => (by cases e)⟩
  case round =>
    clear hL hMB
    obtain ⟨k, hk, rfl, hL, hlim, mcs, hMB, hmz, hmi⟩ := hrel
    have hkc : k = 0 ∨ k = 1 ∨ k = 2 ∨ k = 3 := by omega
    clear hk
    rcases hkc with rfl | rfl | rfl | rfl
    · have hcall := lwTick hL hlim (by omega) tA0
      go_wp2_with (first | go_skip | go_guarded | (go_at_call 9; (with_reducible refine hcall.mono ?_); rintro e w4 ⟨v, rfl, hm, hL4, hx4⟩; have hm : v = .slice none 0 0 := hm; subst hm))
      go_roundw
      case rel => first | exact ⟨1, by omega, by go_num, hL4, lim_step hlim tA0, mcs, hMB.law hx4 (by decide) (by decide) (by decide), hmz, fun e => (by cases e)⟩ | ((repeat apply Exists.intro); exact ⟨⟨1, by omega, by go_num, hL4, lim_step hlim tA0, mcs, hMB.law hx4 (by decide) (by decide) (by decide), hmz, fun e => (by cases e)⟩, rfl⟩)
      case measure => simp [intOf]
    · have hcall := lwTick hL hlim (by omega) tA1
      go_wp2_with (first | go_skip | go_guarded | (go_at_call 9; (with_reducible refine hcall.mono ?_); rintro e w4 ⟨v, rfl, hm, hL4, hx4⟩; have hm : v = .slice none 0 0 := hm; subst hm))
      go_roundw
      case rel => first | exact ⟨2, by omega, by go_num, hL4, lim_step hlim tA1, mcs, hMB.law hx4 (by decide) (by decide) (by decide), hmz, fun e => (by cases e)⟩ | ((repeat apply Exists.intro); exact ⟨⟨2, by omega, by go_num, hL4, lim_step hlim tA1, mcs, hMB.law hx4 (by decide) (by decide) (by decide), hmz, fun e => (by cases e)⟩, rfl⟩)
      case measure => simp [intOf]
    · have hcall := lwTick hL hlim (by omega) tA2
      go_upto_region 10 with (first | go_skip | go_guarded | (go_at_call 9; (with_reducible refine hcall.mono ?_); rintro e w4 ⟨v, rfl, hm, hL4, hx4⟩; obtain ⟨g, cs, rfl, hG, hGI⟩ := hm))
      have hM4 := hMB.law hx4 (by decide) (by decide) (by decide)
      go_wp2_with (first | go_skip | go_guarded | ((with_reducible refine isLd 51 rfl ?_); refine wpList_load_blk rfl 51 _ rfl STMsg g rfl cs hG hGI.size ?_) | ((with_reducible refine isSt 51 rfl ?_); refine wpList_store_blk rfl 51 _ _ rfl STMsg MB rfl cs rfl hM4 hmz hGI.size hGI.one ?_; intro w5 hb5 hx5))
      have hL5 := hL4.other hM4 hMW (by decide) (by decide) (by decide) (by decide) (by decide) (by decide) hx5
      go_roundw
      case rel => first | exact ⟨3, by omega, by go_num, hL5, lim_step hlim tA2, cs, hb5, hGI.size, fun _ => hGI⟩ | ((repeat apply Exists.intro); exact ⟨⟨3, by omega, by go_num, hL5, lim_step hlim tA2, cs, hb5, hGI.size, fun _ => hGI⟩, rfl⟩)
      case measure => simp [intOf]
    · have hmi := hmi rfl
      go_upto_region 11 with (first | go_skip | go_guarded)
      have hans := lawAnswer mcs #[.int .i64 0, .int .i64 0, .bool false, .int .i64 0, .int .i64 5, .slice none 0 0, .int .i64 0, .int .i64 0, .int .i64 0, .int .i64 0, .int .i64 0, .int .i64 0, .int .i64 0, .bool false, .int .i64 0, .int .i64 0, .int .i64 0, .int .i64 0, .slice none 0 0, .slice none 0 0, .slice none 0 0, .slice none 0 0, .int .i64 0, .int .i64 0, .int .i64 0, .int .i64 0, .int .i64 0, .int .i64 0, .int .i64 0, .slice none 0 0, .int .i64 0, .bool false, .int .i64 0, .int .i64 0, .int .i64 0, .bool false, .bool false, .int .i64 0, .int .i64 0, .int .i64 0, .slice none 0 0, .int .i64 0, .int .i64 0, .int .i64 0, .slice none 0 0, .slice none 0 0, .bool false, .slice none 0 0, .slice none 0 0, .int .i64 0, .int .i64 0, .slice none 0 0] _ 0 0 5 none 0 0 wr hmi ⟨rfl, rfl, rfl, rfl, rfl⟩
      go_upto_region 12 with (first | go_skip | go_guarded | ((with_reducible refine isLd 51 rfl ?_); refine wpList_load_blk rfl 51 _ rfl STMsg MB rfl mcs hMB hmz ?_) | ((with_reducible refine isBd 53 rfl ?_); refine wpList_build rfl _ _ rfl #[.int .i64 0, .int .i64 0, .bool false, .int .i64 0, .int .i64 5, .slice none 0 0, .int .i64 0, .int .i64 0, .int .i64 0, .int .i64 0, .int .i64 0, .int .i64 0, .int .i64 0, .bool false, .int .i64 0, .int .i64 0, .int .i64 0, .int .i64 0, .slice none 0 0, .slice none 0 0, .slice none 0 0, .slice none 0 0, .int .i64 0, .int .i64 0, .int .i64 0, .int .i64 0, .int .i64 0, .int .i64 0, .int .i64 0, .slice none 0 0, .int .i64 0, .bool false, .int .i64 0, .int .i64 0, .int .i64 0, .bool false, .bool false, .int .i64 0, .int .i64 0, .int .i64 0, .slice none 0 0, .int .i64 0, .int .i64 0, .int .i64 0, .slice none 0 0, .slice none 0 0, .bool false, .slice none 0 0, .slice none 0 0, .int .i64 0, .int .i64 0, .slice none 0 0] (by kernel_rfl) ?_) | (go_at_call 12; (with_reducible refine hans.mono ?_); rintro e w6 ⟨cs6, rfl, hI6, h456, hx6⟩) | (go_at_call 14; (refine (lwTake (l := []) (hL.e0 hx6) hlim (by omega) hI6 (show In64 1 by unfold In64; omega) h456 (Sl.nil _ _ _) (by omega) (fun _ _ e => absurd rfl e) (fun _ e => absurd e (by simp)) tAT).mono ?_); rintro e w7 ⟨rfl, hL7, hx7⟩))
      have hM7 := (hMB.e0 hx6).law hx7 (by decide) (by decide) (by decide)
      have hlim7 := Ag.Lim.take hlim ⟨10, 1, 102, 1, 0, 5, 1, 0, 0, 5⟩ [] (by decide)
      rw [tAT] at hlim7
      clear hans hL hMB h456 hI6 hlim hx6 hx7
      go_upto_region 15 with (first | go_skip | go_guarded)
      have hxT : Ext Nothing w7 (w7.alloc (.cells #[.slice A1 n1 c1, .slice A2 n2 c2] 43)) := Ext.auto
      have hTB := Blk.new w7 43 #[.slice A1 n1 c1, .slice A2 n2 c2]
      have hL8 := hL7.e0 hxT
      have hMB := hM7.e0 hxT
      have hTW := hL7.ext.size
      have hTl := hTB.lt
      have hMT := hM7.lt
      generalize hTq : w7.heap.size = TB at hTB hTW hTl hMT ⊢
      clear hTq hL7 hM7
      generalize (w7.alloc (.cells #[.slice A1 n1 c1, .slice A2 n2 c2] 43)) = wB at hTB hL8 hMB hxT hTl ⊢
      clear hxT
      have hbW := hL8.ext.size
      have h0 : ObI W wB wB a b MB TB #[.slice A1 n1 c1, .slice A2 n2 c2] 0 [] [] none 0 0 mcs := ⟨hL8, Ag.Lim.mono hlim7 (by omega), hMB, hmz, hTB, World.ownsRow_nil _ _ _ _, rfl, by omega, ⟨hMW, hTW, hTl, by omega, hbW, Nat.le_refl _⟩, fun _ => ⟨rfl, rfl⟩, fun e => (by cases e)⟩
      clear hL8 hlim7 hMB hmz hTB hmi
      go_loopw [12, 13] (fun ev nv wr => ∃ nn : Nat, nn ≤ 2 ∧ nv = .int .i64 nn ∧ ∃ T ended EA em ec mcs, ev = .slice EA em ec ∧ ObI W wB wr a b MB TB #[.slice A1 n1 c1, .slice A2 n2 c2] nn T ended EA em ec mcs) (fun _ nv _ => 3 - (intOf nv).toNat)
      case atStart => exact ⟨0, by omega, rfl, [], [], none, 0, 0, mcs, rfl, h0⟩
      case round =>
        clear h0
        obtain ⟨nn, hnn, rfl, T, ended, EA, em, ec, mcs, rfl, hI⟩ := hrel
        have hnc : nn = 0 ∨ nn = 1 ∨ nn = 2 := by omega
        clear hnn
        rcases hnc with rfl | rfl | rfl
        · obtain ⟨rfl, rfl⟩ := hI.zero rfl
          have hOwn : Ag.Own [] := fun p hp => (by cases hp)
          have hAsc : Ag.TAsc [] := by simp [Ag.TAsc]
          have hStp : Ag.Stops [] [] := fun p hp => (by cases hp)
          have hL := hI.law
          have hlim := hI.lim
          have hMB := hI.mb
          have hmz := hI.mz
          have hTB := hI.tb
          have hER := hI.er
          have HEL := Lib.hid hI.len
          have HEM := Lib.hid (show em ≤ 2097154 by have h9 := hI.few; omega)
          have HFW := Lib.hid hI.few
          have HLB := Lib.hid (show W.heap.size ≤ MB ∧ W.heap.size ≤ TB ∧ TB < wB.heap.size ∧ MB < wB.heap.size ∧ W.heap.size ≤ wB.heap.size from ⟨hI.lb.1, hI.lb.2.1, hI.lb.2.2.1, hI.lb.2.2.2.1, hI.lb.2.2.2.2.1⟩)
          have hwz := hI.lb.2.2.2.2.2
          have hMW := hI.lb.1
          have hMB9 := hI.lb.2.2.2.1
          have hTM : TB ≠ MB := fun e => by subst e; exact absurd rfl (Blk.ne hMB hTB (by decide))
          clear hI
          go_upto_region 18 with (first | go_skip | go_guarded)
          go_loopw [14] (fun kv wr => ∃ k : Nat, k ≤ 3 ∧ kv = .int .i64 k ∧ Law W wr a b (SB k []) DD ∧ Ag.Lim (SB k []) DD (60 + k) ∧ ∃ mcs, Blk wr MB 51 mcs ∧ mcs.size = 46 ∧ (k = 3 → MsgIs mcs gB) ∧ Blk wr TB 43 #[.slice A1 n1 c1, .slice A2 n2 c2] ∧ wr.ownsRow wB.heap.size 3 1 (.slice EA em ec) em (([] : List Int).flatMap fun i => [Value.int .i64 i]) ∧ wB.heap.size ≤ wr.heap.size) (fun kv _ => 4 - (intOf kv).toNat)
          case atStart => exact ⟨0, by omega, rfl, hL, hlim, mcs, hMB, hmz, fun e => (by cases e), hTB, hER, hwz⟩
          case round =>
            clear hL hMB hTB hER hwz
            obtain ⟨k, hk, rfl, hL, hlim, mcs, hMB, hmz, hmi, hTB, hER, hwz⟩ := hrel
            have hkc : k = 0 ∨ k = 1 ∨ k = 2 ∨ k = 3 := by omega
            clear hk
            rcases hkc with rfl | rfl | rfl | rfl
            · have hcall := lwTick hL hlim (by omega) (tB0 _)
              go_wp2_with (first | go_skip | go_guarded | (go_at_call 9; (with_reducible refine hcall.mono ?_); rintro e w4 ⟨v, rfl, hm, hL4, hx4⟩; have hm : v = .slice none 0 0 := hm; subst hm))
              go_roundw
              case rel => first | exact ⟨1, by omega, by go_num, hL4, lim_step hlim (tB0 _), mcs, hMB.law hx4 (by decide) (by decide) (by decide), hmz, fun e => (by cases e), hTB.law hx4 (by decide) (by decide) (by decide), own_law hER hx4 (by decide) (by decide) (by decide), Nat.le_trans hwz hx4.size⟩ | ((repeat apply Exists.intro); exact ⟨⟨1, by omega, by go_num, hL4, lim_step hlim (tB0 _), mcs, hMB.law hx4 (by decide) (by decide) (by decide), hmz, fun e => (by cases e), hTB.law hx4 (by decide) (by decide) (by decide), own_law hER hx4 (by decide) (by decide) (by decide), Nat.le_trans hwz hx4.size⟩, rfl⟩)
              case measure => simp [intOf]
            · have hcall := lwTick hL hlim (by omega) (tB1 _)
              go_wp2_with (first | go_skip | go_guarded | (go_at_call 9; (with_reducible refine hcall.mono ?_); rintro e w4 ⟨v, rfl, hm, hL4, hx4⟩; have hm : v = .slice none 0 0 := hm; subst hm))
              go_roundw
              case rel => first | exact ⟨2, by omega, by go_num, hL4, lim_step hlim (tB1 _), mcs, hMB.law hx4 (by decide) (by decide) (by decide), hmz, fun e => (by cases e), hTB.law hx4 (by decide) (by decide) (by decide), own_law hER hx4 (by decide) (by decide) (by decide), Nat.le_trans hwz hx4.size⟩ | ((repeat apply Exists.intro); exact ⟨⟨2, by omega, by go_num, hL4, lim_step hlim (tB1 _), mcs, hMB.law hx4 (by decide) (by decide) (by decide), hmz, fun e => (by cases e), hTB.law hx4 (by decide) (by decide) (by decide), own_law hER hx4 (by decide) (by decide) (by decide), Nat.le_trans hwz hx4.size⟩, rfl⟩)
              case measure => simp [intOf]
            · have hcall := lwTick hL hlim (by omega) (tB2 _)
              go_upto_region 22 with (first | go_skip | go_guarded | (go_at_call 9; (with_reducible refine hcall.mono ?_); rintro e w4 ⟨v, rfl, hm, hL4, hx4⟩; obtain ⟨g, cs, rfl, hG, hGI⟩ := hm))
              have hM4 := hMB.law hx4 (by decide) (by decide) (by decide)
              go_wp2_with (first | go_skip | go_guarded | ((with_reducible refine isLd 51 rfl ?_); refine wpList_load_blk rfl 51 _ rfl STMsg g rfl cs hG hGI.size ?_) | ((with_reducible refine isSt 51 rfl ?_); refine wpList_store_blk rfl 51 _ _ rfl STMsg MB rfl cs rfl hM4 hmz hGI.size hGI.one ?_; intro w5 hb5 hx5))
              have hL5 := hL4.other hM4 hMW (by decide) (by decide) (by decide) (by decide) (by decide) (by decide) hx5
              go_roundw
              case rel => first | exact ⟨3, by omega, by go_num, hL5, lim_step hlim (tB2 _), cs, hb5, hGI.size, fun _ => hGI, (hTB.law hx4 (by decide) (by decide) (by decide)).ext hx5 (fun e => hTM e), own_ext (own_law hER hx4 (by decide) (by decide) (by decide)) hx5 (fun g hg e => by have e : g = MB := e; have h9 := (hER.lt g hg).1; omega), Nat.le_trans hwz (Nat.le_trans hx4.size hx5.size)⟩ | ((repeat apply Exists.intro); exact ⟨⟨3, by omega, by go_num, hL5, lim_step hlim (tB2 _), cs, hb5, hGI.size, fun _ => hGI, (hTB.law hx4 (by decide) (by decide) (by decide)).ext hx5 (fun e => hTM e), own_ext (own_law hER hx4 (by decide) (by decide) (by decide)) hx5 (fun g hg e => by have e : g = MB := e; have h9 := (hER.lt g hg).1; omega), Nat.le_trans hwz (Nat.le_trans hx4.size hx5.size)⟩, rfl⟩)
              case measure => simp [intOf]
            · have hmi := hmi rfl
              go_upto_region 23 with (first | go_skip | go_guarded)
              have hans := fun (Wd : World) => lawAnswer mcs #[.int .i64 0, .int .i64 0, .bool false, .int .i64 0, .int .i64 5, (.slice A1 n1 c1), .int .i64 0, .int .i64 0, .int .i64 0, .int .i64 0, .int .i64 0, .int .i64 0, .int .i64 0, .bool false, .int .i64 0, .int .i64 0, .int .i64 0, .int .i64 0, .slice none 0 0, .slice none 0 0, .slice none 0 0, .slice none 0 0, .int .i64 0, .int .i64 0, .int .i64 0, .int .i64 0, .int .i64 0, .int .i64 0, .int .i64 0, .slice none 0 0, .int .i64 0, .bool false, .int .i64 0, .int .i64 0, .int .i64 0, .bool false, .bool false, .int .i64 0, .int .i64 0, .int .i64 0, .slice none 0 0, .int .i64 0, .int .i64 0, .int .i64 0, .slice none 0 0, .slice none 0 0, .bool false, .slice none 0 0, .slice none 0 0, .int .i64 0, .int .i64 0, .slice none 0 0] _ 0 0 5 A1 n1 c1 Wd hmi ⟨rfl, rfl, rfl, rfl, rfl⟩
              refine zS (S := fun W' => Ext (LawB W wr) wr W') (by kernel_rfl) ?_
              have hd : Ext Nothing wr wr.drew := (Ext.refl _ _).drew
              generalize wr.drew = Wd at hd ⊢
              have hS : Ext (LawB W wr) wr Wd := hd.mono (fun _ _ e => e.elim)
              refine zT 0 (.pointer (some ⟨a, 0, none⟩)) rfl (by kernel_rfl) (by rfl) hS (fun _ _ _ h => h) (fun W' hS' => by go_simp) ?_
              refine zT 1 (.agg mcs) rfl (by kernel_rfl) (by rfl) hS (fun _ _ _ h => h) (fun W' hS' => by exact run_load_struct (sz := 46) (b := MB) (off := 0) rfl STMsg (by go_simp) (fun j u hu => by rw [Nat.zero_add, (hMB.law hS' (by decide) (by decide) (by decide)).cell]; rw [Array.getElem?_toList] at hu; exact hu) hmz) ?_
              refine zT 2 (.slice (some ⟨TB, 0, none⟩) 2 2) rfl (by kernel_rfl) (by rfl) hS (fun _ _ _ h => h) (fun W' hS' => by go_simp) ?_
              refine zT 3 (.int .i64 0) rfl (by kernel_rfl) (by rfl) hS (fun _ _ _ h => h) (fun W' hS' => by go_simp) ?_
              refine zT 4 (.pointer (some ⟨TB, 0, none⟩)) rfl (by kernel_rfl) (by rfl) hS (fun _ _ _ h => h) (fun W' hS' => by go_simp) ?_
              refine zT 5 (.slice A1 n1 c1) rfl (by kernel_rfl) (by rfl) hS (fun _ _ _ h => h) (fun W' hS' => by have q9 : W'.cell? ⟨TB, 0, none⟩ = some (.slice A1 n1 c1) := (hTB.law hS' (by decide) (by decide) (by decide)).cell 0; go_simp) ?_
              refine zT 6 (.agg #[.int .i64 0, .int .i64 0, .bool false, .int .i64 0, .int .i64 5, (.slice A1 n1 c1), .int .i64 0, .int .i64 0, .int .i64 0, .int .i64 0, .int .i64 0, .int .i64 0, .int .i64 0, .bool false, .int .i64 0, .int .i64 0, .int .i64 0, .int .i64 0, .slice none 0 0, .slice none 0 0, .slice none 0 0, .slice none 0 0, .int .i64 0, .int .i64 0, .int .i64 0, .int .i64 0, .int .i64 0, .int .i64 0, .int .i64 0, .slice none 0 0, .int .i64 0, .bool false, .int .i64 0, .int .i64 0, .int .i64 0, .bool false, .bool false, .int .i64 0, .int .i64 0, .int .i64 0, .slice none 0 0, .int .i64 0, .int .i64 0, .int .i64 0, .slice none 0 0, .slice none 0 0, .bool false, .slice none 0 0, .slice none 0 0, .int .i64 0, .int .i64 0, .slice none 0 0]) rfl (by kernel_rfl) (by rfl) hS (fun _ _ _ h => h) (fun W' hS' => by exact run_build_op rfl (by kernel_rfl)) ?_
              (try simp only [Act.put, zA, zB, zC, zD, zE, zF])
              refine zO 7 (by kernel_rfl) ?_
              refine wpOp_call rfl (by rfl) ?_ ((hans Wd).mono ?_)
              · go_simp
              rintro e w6 ⟨cs6, rfl, hI6, h456, hx6⟩
              have hS6 : Ext (LawB W wr) wr w6 := (hd.tr hx6).mono (fun _ _ e => e.elim)
              refine ⟨_, rfl, hS6, ?_⟩
              (try simp only [Act.put, zA, zB, zC, zD, zE, zF])
              refine zO 8 (by kernel_rfl) ?_
              have hL6 := hL.e0 (hd.tr hx6)
              have hll : l1.length ≤ 1048577 := by have h9 := hl1.len; omega
              have hcall := lwTake hL6 hlim (by omega) hI6 (show In64 1 by unfold In64; omega) h456 (hl1.ext0 hL6.ext) (by omega) (hL6.off hl1 (by decide)) hi1 (tBT _ l1)
              have hlim7 := Ag.Lim.take hlim ⟨10, 1, 102, 1, 0, 6, 0, 5, 0, 5⟩ l1 hll
              rw [tBT] at hlim7
              have hK := Ag.knows_told (SB 3 []) rfl l1
              refine wpOp_call rfl (by rfl) ?_ (hcall.mono ?_)
              · go_simp
              rintro e w7 ⟨rfl, hL7, hx7⟩
              have hS7 : Ext (LawB W wr) wr w7 := AgB.trans hS6 hx7
              refine ⟨_, rfl, hS7, wpAnyH_done (by kernel_rfl) ?_ _⟩
              (try simp only [Act.put, zA, zB, zC, zD, zE, zF])
              have hMB7 := hMB.law hS7 (by decide) (by decide) (by decide)
              have hTB7 := hTB.law hS7 (by decide) (by decide) (by decide)
              have hER7 := own_law hER hS7 (by decide) (by decide) (by decide)
              have hwz7 := Nat.le_trans hwz hS7.size
              generalize hTq : (Ag.told (SB 3 []) l1).tasks = T' at hL7 hlim7 hK
              clear hTq hcall hL6 hlim hL hMB hTB hER hwz hx7 hS7 hS6 hx6 h456 hI6 hmi hS hd hans
              have hRO0 := Ag.run_ok hOwn hAsc hK (SC 0 T') rfl
              have hOB0 := Ag.obeys_ok hOwn hAsc hStp hK (SC 0 T') rfl
              have HKN := Lib.hid (And.intro hK (And.intro hOwn hAsc))
              obtain ⟨rn, hrn⟩ : ∃ z, (Ag.running (SC 0 T')).length = z := ⟨_, rfl⟩
              have hrun := lwRun rn hL7 hlim7.tasks rfl hrn
              have HRN := Lib.hid (show rn ≤ 1048577 by
                rw [← hrn]
                refine Nat.le_trans ?_ hlim7.tasks
                unfold Ag.running
                rw [List.length_map]
                exact List.length_filter_le _ _)
              generalize Ag.running (SC 0 T') = run at hrun hRO0 hOB0 hrn
              have HRO := Lib.hid hRO0
              have HOB := Lib.hid hOB0
              have HLL := Lib.hid (show l1.length = n1 by have h9 := hl1.len; exact h9.symm)
              clear hRO0 hOB0 hK hOwn hAsc hStp hrn hll
              go_upto_region 26 with (first | go_skip | go_guarded | (go_at_call 11; (with_reducible refine hrun.mono ?_); rintro e w8 ⟨RA, rc, rfl, hsr, hx8⟩))
              have hL8 := hL7.e0 hx8
              have hMB8 := hMB7.e0 hx8
              have hTB8 := hTB7.e0 hx8
              have hER8 := own_ext hER7 hx8 (fun _ _ e => e)
              have hwz8 := Nat.le_trans hwz7 hx8.size
              clear hrun hL7 hMB7 hTB7 hER7 hwz7 hx8
              go_loopw [18] (fun iv wr => ∃ i : Nat, i ≤ rn ∧ iv = .int .i64 i ∧ Ext Nothing w8 wr) (fun iv _ => rn - (intOf iv).toNat)
              case atStart => exact ⟨0, Nat.zero_le _, rfl, Ext.refl _ _⟩
              case round =>
                obtain ⟨i, hi9, rfl, hxi⟩ := hrel
                by_cases hli : i < rn
                · obtain ⟨hjx, q, off, hAe, hce⟩ := hsr.get (f := AllocD.cells) hxi hli
                  have hrn9 := HRN.out
                  have hnode := HRO.out.node _ (List.getElem_mem hjx)
                  have hfd := HRO.out.found _ (List.getElem_mem hjx)
                  have hprev : ∀ i', i = i' + 1 → ∃ y : AllocD, (∀ j u, (AllocD.cells y)[j]? = some u → wr.cell? ⟨q, off + i' * 11 + j, none⟩ = some u) ∧ y.id < run[i].id := fun i' e => by
                    obtain ⟨hjy, q3, o3, hA3, hc3⟩ := hsr.get (f := AllocD.cells) hxi (show i' < rn by omega)
                    obtain rfl : q = q3 := by have h9 := hAe.symm.trans hA3; injection h9 with h9; injection h9
                    obtain rfl : off = o3 := by have h9 := hAe.symm.trans hA3; injection h9 with h9; injection h9
                    refine ⟨run[i'], hc3, ?_⟩
                    have h9 := List.pairwise_iff_getElem.1 HRO.out.asc i' i (by simpa using hjy) (by simpa using hjx) (by omega)
                    simpa using h9
                  generalize run[i] = x at hce hnode hfd hprev
                  have HFD := Lib.hid (show (l1.any fun y => y.id == x.id) = true by
                    obtain ⟨y, hy, e⟩ := hfd
                    exact List.any_eq_true.2 ⟨y, hy, by simpa using e⟩)
                  have HIL := Lib.hid hli
                  have hcD : ∀ j u, x.cells.toArray.toList[j]? = some u → wr.cell? ⟨q, off + i * 11 + j, none⟩ = some u := fun j u hu => hce j u (by simpa using hu)
                  have hk0 : (0 : Int) ≤ (i : Int) := by omega
                  have hk1 : (i : Int) < rn := by omega
                  have HPV := Lib.hid hprev
                  subst hAe
                  clear hce hfd hli hjx hprev
                  go_upto_region 29 with (first | go_skip | go_guarded | ((with_reducible refine isLd 67 rfl ?_); refine wpList_load_at rfl 67 _ rfl STAllocG q (off + i * 11) rfl x.cells.toArray hcD rfl ?_) | ((with_reducible refine isAl 67 rfl ?_); refine wpList_alloc_any rfl _ rfl ZTAllocG ?_; intro z hz9) | ((with_reducible refine isSt 67 rfl ?_); refine wpList_store_new rfl _ _ _ rfl STAllocG z hz9 rfl rfl x.cells.toArray rfl rfl rfl ?_; clear hz9))
                  (try simp only [Act.put, zA, zB, zC, zD, zE, zF])
                  have hxX : Ext Nothing wr (wr.alloc (.cells x.cells.toArray 67)) := Ext.auto
                  have hX := Blk.new wr 67 x.cells.toArray
                  have hx9 := hxi.tr hxX
                  have HPW := Lib.hid (show ∀ i', i = i' + 1 → ∃ y : AllocD, (wr.alloc (.cells x.cells.toArray 67)).cell? ⟨q, off + i' * 11, none⟩ = some (.int .i64 y.id) ∧ y.id < x.id from fun i' e => by
                    obtain ⟨y, h1, h2⟩ := HPV.out i' e
                    have h9 : wr.cell? ⟨q, off + i' * 11 + 0, none⟩ = some (.int .i64 y.id) := h1 0 _ rfl
                    exact ⟨y, hxX.cell (by simpa using h9) (fun e => e), h2⟩)
                  generalize wr.heap.size = X at hX ⊢
                  clear hcD hxX hxi HPV
                  generalize (wr.alloc (.cells x.cells.toArray 67)) = w9 at hX hx9 HPW ⊢
                  have x5 : w9.cell? ⟨X, 5, none⟩ = some (.int .i64 2) := by rw [← hnode.1]; exact hX.cell 5
                  have x6 : w9.cell? ⟨X, 6, none⟩ = some (.int .i64 5) := by rw [← hnode.2]; exact hX.cell 6
                  have x0 : w9.cell? ⟨X, 0, none⟩ = some (.int .i64 x.id) := hX.cell 0
                  clear hnode
                  rcases Nat.eq_zero_or_pos i with hz | hp
                  · subst hz
                    go_quiet (fail)
                    have hdq := (Ext.refl Nothing w9).drewN nq
                    generalize w9.drewN nq = w10 at hdq ⊢
                    have hx10 := hx9.tr hdq
                    have hX3 := hX.e0 hdq
                    have hTB10 := hTB8.e0 hx10
                    have hW10 := hL8.ext.tr hx10
                    clear x0 x5 x6 hX hx9 hdq HPW
                    go_upto_region 33 with (first | go_skip | go_guarded)
                    go_loopw [20, 21] (fun fv jv wr => ∃ j : Nat, j ≤ n1 ∧ jv = .int .i64 j ∧ fv = .bool ((l1.take j).any fun y => y.id == x.id) ∧ Ext Nothing w10 wr) (fun _ jv _ => n1 - (intOf jv).toNat)
                    case atStart => exact ⟨0, Nat.zero_le _, rfl, rfl, Ext.refl _ _⟩
                    case round =>
                      obtain ⟨j, hj, rfl, rfl, hxj⟩ := hrel
                      have hX4 := hX3.e0 hxj
                      have x0 : wr.cell? ⟨X, 0, none⟩ = some (.int .i64 x.id) := hX4.cell 0
                      have tbc : wr.cell? ⟨TB, 0, none⟩ = some (.slice A1 n1 c1) := (hTB10.e0 hxj).cell 0
                      by_cases hlj : j < n1
                      · obtain ⟨hjy, q2, o2, hA2, hc2⟩ := hl1.get (f := AllocD.cells) (hW10.tr hxj) hlj
                        have hw := take_any l1 (fun y => y.id == x.id) j _ (List.getElem?_eq_getElem hjy)
                        have HW := Lib.hid hw
                        generalize l1[j] = y at hc2 HW
                        have y0 : wr.cell? ⟨q2, o2 + j * 11, none⟩ = some (.int .i64 y.id) := by have h9 : wr.cell? ⟨q2, o2 + j * 11 + 0, none⟩ = some (.int .i64 y.id) := hc2 0 _ rfl; simpa using h9
                        have HJ := Lib.hid hlj
                        have hk2 : (0 : Int) ≤ (j : Int) := by omega
                        have hk3 : (j : Int) < n1 := by omega
                        rw [hA2] at tbc
                        clear hw hc2 hlj hjy hA2 hX4
                        generalize hb : (l1.take j).any (fun y => y.id == x.id) = b at HW ⊢
                        clear hb
                        go_upto_region 35 with (first | go_skip | go_guarded)
                        cases b with
                        | true =>
                          go_quiet (fail)
                          have hdq := (Ext.refl Nothing wr).drewN nq
                          generalize wr.drewN nq = w6 at hdq ⊢
                          go_wp2_with (first | go_skip | go_guarded)
                          go_roundw
                          case rel => first | exact ⟨j + 1, HJ.out, by go_num, by rw [HW.out]; rfl, hxj.tr hdq⟩ | ((repeat apply Exists.intro); exact ⟨⟨j + 1, HJ.out, by go_num, by rw [HW.out]; rfl, hxj.tr hdq⟩, rfl⟩)
                          case measure => have := HJ.out; simp [intOf]; omega
                        | false =>
                          cases z2 : (y.id == x.id) with
                          | false =>
                            have HD2 := Lib.hid z2
                            go_quiet (fail)
                            have hdq := (Ext.refl Nothing wr).drewN nq
                            generalize wr.drewN nq = w6 at hdq ⊢
                            go_wp2_with (first | go_skip | go_guarded)
                            go_roundw
                            case rel => first | exact ⟨j + 1, HJ.out, by go_num, by rw [HW.out, HD2.out]; rfl, hxj.tr hdq⟩ | ((repeat apply Exists.intro); exact ⟨⟨j + 1, HJ.out, by go_num, by rw [HW.out, HD2.out]; rfl, hxj.tr hdq⟩, rfl⟩)
                            case measure => have := HJ.out; simp [intOf]; omega
                          | true =>
                            have HD2 := Lib.hid z2
                            go_quiet (fail)
                            have hdq := (Ext.refl Nothing wr).drewN nq
                            generalize wr.drewN nq = w6 at hdq ⊢
                            go_wp2_with (first | go_skip | go_guarded)
                            go_roundw
                            case rel => first | exact ⟨j + 1, HJ.out, by go_num, by rw [HW.out, HD2.out]; rfl, hxj.tr hdq⟩ | ((repeat apply Exists.intro); exact ⟨⟨j + 1, HJ.out, by go_num, by rw [HW.out, HD2.out]; rfl, hxj.tr hdq⟩, rfl⟩)
                            case measure => have := HJ.out; simp [intOf]; omega
                      · have hnl : ¬ ((j : Int) < n1) := by omega
                        have htw : (l1.take j).any (fun y => y.id == x.id) = true := by rw [List.take_of_length_le (by have := HLL.out; omega)]; exact HFD.out
                        rw [htw]
                        have hxe := hx10.tr hxj
                        go_wp2_with (first | go_skip | go_guarded)
                        go_roundw
                        case rel => first | exact ⟨0 + 1, HIL.out, by go_num, hxe⟩ | ((repeat apply Exists.intro); exact ⟨⟨0 + 1, HIL.out, by go_num, hxe⟩, rfl⟩)
                        case measure => have := HIL.out; simp [intOf]; omega
                  · obtain ⟨i', hi'⟩ : ∃ i', i = i' + 1 := ⟨i - 1, by omega⟩
                    obtain ⟨y, y0, hlt⟩ := HPW.out i' hi'
                    have hgt : decide ((0 : Int) < (i : Int)) = true := decide_eq_true (by omega)
                    have hge : decide (x.id ≤ y.id) = false := decide_eq_false (by omega)
                    have hi0 : (0 : Int) ≤ (i' : Int) := by omega
                    have hi1 : (i' : Int) < rn := by omega
                    have hsub : (i : Int) - 1 = (i' : Int) := by omega
                    have hgn : decide (0 < i) = true := decide_eq_true hp
                    have hw1 : IntKind.i64.wrap ((i : Int) - 1) = (i' : Int) := by rw [IntKind.wrap_i64]; omega
                    have hw2 : wrap64 ((i : Int) - 1) = (i' : Int) := by unfold wrap64; omega
                    have hir : i' < rn := by omega
                    clear hi' hlt
                    go_quiet (fail)
                    have hdq := (Ext.refl Nothing w9).drewN nq
                    generalize w9.drewN nq = w10 at hdq ⊢
                    have hx10 := hx9.tr hdq
                    have hX3 := hX.e0 hdq
                    have hTB10 := hTB8.e0 hx10
                    have hW10 := hL8.ext.tr hx10
                    clear x0 x5 x6 hX hx9 hdq HPW y0 hge hgt hgn hp hsub hi0 hi1 hw1 hw2 hir
                    go_upto_region 33 with (first | go_skip | go_guarded)
                    go_loopw [20, 21] (fun fv jv wr => ∃ j : Nat, j ≤ n1 ∧ jv = .int .i64 j ∧ fv = .bool ((l1.take j).any fun y => y.id == x.id) ∧ Ext Nothing w10 wr) (fun _ jv _ => n1 - (intOf jv).toNat)
                    case atStart => exact ⟨0, Nat.zero_le _, rfl, rfl, Ext.refl _ _⟩
                    case round =>
                      obtain ⟨j, hj, rfl, rfl, hxj⟩ := hrel
                      have hX4 := hX3.e0 hxj
                      have x0 : wr.cell? ⟨X, 0, none⟩ = some (.int .i64 x.id) := hX4.cell 0
                      have tbc : wr.cell? ⟨TB, 0, none⟩ = some (.slice A1 n1 c1) := (hTB10.e0 hxj).cell 0
                      by_cases hlj : j < n1
                      · obtain ⟨hjy, q2, o2, hA2, hc2⟩ := hl1.get (f := AllocD.cells) (hW10.tr hxj) hlj
                        have hw := take_any l1 (fun y => y.id == x.id) j _ (List.getElem?_eq_getElem hjy)
                        have HW := Lib.hid hw
                        generalize l1[j] = y at hc2 HW
                        have y0 : wr.cell? ⟨q2, o2 + j * 11, none⟩ = some (.int .i64 y.id) := by have h9 : wr.cell? ⟨q2, o2 + j * 11 + 0, none⟩ = some (.int .i64 y.id) := hc2 0 _ rfl; simpa using h9
                        have HJ := Lib.hid hlj
                        have hk2 : (0 : Int) ≤ (j : Int) := by omega
                        have hk3 : (j : Int) < n1 := by omega
                        rw [hA2] at tbc
                        clear hw hc2 hlj hjy hA2 hX4
                        generalize hb : (l1.take j).any (fun y => y.id == x.id) = b at HW ⊢
                        clear hb
                        go_upto_region 35 with (first | go_skip | go_guarded)
                        cases b with
                        | true =>
                          go_quiet (fail)
                          have hdq := (Ext.refl Nothing wr).drewN nq
                          generalize wr.drewN nq = w6 at hdq ⊢
                          go_wp2_with (first | go_skip | go_guarded)
                          go_roundw
                          case rel => first | exact ⟨j + 1, HJ.out, by go_num, by rw [HW.out]; rfl, hxj.tr hdq⟩ | ((repeat apply Exists.intro); exact ⟨⟨j + 1, HJ.out, by go_num, by rw [HW.out]; rfl, hxj.tr hdq⟩, rfl⟩)
                          case measure => have := HJ.out; simp [intOf]; omega
                        | false =>
                          cases z2 : (y.id == x.id) with
                          | false =>
                            have HD2 := Lib.hid z2
                            go_quiet (fail)
                            have hdq := (Ext.refl Nothing wr).drewN nq
                            generalize wr.drewN nq = w6 at hdq ⊢
                            go_wp2_with (first | go_skip | go_guarded)
                            go_roundw
                            case rel => first | exact ⟨j + 1, HJ.out, by go_num, by rw [HW.out, HD2.out]; rfl, hxj.tr hdq⟩ | ((repeat apply Exists.intro); exact ⟨⟨j + 1, HJ.out, by go_num, by rw [HW.out, HD2.out]; rfl, hxj.tr hdq⟩, rfl⟩)
                            case measure => have := HJ.out; simp [intOf]; omega
                          | true =>
                            have HD2 := Lib.hid z2
                            go_quiet (fail)
                            have hdq := (Ext.refl Nothing wr).drewN nq
                            generalize wr.drewN nq = w6 at hdq ⊢
                            go_wp2_with (first | go_skip | go_guarded)
                            go_roundw
                            case rel => first | exact ⟨j + 1, HJ.out, by go_num, by rw [HW.out, HD2.out]; rfl, hxj.tr hdq⟩ | ((repeat apply Exists.intro); exact ⟨⟨j + 1, HJ.out, by go_num, by rw [HW.out, HD2.out]; rfl, hxj.tr hdq⟩, rfl⟩)
                            case measure => have := HJ.out; simp [intOf]; omega
                      · have hnl : ¬ ((j : Int) < n1) := by omega
                        have htw : (l1.take j).any (fun y => y.id == x.id) = true := by rw [List.take_of_length_le (by have := HLL.out; omega)]; exact HFD.out
                        rw [htw]
                        have hxe := hx10.tr hxj
                        go_wp2_with (first | go_skip | go_guarded)
                        go_roundw
                        case rel => first | exact ⟨i + 1, HIL.out, by go_num, hxe⟩ | ((repeat apply Exists.intro); exact ⟨⟨i + 1, HIL.out, by go_num, hxe⟩, rfl⟩)
                        case measure => have := HIL.out; simp [intOf]; omega
                · have hnl : ¬ ((i : Int) < rn) := by omega
                  have hL9 := hL8.e0 hxi
                  have hMB9 := hMB8.e0 hxi
                  have hTB9 := hTB8.e0 hxi
                  have hER9 := own_ext hER8 hxi (fun _ _ e => e)
                  have hsr9 := hsr.ext0 hxi
                  have hwz9 := Nat.le_trans hwz8 hxi.size
                  clear hL8 hMB8 hTB8 hER8 hsr hwz8 hli hi9
                  have hxi9 := Lib.hid True.intro
                  clear hxi
                  obtain ⟨w9, rfl⟩ : ∃ z : World, z = wr := ⟨_, rfl⟩
                  have tbc : w9.cell? ⟨TB, 0, none⟩ = some (.slice A1 n1 c1) := hTB9.cell 0
                  have hse : Sl w9 1 EA em (([]).map fun i => [Value.int .i64 i]) := Sl.of_own (f := fun i : Int => [Value.int .i64 i]) (fun _ => rfl) hER9 HEL.out.symm
                  have hobc := lawObeys RA A1 EA rn rc n1 c1 em ec run l1 ([]) w9 hsr9 (hl1.ext0 hL9.ext) hse (by have h9 := HRN.out; omega) (by omega) (by have h9 := HEM.out; omega) HOB.out
                  go_upto_region 42 with (first | go_skip | go_guarded | (go_at_call 17; (with_reducible refine hobc.mono ?_); rintro e w11 ⟨rfl, hx11⟩))
                  have hL11 := hL9.e0 hx11
                  have hMB11 := hMB9.e0 hx11
                  have hTB11 := hTB9.e0 hx11
                  have hER11 := own_ext hER9 hx11 (fun _ _ e => e)
                  have hwz11 := Nat.le_trans hwz9 hx11.size
                  clear hL9 hMB9 hTB9 hER9 hsr9 hwz9 tbc hse hobc hx11
                  go_loopw [12, 23] (fun ev jv wr => ∃ j : Nat, j ≤ n1 ∧ jv = .int .i64 j ∧ ∃ E2 EA' em' ec', ev = .slice EA' em' ec' ∧ E2 = ([]) ++ ((l1.take j).filter (·.stop)).map (·.id) ∧ Law W wr a b (SC 0 T') DD ∧ Blk wr MB 51 mcs ∧ Blk wr TB 43 #[.slice A1 n1 c1, .slice A2 n2 c2] ∧ wr.ownsRow wB.heap.size 3 1 (.slice EA' em' ec') em' (E2.flatMap fun i => [Value.int .i64 i]) ∧ E2.length = em' ∧ em' ≤ em + j ∧ wB.heap.size ≤ wr.heap.size) (fun _ jv _ => n1 - (intOf jv).toNat)
                  case atStart => exact ⟨0, Nat.zero_le _, rfl, _, EA, em, ec, rfl, rfl, hL11, hMB11, hTB11, by simpa using hER11, by simpa using HEL.out, by omega, hwz11⟩
                  case round =>
                    clear hL11 hMB11 hTB11 hER11 hwz11
                    obtain ⟨j, hj, rfl, E2, EA', em', ec', rfl, hE2, hLr, hMr, hTr, hEr, hEl, hEm, hwr⟩ := hrel
                    have tbc : wr.cell? ⟨TB, 0, none⟩ = some (.slice A1 n1 c1) := hTr.cell 0
                    by_cases hlj : j < n1
                    · obtain ⟨hjy, q2, o2, hA2, hc2⟩ := hl1.get (f := AllocD.cells) hLr.ext hlj
                      have hw : (l1.take (j + 1)).filter (·.stop) = (l1.take j).filter (·.stop) ++ if l1[j].stop then [l1[j]] else [] := by
                        rw [List.take_add_one, List.getElem?_eq_getElem hjy, List.filter_append]
                        congr 1
                        cases h9 : l1[j].stop <;> simp [List.filter_cons, h9]
                      have HW := Lib.hid hw
                      generalize l1[j] = y at hc2 HW
                      have y0 : wr.cell? ⟨q2, o2 + j * 11, none⟩ = some (.int .i64 y.id) := by have h9 : wr.cell? ⟨q2, o2 + j * 11 + 0, none⟩ = some (.int .i64 y.id) := hc2 0 _ rfl; simpa using h9
                      have y9 : wr.cell? ⟨q2, o2 + j * 11 + 9, none⟩ = some (.bool y.stop) := hc2 9 _ rfl
                      have HJ := Lib.hid hlj
                      have HE := Lib.hid (And.intro hE2 (And.intro hEl hEm))
                      have hk2 : (0 : Int) ≤ (j : Int) := by omega
                      have hk3 : (j : Int) < n1 := by omega
                      rw [hA2] at tbc
                      clear hw hc2 hlj hjy hA2 hE2 hEl
                      cases z2 : y.stop with
                      | false =>
                        rw [z2] at y9
                        have HS := Lib.hid z2
                        go_wp2_with (first | go_skip | go_guarded)
                        go_roundw
                        case rel => first | exact ⟨j + 1, HJ.out, by go_num, E2, EA', em', ec', rfl, by rw [HE.out.1, HW.out, HS.out]; simp, hLr, hMr, hTr, hEr, HE.out.2.1, by have := HE.out.2.2; omega, hwr⟩ | ((repeat apply Exists.intro); exact ⟨⟨j + 1, HJ.out, by go_num, E2, EA', em', ec', rfl, by rw [HE.out.1, HW.out, HS.out]; simp, hLr, hMr, hTr, hEr, HE.out.2.1, by have := HE.out.2.2; omega, hwr⟩, rfl⟩)
                        case measure => have := HJ.out; simp [intOf]; omega
                      | true =>
                        rw [z2] at y9
                        have HS := Lib.hid z2
                        have hm9 : em' < 67108864 := by have h9 := HE.out.2.2; have h8 := HEM.out; have h7 := HJ.out; omega
                        have hxa : Ext Nothing wr (wr.alloc (.cells #[.int .i64 y.id] 3)) := Ext.auto
                        go_wp2_with (first | go_skip | go_guarded | ((with_reducible refine isBs 34 rfl ?_); refine wpList_slice1 rfl 34 _ rfl SRIntG #[.int .i64 y.id] rfl rfl ?_) | (at_builtin; refine wpList_app1 rfl _ _ 34 rfl wB.heap.size SRIntG (.slice EA' em' ec') em' _ rfl (own_ext hEr hxa (fun g hg e => e)) wr.heap.size 1 #[.int .i64 y.id] rfl (Blk.new _ _ _) rfl rfl hm9 (Nat.le_trans hwr hxa.size) ?_; intro A7 k7 w7 ho7 hgr7))
                        have hx7 : Ext (fun q => (Value.slice EA' em' ec').ownBlock = some q) wr w7 := (hxa.mono (fun _ _ e => e.elim) : Ext (fun q => (Value.slice EA' em' ec').ownBlock = some q) wr _).grown hgr7 (fun g hg => .inr hg)
                        have hL7' := hLr.row hEr HLB.out.2.2.2.2 (by decide) (by decide) (by decide) (by decide) (by decide) (by decide) hx7
                        have hM7' := hMr.ext hx7 (fun e => own_ne hEr hMr (by decide) e)
                        have hT7' := hTr.ext hx7 (fun e => own_ne hEr hTr (by decide) e)
                        go_roundw
                        case rel => first | exact ⟨j + 1, HJ.out, by go_num, E2 ++ [y.id], A7, em' + 1, k7, rfl, by rw [HE.out.1, HW.out, HS.out]; simp, hL7', hM7', hT7', by rw [List.flatMap_append]; simpa using ho7, by rw [List.length_append, HE.out.2.1]; rfl, by have := HE.out.2.2; omega, Nat.le_trans hwr hx7.size⟩ | ((repeat apply Exists.intro); exact ⟨⟨j + 1, HJ.out, by go_num, E2 ++ [y.id], A7, em' + 1, k7, rfl, by rw [HE.out.1, HW.out, HS.out]; simp, hL7', hM7', hT7', by rw [List.flatMap_append]; simpa using ho7, by rw [List.length_append, HE.out.2.1]; rfl, by have := HE.out.2.2; omega, Nat.le_trans hwr hx7.size⟩, rfl⟩)
                        case measure => have := HJ.out; simp [intOf]; omega
                    · have hnl : ¬ ((j : Int) < n1) := by omega
                      have HTK := Lib.hid (show l1.take j = l1 from List.take_of_length_le (by have := HLL.out; omega))
                      have HE := Lib.hid (And.intro hE2 (And.intro hEl hEm))
                      have HJ2 := Lib.hid hj
                      clear hE2 hEl hEm hlj hj
                      go_wp2_with (first | go_skip | go_guarded)
                      go_roundw
                      case rel => first | exact ⟨1, by omega, by go_num, T', E2, EA', em', ec', mcs, rfl, ⟨hLr, Ag.Lim.mono hlim7 (by omega), hMr, hmz, hTr, hEr, HE.out.2.1, by have h9 := HE.out.2.2; have h8 := HFW.out; have h7 := HJ2.out; omega, ⟨HLB.out.1, HLB.out.2.1, HLB.out.2.2.1, HLB.out.2.2.2.1, HLB.out.2.2.2.2, hwr⟩, fun e => (by cases e), fun _ => ⟨Ag.own_knows HKN.out.2.1 HKN.out.2.2 HKN.out.1, HKN.out.1.asc, by rw [HE.out.1, HTK.out]; exact Ag.stops_first HKN.out.1⟩⟩⟩ | ((repeat apply Exists.intro); exact ⟨⟨1, by omega, by go_num, T', E2, EA', em', ec', mcs, rfl, ⟨hLr, Ag.Lim.mono hlim7 (by omega), hMr, hmz, hTr, hEr, HE.out.2.1, by have h9 := HE.out.2.2; have h8 := HFW.out; have h7 := HJ2.out; omega, ⟨HLB.out.1, HLB.out.2.1, HLB.out.2.2.1, HLB.out.2.2.2.1, HLB.out.2.2.2.2, hwr⟩, fun e => (by cases e), fun _ => ⟨Ag.own_knows HKN.out.2.1 HKN.out.2.2 HKN.out.1, HKN.out.1.asc, by rw [HE.out.1, HTK.out]; exact Ag.stops_first HKN.out.1⟩⟩⟩, rfl⟩)
                      case measure => simp [intOf]
        · obtain ⟨hOwn, hAsc, hStp⟩ := hI.one rfl
          have hL := hI.law
          have hlim := hI.lim
          have hMB := hI.mb
          have hmz := hI.mz
          have hTB := hI.tb
          have hER := hI.er
          have HEL := Lib.hid hI.len
          have HEM := Lib.hid (show em ≤ 2097154 by have h9 := hI.few; omega)
          have HFW := Lib.hid hI.few
          have HLB := Lib.hid (show W.heap.size ≤ MB ∧ W.heap.size ≤ TB ∧ TB < wB.heap.size ∧ MB < wB.heap.size ∧ W.heap.size ≤ wB.heap.size from ⟨hI.lb.1, hI.lb.2.1, hI.lb.2.2.1, hI.lb.2.2.2.1, hI.lb.2.2.2.2.1⟩)
          have hwz := hI.lb.2.2.2.2.2
          have hMW := hI.lb.1
          have hMB9 := hI.lb.2.2.2.1
          have hTM : TB ≠ MB := fun e => by subst e; exact absurd rfl (Blk.ne hMB hTB (by decide))
          clear hI
          go_upto_region 18 with (first | go_skip | go_guarded)
          go_loopw [14] (fun kv wr => ∃ k : Nat, k ≤ 3 ∧ kv = .int .i64 k ∧ Law W wr a b (SC k T) DD ∧ Ag.Lim (SC k T) DD (70 + k) ∧ ∃ mcs, Blk wr MB 51 mcs ∧ mcs.size = 46 ∧ (k = 3 → MsgIs mcs gC) ∧ Blk wr TB 43 #[.slice A1 n1 c1, .slice A2 n2 c2] ∧ wr.ownsRow wB.heap.size 3 1 (.slice EA em ec) em ((ended : List Int).flatMap fun i => [Value.int .i64 i]) ∧ wB.heap.size ≤ wr.heap.size) (fun kv _ => 4 - (intOf kv).toNat)
          case atStart => exact ⟨0, by omega, rfl, hL, hlim, mcs, hMB, hmz, fun e => (by cases e), hTB, hER, hwz⟩
          case round =>
            clear hL hMB hTB hER hwz
            obtain ⟨k, hk, rfl, hL, hlim, mcs, hMB, hmz, hmi, hTB, hER, hwz⟩ := hrel
            have hkc : k = 0 ∨ k = 1 ∨ k = 2 ∨ k = 3 := by omega
            clear hk
            rcases hkc with rfl | rfl | rfl | rfl
            · have hcall := lwTick hL hlim (by omega) (tC0 _)
              go_wp2_with (first | go_skip | go_guarded | (go_at_call 9; (with_reducible refine hcall.mono ?_); rintro e w4 ⟨v, rfl, hm, hL4, hx4⟩; have hm : v = .slice none 0 0 := hm; subst hm))
              go_roundw
              case rel => first | exact ⟨1, by omega, by go_num, hL4, lim_step hlim (tC0 _), mcs, hMB.law hx4 (by decide) (by decide) (by decide), hmz, fun e => (by cases e), hTB.law hx4 (by decide) (by decide) (by decide), own_law hER hx4 (by decide) (by decide) (by decide), Nat.le_trans hwz hx4.size⟩ | ((repeat apply Exists.intro); exact ⟨⟨1, by omega, by go_num, hL4, lim_step hlim (tC0 _), mcs, hMB.law hx4 (by decide) (by decide) (by decide), hmz, fun e => (by cases e), hTB.law hx4 (by decide) (by decide) (by decide), own_law hER hx4 (by decide) (by decide) (by decide), Nat.le_trans hwz hx4.size⟩, rfl⟩)
              case measure => simp [intOf]
            · have hcall := lwTick hL hlim (by omega) (tC1 _)
              go_wp2_with (first | go_skip | go_guarded | (go_at_call 9; (with_reducible refine hcall.mono ?_); rintro e w4 ⟨v, rfl, hm, hL4, hx4⟩; have hm : v = .slice none 0 0 := hm; subst hm))
              go_roundw
              case rel => first | exact ⟨2, by omega, by go_num, hL4, lim_step hlim (tC1 _), mcs, hMB.law hx4 (by decide) (by decide) (by decide), hmz, fun e => (by cases e), hTB.law hx4 (by decide) (by decide) (by decide), own_law hER hx4 (by decide) (by decide) (by decide), Nat.le_trans hwz hx4.size⟩ | ((repeat apply Exists.intro); exact ⟨⟨2, by omega, by go_num, hL4, lim_step hlim (tC1 _), mcs, hMB.law hx4 (by decide) (by decide) (by decide), hmz, fun e => (by cases e), hTB.law hx4 (by decide) (by decide) (by decide), own_law hER hx4 (by decide) (by decide) (by decide), Nat.le_trans hwz hx4.size⟩, rfl⟩)
              case measure => simp [intOf]
            · have hcall := lwTick hL hlim (by omega) (tC2 _)
              go_upto_region 22 with (first | go_skip | go_guarded | (go_at_call 9; (with_reducible refine hcall.mono ?_); rintro e w4 ⟨v, rfl, hm, hL4, hx4⟩; obtain ⟨g, cs, rfl, hG, hGI⟩ := hm))
              have hM4 := hMB.law hx4 (by decide) (by decide) (by decide)
              go_wp2_with (first | go_skip | go_guarded | ((with_reducible refine isLd 51 rfl ?_); refine wpList_load_blk rfl 51 _ rfl STMsg g rfl cs hG hGI.size ?_) | ((with_reducible refine isSt 51 rfl ?_); refine wpList_store_blk rfl 51 _ _ rfl STMsg MB rfl cs rfl hM4 hmz hGI.size hGI.one ?_; intro w5 hb5 hx5))
              have hL5 := hL4.other hM4 hMW (by decide) (by decide) (by decide) (by decide) (by decide) (by decide) hx5
              go_roundw
              case rel => first | exact ⟨3, by omega, by go_num, hL5, lim_step hlim (tC2 _), cs, hb5, hGI.size, fun _ => hGI, (hTB.law hx4 (by decide) (by decide) (by decide)).ext hx5 (fun e => hTM e), own_ext (own_law hER hx4 (by decide) (by decide) (by decide)) hx5 (fun g hg e => by have e : g = MB := e; have h9 := (hER.lt g hg).1; omega), Nat.le_trans hwz (Nat.le_trans hx4.size hx5.size)⟩ | ((repeat apply Exists.intro); exact ⟨⟨3, by omega, by go_num, hL5, lim_step hlim (tC2 _), cs, hb5, hGI.size, fun _ => hGI, (hTB.law hx4 (by decide) (by decide) (by decide)).ext hx5 (fun e => hTM e), own_ext (own_law hER hx4 (by decide) (by decide) (by decide)) hx5 (fun g hg e => by have e : g = MB := e; have h9 := (hER.lt g hg).1; omega), Nat.le_trans hwz (Nat.le_trans hx4.size hx5.size)⟩, rfl⟩)
              case measure => simp [intOf]
            · have hmi := hmi rfl
              go_upto_region 23 with (first | go_skip | go_guarded)
              have hans := fun (Wd : World) => lawAnswer mcs #[.int .i64 0, .int .i64 0, .bool false, .int .i64 0, .int .i64 5, (.slice A2 n2 c2), .int .i64 0, .int .i64 0, .int .i64 0, .int .i64 0, .int .i64 0, .int .i64 0, .int .i64 0, .bool false, .int .i64 0, .int .i64 0, .int .i64 0, .int .i64 0, .slice none 0 0, .slice none 0 0, .slice none 0 0, .slice none 0 0, .int .i64 0, .int .i64 0, .int .i64 0, .int .i64 0, .int .i64 0, .int .i64 0, .int .i64 0, .slice none 0 0, .int .i64 0, .bool false, .int .i64 0, .int .i64 0, .int .i64 0, .bool false, .bool false, .int .i64 0, .int .i64 0, .int .i64 0, .slice none 0 0, .int .i64 0, .int .i64 0, .int .i64 0, .slice none 0 0, .slice none 0 0, .bool false, .slice none 0 0, .slice none 0 0, .int .i64 0, .int .i64 0, .slice none 0 0] _ 0 0 5 A2 n2 c2 Wd hmi ⟨rfl, rfl, rfl, rfl, rfl⟩
              refine zS (S := fun W' => Ext (LawB W wr) wr W') (by kernel_rfl) ?_
              have hd : Ext Nothing wr wr.drew := (Ext.refl _ _).drew
              generalize wr.drew = Wd at hd ⊢
              have hS : Ext (LawB W wr) wr Wd := hd.mono (fun _ _ e => e.elim)
              refine zT 0 (.pointer (some ⟨a, 0, none⟩)) rfl (by kernel_rfl) (by rfl) hS (fun _ _ _ h => h) (fun W' hS' => by go_simp) ?_
              refine zT 1 (.agg mcs) rfl (by kernel_rfl) (by rfl) hS (fun _ _ _ h => h) (fun W' hS' => by exact run_load_struct (sz := 46) (b := MB) (off := 0) rfl STMsg (by go_simp) (fun j u hu => by rw [Nat.zero_add, (hMB.law hS' (by decide) (by decide) (by decide)).cell]; rw [Array.getElem?_toList] at hu; exact hu) hmz) ?_
              refine zT 2 (.slice (some ⟨TB, 0, none⟩) 2 2) rfl (by kernel_rfl) (by rfl) hS (fun _ _ _ h => h) (fun W' hS' => by go_simp) ?_
              refine zT 3 (.int .i64 1) rfl (by kernel_rfl) (by rfl) hS (fun _ _ _ h => h) (fun W' hS' => by go_simp) ?_
              refine zT 4 (.pointer (some ⟨TB, 1, none⟩)) rfl (by kernel_rfl) (by rfl) hS (fun _ _ _ h => h) (fun W' hS' => by go_simp) ?_
              refine zT 5 (.slice A2 n2 c2) rfl (by kernel_rfl) (by rfl) hS (fun _ _ _ h => h) (fun W' hS' => by have q9 : W'.cell? ⟨TB, 1, none⟩ = some (.slice A2 n2 c2) := (hTB.law hS' (by decide) (by decide) (by decide)).cell 1; go_simp) ?_
              refine zT 6 (.agg #[.int .i64 0, .int .i64 0, .bool false, .int .i64 0, .int .i64 5, (.slice A2 n2 c2), .int .i64 0, .int .i64 0, .int .i64 0, .int .i64 0, .int .i64 0, .int .i64 0, .int .i64 0, .bool false, .int .i64 0, .int .i64 0, .int .i64 0, .int .i64 0, .slice none 0 0, .slice none 0 0, .slice none 0 0, .slice none 0 0, .int .i64 0, .int .i64 0, .int .i64 0, .int .i64 0, .int .i64 0, .int .i64 0, .int .i64 0, .slice none 0 0, .int .i64 0, .bool false, .int .i64 0, .int .i64 0, .int .i64 0, .bool false, .bool false, .int .i64 0, .int .i64 0, .int .i64 0, .slice none 0 0, .int .i64 0, .int .i64 0, .int .i64 0, .slice none 0 0, .slice none 0 0, .bool false, .slice none 0 0, .slice none 0 0, .int .i64 0, .int .i64 0, .slice none 0 0]) rfl (by kernel_rfl) (by rfl) hS (fun _ _ _ h => h) (fun W' hS' => by exact run_build_op rfl (by kernel_rfl)) ?_
              (try simp only [Act.put, zA, zB, zC, zD, zE, zF])
              refine zO 7 (by kernel_rfl) ?_
              refine wpOp_call rfl (by rfl) ?_ ((hans Wd).mono ?_)
              · go_simp
              rintro e w6 ⟨cs6, rfl, hI6, h456, hx6⟩
              have hS6 : Ext (LawB W wr) wr w6 := (hd.tr hx6).mono (fun _ _ e => e.elim)
              refine ⟨_, rfl, hS6, ?_⟩
              (try simp only [Act.put, zA, zB, zC, zD, zE, zF])
              refine zO 8 (by kernel_rfl) ?_
              have hL6 := hL.e0 (hd.tr hx6)
              have hll : l2.length ≤ 1048577 := by have h9 := hl2.len; omega
              have hcall := lwTake hL6 hlim (by omega) hI6 (show In64 2 by unfold In64; omega) h456 (hl2.ext0 hL6.ext) (by omega) (hL6.off hl2 (by decide)) hi2 (tCT _ l2)
              have hlim7 := Ag.Lim.take hlim ⟨10, 1, 102, 2, 0, 6, 0, 5, 0, 5⟩ l2 hll
              rw [tCT] at hlim7
              have hK := Ag.knows_told (SC 3 T) rfl l2
              refine wpOp_call rfl (by rfl) ?_ (hcall.mono ?_)
              · go_simp
              rintro e w7 ⟨rfl, hL7, hx7⟩
              have hS7 : Ext (LawB W wr) wr w7 := AgB.trans hS6 hx7
              refine ⟨_, rfl, hS7, wpAnyH_done (by kernel_rfl) ?_ _⟩
              (try simp only [Act.put, zA, zB, zC, zD, zE, zF])
              have hMB7 := hMB.law hS7 (by decide) (by decide) (by decide)
              have hTB7 := hTB.law hS7 (by decide) (by decide) (by decide)
              have hER7 := own_law hER hS7 (by decide) (by decide) (by decide)
              have hwz7 := Nat.le_trans hwz hS7.size
              generalize hTq : (Ag.told (SC 3 T) l2).tasks = T' at hL7 hlim7 hK
              clear hTq hcall hL6 hlim hL hMB hTB hER hwz hx7 hS7 hS6 hx6 h456 hI6 hmi hS hd hans
              have hRO0 := Ag.run_ok hOwn hAsc hK (SD 0 T') rfl
              have hOB0 := Ag.obeys_ok hOwn hAsc hStp hK (SD 0 T') rfl
              have HKN := Lib.hid (And.intro hK (And.intro hOwn hAsc))
              obtain ⟨rn, hrn⟩ : ∃ z, (Ag.running (SD 0 T')).length = z := ⟨_, rfl⟩
              have hrun := lwRun rn hL7 hlim7.tasks rfl hrn
              have HRN := Lib.hid (show rn ≤ 1048577 by
                rw [← hrn]
                refine Nat.le_trans ?_ hlim7.tasks
                unfold Ag.running
                rw [List.length_map]
                exact List.length_filter_le _ _)
              generalize Ag.running (SD 0 T') = run at hrun hRO0 hOB0 hrn
              have HRO := Lib.hid hRO0
              have HOB := Lib.hid hOB0
              have HLL := Lib.hid (show l2.length = n2 by have h9 := hl2.len; exact h9.symm)
              clear hRO0 hOB0 hK hOwn hAsc hStp hrn hll
              go_upto_region 26 with (first | go_skip | go_guarded | (go_at_call 11; (with_reducible refine hrun.mono ?_); rintro e w8 ⟨RA, rc, rfl, hsr, hx8⟩))
              have hL8 := hL7.e0 hx8
              have hMB8 := hMB7.e0 hx8
              have hTB8 := hTB7.e0 hx8
              have hER8 := own_ext hER7 hx8 (fun _ _ e => e)
              have hwz8 := Nat.le_trans hwz7 hx8.size
              clear hrun hL7 hMB7 hTB7 hER7 hwz7 hx8
              go_loopw [18] (fun iv wr => ∃ i : Nat, i ≤ rn ∧ iv = .int .i64 i ∧ Ext Nothing w8 wr) (fun iv _ => rn - (intOf iv).toNat)
              case atStart => exact ⟨0, Nat.zero_le _, rfl, Ext.refl _ _⟩
              case round =>
                obtain ⟨i, hi9, rfl, hxi⟩ := hrel
                by_cases hli : i < rn
                · obtain ⟨hjx, q, off, hAe, hce⟩ := hsr.get (f := AllocD.cells) hxi hli
                  have hrn9 := HRN.out
                  have hnode := HRO.out.node _ (List.getElem_mem hjx)
                  have hfd := HRO.out.found _ (List.getElem_mem hjx)
                  have hprev : ∀ i', i = i' + 1 → ∃ y : AllocD, (∀ j u, (AllocD.cells y)[j]? = some u → wr.cell? ⟨q, off + i' * 11 + j, none⟩ = some u) ∧ y.id < run[i].id := fun i' e => by
                    obtain ⟨hjy, q3, o3, hA3, hc3⟩ := hsr.get (f := AllocD.cells) hxi (show i' < rn by omega)
                    obtain rfl : q = q3 := by have h9 := hAe.symm.trans hA3; injection h9 with h9; injection h9
                    obtain rfl : off = o3 := by have h9 := hAe.symm.trans hA3; injection h9 with h9; injection h9
                    refine ⟨run[i'], hc3, ?_⟩
                    have h9 := List.pairwise_iff_getElem.1 HRO.out.asc i' i (by simpa using hjy) (by simpa using hjx) (by omega)
                    simpa using h9
                  generalize run[i] = x at hce hnode hfd hprev
                  have HFD := Lib.hid (show (l2.any fun y => y.id == x.id) = true by
                    obtain ⟨y, hy, e⟩ := hfd
                    exact List.any_eq_true.2 ⟨y, hy, by simpa using e⟩)
                  have HIL := Lib.hid hli
                  have hcD : ∀ j u, x.cells.toArray.toList[j]? = some u → wr.cell? ⟨q, off + i * 11 + j, none⟩ = some u := fun j u hu => hce j u (by simpa using hu)
                  have hk0 : (0 : Int) ≤ (i : Int) := by omega
                  have hk1 : (i : Int) < rn := by omega
                  have HPV := Lib.hid hprev
                  subst hAe
                  clear hce hfd hli hjx hprev
                  go_upto_region 29 with (first | go_skip | go_guarded | ((with_reducible refine isLd 67 rfl ?_); refine wpList_load_at rfl 67 _ rfl STAllocG q (off + i * 11) rfl x.cells.toArray hcD rfl ?_) | ((with_reducible refine isAl 67 rfl ?_); refine wpList_alloc_any rfl _ rfl ZTAllocG ?_; intro z hz9) | ((with_reducible refine isSt 67 rfl ?_); refine wpList_store_new rfl _ _ _ rfl STAllocG z hz9 rfl rfl x.cells.toArray rfl rfl rfl ?_; clear hz9))
                  (try simp only [Act.put, zA, zB, zC, zD, zE, zF])
                  have hxX : Ext Nothing wr (wr.alloc (.cells x.cells.toArray 67)) := Ext.auto
                  have hX := Blk.new wr 67 x.cells.toArray
                  have hx9 := hxi.tr hxX
                  have HPW := Lib.hid (show ∀ i', i = i' + 1 → ∃ y : AllocD, (wr.alloc (.cells x.cells.toArray 67)).cell? ⟨q, off + i' * 11, none⟩ = some (.int .i64 y.id) ∧ y.id < x.id from fun i' e => by
                    obtain ⟨y, h1, h2⟩ := HPV.out i' e
                    have h9 : wr.cell? ⟨q, off + i' * 11 + 0, none⟩ = some (.int .i64 y.id) := h1 0 _ rfl
                    exact ⟨y, hxX.cell (by simpa using h9) (fun e => e), h2⟩)
                  generalize wr.heap.size = X at hX ⊢
                  clear hcD hxX hxi HPV
                  generalize (wr.alloc (.cells x.cells.toArray 67)) = w9 at hX hx9 HPW ⊢
                  have x5 : w9.cell? ⟨X, 5, none⟩ = some (.int .i64 2) := by rw [← hnode.1]; exact hX.cell 5
                  have x6 : w9.cell? ⟨X, 6, none⟩ = some (.int .i64 5) := by rw [← hnode.2]; exact hX.cell 6
                  have x0 : w9.cell? ⟨X, 0, none⟩ = some (.int .i64 x.id) := hX.cell 0
                  clear hnode
                  rcases Nat.eq_zero_or_pos i with hz | hp
                  · subst hz
                    go_quiet (fail)
                    have hdq := (Ext.refl Nothing w9).drewN nq
                    generalize w9.drewN nq = w10 at hdq ⊢
                    have hx10 := hx9.tr hdq
                    have hX3 := hX.e0 hdq
                    have hTB10 := hTB8.e0 hx10
                    have hW10 := hL8.ext.tr hx10
                    clear x0 x5 x6 hX hx9 hdq HPW
                    go_upto_region 33 with (first | go_skip | go_guarded)
                    go_loopw [20, 21] (fun fv jv wr => ∃ j : Nat, j ≤ n2 ∧ jv = .int .i64 j ∧ fv = .bool ((l2.take j).any fun y => y.id == x.id) ∧ Ext Nothing w10 wr) (fun _ jv _ => n2 - (intOf jv).toNat)
                    case atStart => exact ⟨0, Nat.zero_le _, rfl, rfl, Ext.refl _ _⟩
                    case round =>
                      obtain ⟨j, hj, rfl, rfl, hxj⟩ := hrel
                      have hX4 := hX3.e0 hxj
                      have x0 : wr.cell? ⟨X, 0, none⟩ = some (.int .i64 x.id) := hX4.cell 0
                      have tbc : wr.cell? ⟨TB, 1, none⟩ = some (.slice A2 n2 c2) := (hTB10.e0 hxj).cell 1
                      by_cases hlj : j < n2
                      · obtain ⟨hjy, q2, o2, hA2, hc2⟩ := hl2.get (f := AllocD.cells) (hW10.tr hxj) hlj
                        have hw := take_any l2 (fun y => y.id == x.id) j _ (List.getElem?_eq_getElem hjy)
                        have HW := Lib.hid hw
                        generalize l2[j] = y at hc2 HW
                        have y0 : wr.cell? ⟨q2, o2 + j * 11, none⟩ = some (.int .i64 y.id) := by have h9 : wr.cell? ⟨q2, o2 + j * 11 + 0, none⟩ = some (.int .i64 y.id) := hc2 0 _ rfl; simpa using h9
                        have HJ := Lib.hid hlj
                        have hk2 : (0 : Int) ≤ (j : Int) := by omega
                        have hk3 : (j : Int) < n2 := by omega
                        rw [hA2] at tbc
                        clear hw hc2 hlj hjy hA2 hX4
                        generalize hb : (l2.take j).any (fun y => y.id == x.id) = b at HW ⊢
                        clear hb
                        go_upto_region 35 with (first | go_skip | go_guarded)
                        cases b with
                        | true =>
                          go_quiet (fail)
                          have hdq := (Ext.refl Nothing wr).drewN nq
                          generalize wr.drewN nq = w6 at hdq ⊢
                          go_wp2_with (first | go_skip | go_guarded)
                          go_roundw
                          case rel => first | exact ⟨j + 1, HJ.out, by go_num, by rw [HW.out]; rfl, hxj.tr hdq⟩ | ((repeat apply Exists.intro); exact ⟨⟨j + 1, HJ.out, by go_num, by rw [HW.out]; rfl, hxj.tr hdq⟩, rfl⟩)
                          case measure => have := HJ.out; simp [intOf]; omega
                        | false =>
                          cases z2 : (y.id == x.id) with
                          | false =>
                            have HD2 := Lib.hid z2
                            go_quiet (fail)
                            have hdq := (Ext.refl Nothing wr).drewN nq
                            generalize wr.drewN nq = w6 at hdq ⊢
                            go_wp2_with (first | go_skip | go_guarded)
                            go_roundw
                            case rel => first | exact ⟨j + 1, HJ.out, by go_num, by rw [HW.out, HD2.out]; rfl, hxj.tr hdq⟩ | ((repeat apply Exists.intro); exact ⟨⟨j + 1, HJ.out, by go_num, by rw [HW.out, HD2.out]; rfl, hxj.tr hdq⟩, rfl⟩)
                            case measure => have := HJ.out; simp [intOf]; omega
                          | true =>
                            have HD2 := Lib.hid z2
                            go_quiet (fail)
                            have hdq := (Ext.refl Nothing wr).drewN nq
                            generalize wr.drewN nq = w6 at hdq ⊢
                            go_wp2_with (first | go_skip | go_guarded)
                            go_roundw
                            case rel => first | exact ⟨j + 1, HJ.out, by go_num, by rw [HW.out, HD2.out]; rfl, hxj.tr hdq⟩ | ((repeat apply Exists.intro); exact ⟨⟨j + 1, HJ.out, by go_num, by rw [HW.out, HD2.out]; rfl, hxj.tr hdq⟩, rfl⟩)
                            case measure => have := HJ.out; simp [intOf]; omega
                      · have hnl : ¬ ((j : Int) < n2) := by omega
                        have htw : (l2.take j).any (fun y => y.id == x.id) = true := by rw [List.take_of_length_le (by have := HLL.out; omega)]; exact HFD.out
                        rw [htw]
                        have hxe := hx10.tr hxj
                        go_wp2_with (first | go_skip | go_guarded)
                        go_roundw
                        case rel => first | exact ⟨0 + 1, HIL.out, by go_num, hxe⟩ | ((repeat apply Exists.intro); exact ⟨⟨0 + 1, HIL.out, by go_num, hxe⟩, rfl⟩)
                        case measure => have := HIL.out; simp [intOf]; omega
                  · obtain ⟨i', hi'⟩ : ∃ i', i = i' + 1 := ⟨i - 1, by omega⟩
                    obtain ⟨y, y0, hlt⟩ := HPW.out i' hi'
                    have hgt : decide ((0 : Int) < (i : Int)) = true := decide_eq_true (by omega)
                    have hge : decide (x.id ≤ y.id) = false := decide_eq_false (by omega)
                    have hi0 : (0 : Int) ≤ (i' : Int) := by omega
                    have hi1 : (i' : Int) < rn := by omega
                    have hsub : (i : Int) - 1 = (i' : Int) := by omega
                    have hgn : decide (0 < i) = true := decide_eq_true hp
                    have hw1 : IntKind.i64.wrap ((i : Int) - 1) = (i' : Int) := by rw [IntKind.wrap_i64]; omega
                    have hw2 : wrap64 ((i : Int) - 1) = (i' : Int) := by unfold wrap64; omega
                    have hir : i' < rn := by omega
                    clear hi' hlt
                    go_quiet (fail)
                    have hdq := (Ext.refl Nothing w9).drewN nq
                    generalize w9.drewN nq = w10 at hdq ⊢
                    have hx10 := hx9.tr hdq
                    have hX3 := hX.e0 hdq
                    have hTB10 := hTB8.e0 hx10
                    have hW10 := hL8.ext.tr hx10
                    clear x0 x5 x6 hX hx9 hdq HPW y0 hge hgt hgn hp hsub hi0 hi1 hw1 hw2 hir
                    go_upto_region 33 with (first | go_skip | go_guarded)
                    go_loopw [20, 21] (fun fv jv wr => ∃ j : Nat, j ≤ n2 ∧ jv = .int .i64 j ∧ fv = .bool ((l2.take j).any fun y => y.id == x.id) ∧ Ext Nothing w10 wr) (fun _ jv _ => n2 - (intOf jv).toNat)
                    case atStart => exact ⟨0, Nat.zero_le _, rfl, rfl, Ext.refl _ _⟩
                    case round =>
                      obtain ⟨j, hj, rfl, rfl, hxj⟩ := hrel
                      have hX4 := hX3.e0 hxj
                      have x0 : wr.cell? ⟨X, 0, none⟩ = some (.int .i64 x.id) := hX4.cell 0
                      have tbc : wr.cell? ⟨TB, 1, none⟩ = some (.slice A2 n2 c2) := (hTB10.e0 hxj).cell 1
                      by_cases hlj : j < n2
                      · obtain ⟨hjy, q2, o2, hA2, hc2⟩ := hl2.get (f := AllocD.cells) (hW10.tr hxj) hlj
                        have hw := take_any l2 (fun y => y.id == x.id) j _ (List.getElem?_eq_getElem hjy)
                        have HW := Lib.hid hw
                        generalize l2[j] = y at hc2 HW
                        have y0 : wr.cell? ⟨q2, o2 + j * 11, none⟩ = some (.int .i64 y.id) := by have h9 : wr.cell? ⟨q2, o2 + j * 11 + 0, none⟩ = some (.int .i64 y.id) := hc2 0 _ rfl; simpa using h9
                        have HJ := Lib.hid hlj
                        have hk2 : (0 : Int) ≤ (j : Int) := by omega
                        have hk3 : (j : Int) < n2 := by omega
                        rw [hA2] at tbc
                        clear hw hc2 hlj hjy hA2 hX4
                        generalize hb : (l2.take j).any (fun y => y.id == x.id) = b at HW ⊢
                        clear hb
                        go_upto_region 35 with (first | go_skip | go_guarded)
                        cases b with
                        | true =>
                          go_quiet (fail)
                          have hdq := (Ext.refl Nothing wr).drewN nq
                          generalize wr.drewN nq = w6 at hdq ⊢
                          go_wp2_with (first | go_skip | go_guarded)
                          go_roundw
                          case rel => first | exact ⟨j + 1, HJ.out, by go_num, by rw [HW.out]; rfl, hxj.tr hdq⟩ | ((repeat apply Exists.intro); exact ⟨⟨j + 1, HJ.out, by go_num, by rw [HW.out]; rfl, hxj.tr hdq⟩, rfl⟩)
                          case measure => have := HJ.out; simp [intOf]; omega
                        | false =>
                          cases z2 : (y.id == x.id) with
                          | false =>
                            have HD2 := Lib.hid z2
                            go_quiet (fail)
                            have hdq := (Ext.refl Nothing wr).drewN nq
                            generalize wr.drewN nq = w6 at hdq ⊢
                            go_wp2_with (first | go_skip | go_guarded)
                            go_roundw
                            case rel => first | exact ⟨j + 1, HJ.out, by go_num, by rw [HW.out, HD2.out]; rfl, hxj.tr hdq⟩ | ((repeat apply Exists.intro); exact ⟨⟨j + 1, HJ.out, by go_num, by rw [HW.out, HD2.out]; rfl, hxj.tr hdq⟩, rfl⟩)
                            case measure => have := HJ.out; simp [intOf]; omega
                          | true =>
                            have HD2 := Lib.hid z2
                            go_quiet (fail)
                            have hdq := (Ext.refl Nothing wr).drewN nq
                            generalize wr.drewN nq = w6 at hdq ⊢
                            go_wp2_with (first | go_skip | go_guarded)
                            go_roundw
                            case rel => first | exact ⟨j + 1, HJ.out, by go_num, by rw [HW.out, HD2.out]; rfl, hxj.tr hdq⟩ | ((repeat apply Exists.intro); exact ⟨⟨j + 1, HJ.out, by go_num, by rw [HW.out, HD2.out]; rfl, hxj.tr hdq⟩, rfl⟩)
                            case measure => have := HJ.out; simp [intOf]; omega
                      · have hnl : ¬ ((j : Int) < n2) := by omega
                        have htw : (l2.take j).any (fun y => y.id == x.id) = true := by rw [List.take_of_length_le (by have := HLL.out; omega)]; exact HFD.out
                        rw [htw]
                        have hxe := hx10.tr hxj
                        go_wp2_with (first | go_skip | go_guarded)
                        go_roundw
                        case rel => first | exact ⟨i + 1, HIL.out, by go_num, hxe⟩ | ((repeat apply Exists.intro); exact ⟨⟨i + 1, HIL.out, by go_num, hxe⟩, rfl⟩)
                        case measure => have := HIL.out; simp [intOf]; omega
                · have hnl : ¬ ((i : Int) < rn) := by omega
                  have hL9 := hL8.e0 hxi
                  have hMB9 := hMB8.e0 hxi
                  have hTB9 := hTB8.e0 hxi
                  have hER9 := own_ext hER8 hxi (fun _ _ e => e)
                  have hsr9 := hsr.ext0 hxi
                  have hwz9 := Nat.le_trans hwz8 hxi.size
                  clear hL8 hMB8 hTB8 hER8 hsr hwz8 hli hi9
                  have hxi9 := Lib.hid True.intro
                  clear hxi
                  obtain ⟨w9, rfl⟩ : ∃ z : World, z = wr := ⟨_, rfl⟩
                  have tbc : w9.cell? ⟨TB, 1, none⟩ = some (.slice A2 n2 c2) := hTB9.cell 1
                  have hse : Sl w9 1 EA em ((ended).map fun i => [Value.int .i64 i]) := Sl.of_own (f := fun i : Int => [Value.int .i64 i]) (fun _ => rfl) hER9 HEL.out.symm
                  have hobc := lawObeys RA A2 EA rn rc n2 c2 em ec run l2 (ended) w9 hsr9 (hl2.ext0 hL9.ext) hse (by have h9 := HRN.out; omega) (by omega) (by have h9 := HEM.out; omega) HOB.out
                  go_upto_region 42 with (first | go_skip | go_guarded | (go_at_call 17; (with_reducible refine hobc.mono ?_); rintro e w11 ⟨rfl, hx11⟩))
                  have hL11 := hL9.e0 hx11
                  have hMB11 := hMB9.e0 hx11
                  have hTB11 := hTB9.e0 hx11
                  have hER11 := own_ext hER9 hx11 (fun _ _ e => e)
                  have hwz11 := Nat.le_trans hwz9 hx11.size
                  clear hL9 hMB9 hTB9 hER9 hsr9 hwz9 tbc hse hobc hx11
                  go_loopw [12, 23] (fun ev jv wr => ∃ j : Nat, j ≤ n2 ∧ jv = .int .i64 j ∧ ∃ E2 EA' em' ec', ev = .slice EA' em' ec' ∧ E2 = (ended) ++ ((l2.take j).filter (·.stop)).map (·.id) ∧ Law W wr a b (SD 0 T') DD ∧ Blk wr MB 51 mcs ∧ Blk wr TB 43 #[.slice A1 n1 c1, .slice A2 n2 c2] ∧ wr.ownsRow wB.heap.size 3 1 (.slice EA' em' ec') em' (E2.flatMap fun i => [Value.int .i64 i]) ∧ E2.length = em' ∧ em' ≤ em + j ∧ wB.heap.size ≤ wr.heap.size) (fun _ jv _ => n2 - (intOf jv).toNat)
                  case atStart => exact ⟨0, Nat.zero_le _, rfl, _, EA, em, ec, rfl, rfl, hL11, hMB11, hTB11, by simpa using hER11, by simpa using HEL.out, by omega, hwz11⟩
                  case round =>
                    clear hL11 hMB11 hTB11 hER11 hwz11
                    obtain ⟨j, hj, rfl, E2, EA', em', ec', rfl, hE2, hLr, hMr, hTr, hEr, hEl, hEm, hwr⟩ := hrel
                    have tbc : wr.cell? ⟨TB, 1, none⟩ = some (.slice A2 n2 c2) := hTr.cell 1
                    by_cases hlj : j < n2
                    · obtain ⟨hjy, q2, o2, hA2, hc2⟩ := hl2.get (f := AllocD.cells) hLr.ext hlj
                      have hw : (l2.take (j + 1)).filter (·.stop) = (l2.take j).filter (·.stop) ++ if l2[j].stop then [l2[j]] else [] := by
                        rw [List.take_add_one, List.getElem?_eq_getElem hjy, List.filter_append]
                        congr 1
                        cases h9 : l2[j].stop <;> simp [List.filter_cons, h9]
                      have HW := Lib.hid hw
                      generalize l2[j] = y at hc2 HW
                      have y0 : wr.cell? ⟨q2, o2 + j * 11, none⟩ = some (.int .i64 y.id) := by have h9 : wr.cell? ⟨q2, o2 + j * 11 + 0, none⟩ = some (.int .i64 y.id) := hc2 0 _ rfl; simpa using h9
                      have y9 : wr.cell? ⟨q2, o2 + j * 11 + 9, none⟩ = some (.bool y.stop) := hc2 9 _ rfl
                      have HJ := Lib.hid hlj
                      have HE := Lib.hid (And.intro hE2 (And.intro hEl hEm))
                      have hk2 : (0 : Int) ≤ (j : Int) := by omega
                      have hk3 : (j : Int) < n2 := by omega
                      rw [hA2] at tbc
                      clear hw hc2 hlj hjy hA2 hE2 hEl
                      cases z2 : y.stop with
                      | false =>
                        rw [z2] at y9
                        have HS := Lib.hid z2
                        go_wp2_with (first | go_skip | go_guarded)
                        go_roundw
                        case rel => first | exact ⟨j + 1, HJ.out, by go_num, E2, EA', em', ec', rfl, by rw [HE.out.1, HW.out, HS.out]; simp, hLr, hMr, hTr, hEr, HE.out.2.1, by have := HE.out.2.2; omega, hwr⟩ | ((repeat apply Exists.intro); exact ⟨⟨j + 1, HJ.out, by go_num, E2, EA', em', ec', rfl, by rw [HE.out.1, HW.out, HS.out]; simp, hLr, hMr, hTr, hEr, HE.out.2.1, by have := HE.out.2.2; omega, hwr⟩, rfl⟩)
                        case measure => have := HJ.out; simp [intOf]; omega
                      | true =>
                        rw [z2] at y9
                        have HS := Lib.hid z2
                        have hm9 : em' < 67108864 := by have h9 := HE.out.2.2; have h8 := HEM.out; have h7 := HJ.out; omega
                        have hxa : Ext Nothing wr (wr.alloc (.cells #[.int .i64 y.id] 3)) := Ext.auto
                        go_wp2_with (first | go_skip | go_guarded | ((with_reducible refine isBs 34 rfl ?_); refine wpList_slice1 rfl 34 _ rfl SRIntG #[.int .i64 y.id] rfl rfl ?_) | (at_builtin; refine wpList_app1 rfl _ _ 34 rfl wB.heap.size SRIntG (.slice EA' em' ec') em' _ rfl (own_ext hEr hxa (fun g hg e => e)) wr.heap.size 1 #[.int .i64 y.id] rfl (Blk.new _ _ _) rfl rfl hm9 (Nat.le_trans hwr hxa.size) ?_; intro A7 k7 w7 ho7 hgr7))
                        have hx7 : Ext (fun q => (Value.slice EA' em' ec').ownBlock = some q) wr w7 := (hxa.mono (fun _ _ e => e.elim) : Ext (fun q => (Value.slice EA' em' ec').ownBlock = some q) wr _).grown hgr7 (fun g hg => .inr hg)
                        have hL7' := hLr.row hEr HLB.out.2.2.2.2 (by decide) (by decide) (by decide) (by decide) (by decide) (by decide) hx7
                        have hM7' := hMr.ext hx7 (fun e => own_ne hEr hMr (by decide) e)
                        have hT7' := hTr.ext hx7 (fun e => own_ne hEr hTr (by decide) e)
                        go_roundw
                        case rel => first | exact ⟨j + 1, HJ.out, by go_num, E2 ++ [y.id], A7, em' + 1, k7, rfl, by rw [HE.out.1, HW.out, HS.out]; simp, hL7', hM7', hT7', by rw [List.flatMap_append]; simpa using ho7, by rw [List.length_append, HE.out.2.1]; rfl, by have := HE.out.2.2; omega, Nat.le_trans hwr hx7.size⟩ | ((repeat apply Exists.intro); exact ⟨⟨j + 1, HJ.out, by go_num, E2 ++ [y.id], A7, em' + 1, k7, rfl, by rw [HE.out.1, HW.out, HS.out]; simp, hL7', hM7', hT7', by rw [List.flatMap_append]; simpa using ho7, by rw [List.length_append, HE.out.2.1]; rfl, by have := HE.out.2.2; omega, Nat.le_trans hwr hx7.size⟩, rfl⟩)
                        case measure => have := HJ.out; simp [intOf]; omega
                    · have hnl : ¬ ((j : Int) < n2) := by omega
                      have HTK := Lib.hid (show l2.take j = l2 from List.take_of_length_le (by have := HLL.out; omega))
                      have HE := Lib.hid (And.intro hE2 (And.intro hEl hEm))
                      have HJ2 := Lib.hid hj
                      clear hE2 hEl hEm hlj hj
                      go_wp2_with (first | go_skip | go_guarded)
                      go_roundw
                      case rel => first | exact ⟨2, by omega, by go_num, T', E2, EA', em', ec', mcs, rfl, ⟨hLr, Ag.Lim.mono hlim7 (by omega), hMr, hmz, hTr, hEr, HE.out.2.1, by have h9 := HE.out.2.2; have h8 := HFW.out; have h7 := HJ2.out; omega, ⟨HLB.out.1, HLB.out.2.1, HLB.out.2.2.1, HLB.out.2.2.2.1, HLB.out.2.2.2.2, hwr⟩, fun e => (by cases e), fun e => (by cases e)⟩⟩ | ((repeat apply Exists.intro); exact ⟨⟨2, by omega, by go_num, T', E2, EA', em', ec', mcs, rfl, ⟨hLr, Ag.Lim.mono hlim7 (by omega), hMr, hmz, hTr, hEr, HE.out.2.1, by have h9 := HE.out.2.2; have h8 := HFW.out; have h7 := HJ2.out; omega, ⟨HLB.out.1, HLB.out.2.1, HLB.out.2.2.1, HLB.out.2.2.2.1, HLB.out.2.2.2.2, hwr⟩, fun e => (by cases e), fun e => (by cases e)⟩⟩, rfl⟩)
                      case measure => simp [intOf]
        · have hL := hI.law
          have hlim := hI.lim
          clear hI
          go_upto_region 47 with (first | go_skip | go_guarded)
          go_loopw [24] (fun kv wr => ∃ k : Nat, k ≤ 9 ∧ kv = .int .i64 k ∧ ∃ s d, Law W wr a b s d ∧ Ag.Lim s d (80 + k) ∧ (k < 9 → s = SD k T ∧ d = DD) ∧ (k = 9 → s.epoch = 0 ∧ s.tasks = [])) (fun kv _ => 10 - (intOf kv).toNat)
          case atStart => exact ⟨0, by omega, rfl, SD 0 T, DD, hL, hlim, fun _ => ⟨rfl, rfl⟩, fun e => (by cases e)⟩
          case round =>
            clear hL hlim
            obtain ⟨k, hk, rfl, s, d, hL, hlim, hs, hz⟩ := hrel
            by_cases hk9 : k < 9
            · obtain ⟨rfl, rfl⟩ := hs hk9
              have hk2 : (0 : Int) ≤ (k : Int) := by omega
              have hk3 : (k : Int) < 9 := by omega
              generalize he : Ag.tick (SD k T) DD = r
              obtain ⟨s', d', om, er⟩ := r
              have hcall := lwTick hL hlim (by omega) he
              have hlim2 := Ag.Lim.tick hlim
              rw [he] at hlim2
              have HZ := Lib.hid (show (k + 1 < 9 → s' = SD (k + 1) T ∧ d' = DD) ∧ (k + 1 = 9 → s'.epoch = 0 ∧ s'.tasks = []) by
                refine ⟨fun h9 => ?_, fun h9 => ?_⟩
                · obtain ⟨om', h8⟩ := tD T k (by omega)
                  rw [he] at h8
                  simp only [Prod.mk.injEq] at h8
                  exact ⟨h8.1, h8.2.1⟩
                · obtain rfl : k = 8 := by omega
                  have h8 := Ag.tick_over (s := SD 8 T) (d := DD) rfl (by rfl)
                  rw [he] at h8
                  exact h8)
              have HK := Lib.hid hk9
              clear he hs hz hk9
              go_wp2_with (first | go_skip | go_guarded | (go_at_call 9; (with_reducible refine hcall.mono ?_); rintro e w4 ⟨v, rfl, hm, hL4, hx4⟩))
              go_roundw
              case rel => refine ⟨_, _, _, _, _, _, _, ⟨k + 1, HK.out, ?_, s', d', hL4, hlim2, HZ.out.1, HZ.out.2⟩, rfl⟩; go_num
              case measure => have := HK.out; simp [intOf]; omega
            · obtain rfl : k = 9 := by omega
              obtain ⟨z1, z2⟩ := hz rfl
              have hr0 : Ag.running s = [] := by unfold Ag.running; rw [z2]; rfl
              have hrun := lwRun 0 hL hlim.tasks hr0 rfl
              have hep := lwEpoch hL
              rw [z1] at hep
              clear hs hz hk hk9
              go_wp2_with (first | go_skip | go_guarded | (go_at_call 11; (with_reducible refine hrun.mono ?_); rintro e w8 ⟨A8, k8, rfl, hs8, hx8⟩; have hep8 := lwEpoch (hL.e0 hx8); rw [z1] at hep8; have hli := lawLives w8 (htab.ext (hL.e0 hx8).ext)) | (go_at_call 10; (with_reducible refine hep8.mono ?_); rintro e wE ⟨rfl, hwe⟩; rw [hwe]; clear hwe) | (go_at_call 16; (with_reducible refine hli.mono ?_); rintro e w9 ⟨rfl, hx9⟩))
              go_ret
              exact ⟨rfl, (hL.e0 hx8).ext.tr hx9⟩
end Go.Proofs.YtockcifkphfnlaaGreatDoor
