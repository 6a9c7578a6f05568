/- Parts of the proof: FsmW RefAt RefSlot BeatF Calm PlaceF FsmR2 -/
import Derived.Test.YtlpfcmnnmdhaoaaGreatQ04
import Derived.Test.YtlpfcmnnmdhaoaaGreatRows
import Derived.StillTailTactics
import Derived.Test.YtlpfcmnnmdhaoaaGreatQ01
import Derived.Test.YtlpfcmnnmdhaoaaGreatQ02
import Derived.Test.YtlpfcmnnmdhaoaaGreatQ03
import Derived.Deep.Quiet
import Derived.Test.YtlpfcmnnmdhaoaaGreatQ00
namespace Go.Proofs.YtlpfcmnnmdhaoaaGreat
set_option linter.unusedVariables false
set_option linter.unusedSimpArgs false
set_option linter.unusedSectionVars false
section
open Go.RowKit
namespace Fsm
def putS {α : Type} (key : α → Int) (x : α) (z : List α × Bool) (y : α) : List α × Bool :=
 let o := if !z.2 && decide (key x ≤ key y) then z.1 ++ [x] else z.1
 (if key y = key x then o else o ++ [y], z.2 || decide (key x ≤ key y))
def putE {α : Type} (x : α) (z : List α × Bool) : List α := if z.2 then z.1 else z.1 ++ [x]
section
variable {α : Type} {key : α → Int} {x : α}
theorem put_done : ∀ (l out : List α), l.foldl (putS key x) (out, true) = (out ++ l.filter (fun z => !(key z == key x)), true)
 | [], out => by simp
 | y :: r, out => by
  rw [List.foldl_cons, show putS key x (out, true) y = (if key y = key x then out else out ++ [y], true) from by simp [putS]]
  rw [put_done]
  by_cases h : key y = key x
  ·simp [h]
  ·have h' : (key y == key x) = false := by simpa using h
   simp [h, h']
theorem put_fold : ∀ (l out : List α), putE x (l.foldl (putS key x) (out, false)) = out ++ putL key x l
 | [], out => by simp [putE, putL]
 | y :: r, out => by
  rw [List.foldl_cons]
  by_cases h : key x ≤ key y
  ·rw [show putS key x (out, false) y = ((if key y = key x then out ++ [x] else out ++ [x] ++ [y]), true) from by simp [putS, h]]
   rw [put_done]
   unfold putL
   rw [if_pos h]
   by_cases h1 : key y = key x
   ·simp [putE, h1]
   ·have h' : (key y == key x) = false := by simpa using h1
    simp [putE, h1, h']
  ·have h1 : ¬ key y = key x := by omega
   rw [show putS key x (out, false) y = (out ++ [y], false) from by simp [putS, h, h1]]
   rw [put_fold]
   show _ = out ++ putL key x (y :: r)
   rw [putL, if_neg h]
   simp
theorem putS_take (l : List α) (t : Nat) (h : t < l.length) : (l.take (t + 1)).foldl (putS key x) ([], false) = putS key x ((l.take t).foldl (putS key x) ([], false)) l[t] := by
 rw [List.take_add_one, List.getElem?_eq_getElem h, List.foldl_append]; rfl
theorem putS_len : ∀ (l : List α) (z : List α × Bool), (l.foldl (putS key x) z).1.length ≤ z.1.length + l.length + 1 ∧ (z.2 = true → (l.foldl (putS key x) z).1.length ≤ z.1.length + l.length)
 | [], z => ⟨by simp, fun _ => by simp⟩
 | y :: r, (out, b) => by
  rw [List.foldl_cons]
  obtain ⟨h1, h2⟩ := putS_len r (putS key x (out, b) y)
  have h3 : (putS key x (out, true) y).1.length ≤ out.length + 1 := by
   simp only [putS, Bool.not_true, Bool.false_and, Bool.false_eq_true, if_false]
   split
   ·omega
   ·simp
  have h4 : (putS key x (out, true) y).2 = true := by simp [putS]
  cases b with
  | true =>
   have := h2 h4
   simp only [List.length_cons]
   exact ⟨by omega, fun _ => by omega⟩
  | false =>
   refine ⟨?_, fun e => (by cases e)⟩
   simp only [List.length_cons]
   by_cases h : key x ≤ key y
   ·have e2 : (putS key x (out, false) y).2 = true := by simp [putS, h]
    have e1 : (putS key x (out, false) y).1.length ≤ out.length + 2 := by
     simp only [putS, Bool.not_false, Bool.true_and, h, decide_true, if_true]
     split <;> simp
    have := h2 e2
    omega
   ·have e1 : (putS key x (out, false) y).1.length ≤ out.length + 1 := by
     simp only [putS, Bool.not_false, Bool.true_and, h, decide_false, Bool.false_eq_true, if_false]
     split <;> simp
    omega
theorem putS_len_take (l : List α) (t : Nat) : ((l.take t).foldl (putS key x) ([], false)).1.length ≤ t + 1 := by
 have := (putS_len (key := key) (x := x) (l.take t) ([], false)).1
 simp only [List.length_take, List.length_nil] at this
 omega
theorem turn1_none {p : α → Bool} {f : α → α} : ∀ {l : List α}, l.find? p = none → turn1 p f l = l
 | [], _ => rfl
 | y :: r, h => by
  rw [List.find?_cons] at h
  unfold turn1
  cases hp : p y with
  | true => rw [hp] at h; cases h
  | false => rw [hp] at h; simp [turn1_none h]
theorem turn1_set {p : α → Bool} {f : α → α} : ∀ {l : List α} {i : Nat} {x : α}, l[i]? = some x → p x = true → (∀ j < i, ∀ y, l[j]? = some y → p y = false) → turn1 p f l = l.set i (f x)
 | [], i, x, h, _, _ => by simp at h
 | y :: r, 0, x, h, hp, _ => by
  simp at h; subst h
  unfold turn1
  rw [if_pos hp]; rfl
 | y :: r, i + 1, x, h, hp, hno => by
  have hy : p y = false := hno 0 (by omega) y rfl
  unfold turn1
  rw [hy, turn1_set (i := i) (x := x) (by simpa using h) hp (fun j hj z hz => hno (j + 1) (by omega) z (by simpa using hz))]
  rfl
def upto (f : α → α) (t : Nat) (l : List α) : List α := (l.take t).map f ++ l.drop t
theorem upto_zero (f : α → α) (l : List α) : upto f 0 l = l := by simp [upto]
theorem upto_all (f : α → α) {t : Nat} {l : List α} (h : l.length ≤ t) : upto f t l = l.map f := by simp [upto, List.take_of_length_le h, List.drop_of_length_le h]
theorem upto_len (f : α → α) (t : Nat) (l : List α) : (upto f t l).length = l.length := by simp [upto]; omega
theorem upto_get (f : α → α) {t : Nat} {l : List α} (h : t < l.length) : (upto f t l)[t]? = some l[t] := by
 rw [upto, List.getElem?_append_right (by simp; omega)]
 simp
 rw [Nat.min_eq_left (by omega)]
 simp
theorem upto_next (f : α → α) {t : Nat} {l : List α} (h : t < l.length) : upto f (t + 1) l = (upto f t l).set t (f l[t]) := by
 apply List.ext_getElem?
 intro i
 rw [List.getElem?_set]
 simp only [upto_len]
 have hl : (l.take t).length = t := by simp; omega
 have hl1 : (l.take (t + 1)).length = t + 1 := by simp; omega
 by_cases h1 : t = i
 ·subst h1
  rw [if_pos rfl, if_pos h, upto, List.getElem?_append_left (by simp; omega)]
  simp
  exact ⟨l[t], List.getElem?_eq_getElem h, rfl⟩
 ·rw [if_neg h1]
  by_cases h2 : i < t
  ·rw [upto, upto, List.getElem?_append_left (by simp; omega), List.getElem?_append_left (by simp; omega)]
   simp [List.getElem?_take, h2, show i < t + 1 by omega]
  ·rw [upto, upto, List.getElem?_append_right (by simp; omega), List.getElem?_append_right (by simp; omega)]
   simp
   congr 1
   omega
theorem upto_id {f : α → α} {t : Nat} {l : List α} (h : t < l.length) (e : f l[t] = l[t]) : upto f (t + 1) l = upto f t l := by
 rw [upto_next f h, e]
 apply List.ext_getElem?
 intro i
 rw [List.getElem?_set]
 by_cases h1 : t = i
 ·subst h1
  rw [if_pos rfl, if_pos (by rw [upto_len]; exact h), upto_get f h]
 ·rw [if_neg h1]
end
theorem eval_len (s : StoreD) (j : Int) : (eval s j).evals.length ≤ s.evals.length + 1 := by
 unfold eval
 split
 ·omega
 ·exact putL_len _
theorem fold_len {α : Type} {f : StoreD → α → StoreD} (hf : ∀ s a, (f s a).evals.length ≤ s.evals.length + 1) : ∀ (l : List α) (s : StoreD), (l.foldl f s).evals.length ≤ s.evals.length + l.length
 | [], s => by simp
 | a :: r, s => by
  rw [List.foldl_cons, List.length_cons]
  have := fold_len hf r (f s a)
  have := hf s a
  omega
end Fsm
end
section
open Go.RowKit
set_option maxHeartbeats 1000000 in
theorem refAtJob (A : Option Addr) (n cap : Nat) (l : List JobV) (k : Int) (w : World) (hl : Sl w 7 A n (l.map JobV.cells)) (hn : n ≤ 67108864) (s0 s1 s3 s4 s5 s6 s7 s8 : Value) :
  Calls Tryz.prog 51 #[.agg #[s0, s1, .slice A n cap, s3, s4, s5, s6, s7, s8], .int .i64 k] w fun e w' => e = .returned (.int .i64 (idxI (fun x : JobV => x.1.id == k) l)) ∧ Ext Nothing w w' := by
 have hlen := Lib.hid hl.len
 have hx0 : Ext Nothing w (w.alloc (.cells #[s0, s1, .slice A n cap, s3, s4, s5, s6, s7, s8] 30)) := Ext.auto
 have hB0 : Blk (w.alloc (.cells #[s0, s1, .slice A n cap, s3, s4, s5, s6, s7, s8] 30)) w.heap.size 30 #[s0, s1, .slice A n cap, s3, s4, s5, s6, s7, s8] := Blk.new _ _ _
 go_enter Tryz.func51, Tryz.ntmps51
 go_wp2
 go_loopw [5] (fun c wr => ∃ j : Nat, j ≤ n ∧ c = .int .i64 j ∧ (∀ i' < j, ∀ y, l[i']? = some y → (y.1.id == k) = false) ∧ Ext Nothing w wr ∧ Blk wr w.heap.size 30 #[s0, s1, .slice A n cap, s3, s4, s5, s6, s7, s8]) (fun i _ => n - (intOf i).toNat)
 case atStart => exact ⟨0, Nat.zero_le _, rfl, fun j hj => absurd hj (by omega), hx0, hB0⟩
 case round =>
  obtain ⟨j, hj, rfl, hno, hx, hB⟩ := hrel
  have c5 : wr.cell? ⟨w.heap.size, 2, none⟩ = some (.slice A n cap) := hB.cell 2
  by_cases hlt : j < n
  ·obtain ⟨hjn, b, off, hAe, hce⟩ := hl.get hx hlt
   rw [hAe] at c5
   have HA := Lib.hid hAe
   clear hAe
   have hk0 : (0 : Int) ≤ (j : Int) := by omega
   have hk1 : (j : Int) < n := by omega
   have hy : l[j]? = some l[j] := List.getElem?_eq_getElem hjn
   generalize l[j] = x at hce hy
   have q0 : wr.cell? ⟨b, off + j * 7, none⟩ = some (.int .i64 (x.1.id)) := hce 0 _ rfl
   cases hp : (x.1.id == k) with
   | true =>
    have hr := Lib.hid (idx_hit (p := fun x : JobV => x.1.id == k) hno hy hp)
    have hp1 : (x.1.id) = k := by simpa using hp
    rw [hp1] at q0
    clear hno hy hp hp1 hce
    go_wp2
    go_ret
    exact ⟨by rw [hr.out]; rfl, hx⟩
   | false =>
    have hno' : ∀ i' < j + 1, ∀ y, l[i']? = some y → (y.1.id == k) = false := fun i1 hi y hy' => by
     by_cases h : i1 = j
     ·subst h; rw [hy] at hy'; cases hy'; exact hp
     ·exact hno i1 (by omega) y hy'
    have HN := Lib.hid hno'
    clear hno hno' hy hce
    go_wp2
    go_roundw
    case rel => exact ⟨j + 1, by omega, by go_num, HN.out, hx, hB⟩
    case measure => simp [intOf]; omega
  ·have hr := Lib.hid (idx_none (p := fun x : JobV => x.1.id == k) (l := l) (fun i hi y hy => hno i (by have := hlen.out; omega) y hy))
   clear hno
   go_wp2
   go_ret
   exact ⟨by rw [hr.out]; rfl, hx⟩
set_option maxHeartbeats 1000000 in
theorem refAtStable (A : Option Addr) (n cap : Nat) (l : List JobV) (k : Int) (w : World) (hl : Sl w 7 A n (l.map JobV.cells)) (hn : n ≤ 67108864) (s0 s1 s2 s4 s5 s6 s7 s8 : Value) :
  Calls Tryz.prog 64 #[.agg #[s0, s1, s2, .slice A n cap, s4, s5, s6, s7, s8], .int .i64 k] w fun e w' => e = .returned (.int .i64 (idxI (fun x : JobV => x.1.id == k) l)) ∧ Ext Nothing w w' := by
 have hlen := Lib.hid hl.len
 have hx0 : Ext Nothing w (w.alloc (.cells #[s0, s1, s2, .slice A n cap, s4, s5, s6, s7, s8] 30)) := Ext.auto
 have hB0 : Blk (w.alloc (.cells #[s0, s1, s2, .slice A n cap, s4, s5, s6, s7, s8] 30)) w.heap.size 30 #[s0, s1, s2, .slice A n cap, s4, s5, s6, s7, s8] := Blk.new _ _ _
 go_enter Tryz.func64, Tryz.ntmps64
 go_wp2
 go_loopw [5] (fun c wr => ∃ j : Nat, j ≤ n ∧ c = .int .i64 j ∧ (∀ i' < j, ∀ y, l[i']? = some y → (y.1.id == k) = false) ∧ Ext Nothing w wr ∧ Blk wr w.heap.size 30 #[s0, s1, s2, .slice A n cap, s4, s5, s6, s7, s8]) (fun i _ => n - (intOf i).toNat)
 case atStart => exact ⟨0, Nat.zero_le _, rfl, fun j hj => absurd hj (by omega), hx0, hB0⟩
 case round =>
  obtain ⟨j, hj, rfl, hno, hx, hB⟩ := hrel
  have c5 : wr.cell? ⟨w.heap.size, 3, none⟩ = some (.slice A n cap) := hB.cell 3
  by_cases hlt : j < n
  ·obtain ⟨hjn, b, off, hAe, hce⟩ := hl.get hx hlt
   rw [hAe] at c5
   have HA := Lib.hid hAe
   clear hAe
   have hk0 : (0 : Int) ≤ (j : Int) := by omega
   have hk1 : (j : Int) < n := by omega
   have hy : l[j]? = some l[j] := List.getElem?_eq_getElem hjn
   generalize l[j] = x at hce hy
   have q0 : wr.cell? ⟨b, off + j * 7, none⟩ = some (.int .i64 (x.1.id)) := hce 0 _ rfl
   cases hp : (x.1.id == k) with
   | true =>
    have hr := Lib.hid (idx_hit (p := fun x : JobV => x.1.id == k) hno hy hp)
    have hp1 : (x.1.id) = k := by simpa using hp
    rw [hp1] at q0
    clear hno hy hp hp1 hce
    go_wp2
    go_ret
    exact ⟨by rw [hr.out]; rfl, hx⟩
   | false =>
    have hno' : ∀ i' < j + 1, ∀ y, l[i']? = some y → (y.1.id == k) = false := fun i1 hi y hy' => by
     by_cases h : i1 = j
     ·subst h; rw [hy] at hy'; cases hy'; exact hp
     ·exact hno i1 (by omega) y hy'
    have HN := Lib.hid hno'
    clear hno hno' hy hce
    go_wp2
    go_roundw
    case rel => exact ⟨j + 1, by omega, by go_num, HN.out, hx, hB⟩
    case measure => simp [intOf]; omega
  ·have hr := Lib.hid (idx_none (p := fun x : JobV => x.1.id == k) (l := l) (fun i hi y hy => hno i (by have := hlen.out; omega) y hy))
   clear hno
   go_wp2
   go_ret
   exact ⟨by rw [hr.out]; rfl, hx⟩
set_option maxHeartbeats 1000000 in
theorem refAtNode (A : Option Addr) (n cap : Nat) (l : List NodD) (k : Int) (w : World) (hl : Sl w 8 A n (l.map NodD.cells)) (hn : n ≤ 67108864) (s0 s1 s2 s3 s5 s6 s7 s8 : Value) :
  Calls Tryz.prog 12 #[.agg #[s0, s1, s2, s3, .slice A n cap, s5, s6, s7, s8], .int .i64 k] w fun e w' => e = .returned (.int .i64 (idxI (fun x : NodD => x.id == k) l)) ∧ Ext Nothing w w' := by
 have hlen := Lib.hid hl.len
 have hx0 : Ext Nothing w (w.alloc (.cells #[s0, s1, s2, s3, .slice A n cap, s5, s6, s7, s8] 30)) := Ext.auto
 have hB0 : Blk (w.alloc (.cells #[s0, s1, s2, s3, .slice A n cap, s5, s6, s7, s8] 30)) w.heap.size 30 #[s0, s1, s2, s3, .slice A n cap, s5, s6, s7, s8] := Blk.new _ _ _
 go_enter Tryz.func12, Tryz.ntmps12
 go_wp2
 go_loopw [5] (fun c wr => ∃ j : Nat, j ≤ n ∧ c = .int .i64 j ∧ (∀ i' < j, ∀ y, l[i']? = some y → (y.id == k) = false) ∧ Ext Nothing w wr ∧ Blk wr w.heap.size 30 #[s0, s1, s2, s3, .slice A n cap, s5, s6, s7, s8]) (fun i _ => n - (intOf i).toNat)
 case atStart => exact ⟨0, Nat.zero_le _, rfl, fun j hj => absurd hj (by omega), hx0, hB0⟩
 case round =>
  obtain ⟨j, hj, rfl, hno, hx, hB⟩ := hrel
  have c5 : wr.cell? ⟨w.heap.size, 4, none⟩ = some (.slice A n cap) := hB.cell 4
  by_cases hlt : j < n
  ·obtain ⟨hjn, b, off, hAe, hce⟩ := hl.get hx hlt
   rw [hAe] at c5
   have HA := Lib.hid hAe
   clear hAe
   have hk0 : (0 : Int) ≤ (j : Int) := by omega
   have hk1 : (j : Int) < n := by omega
   have hy : l[j]? = some l[j] := List.getElem?_eq_getElem hjn
   generalize l[j] = x at hce hy
   have q0 : wr.cell? ⟨b, off + j * 8, none⟩ = some (.int .i64 (x.id)) := hce 0 _ rfl
   cases hp : (x.id == k) with
   | true =>
    have hr := Lib.hid (idx_hit (p := fun x : NodD => x.id == k) hno hy hp)
    have hp1 : (x.id) = k := by simpa using hp
    rw [hp1] at q0
    clear hno hy hp hp1 hce
    go_wp2
    go_ret
    exact ⟨by rw [hr.out]; rfl, hx⟩
   | false =>
    have hno' : ∀ i' < j + 1, ∀ y, l[i']? = some y → (y.id == k) = false := fun i1 hi y hy' => by
     by_cases h : i1 = j
     ·subst h; rw [hy] at hy'; cases hy'; exact hp
     ·exact hno i1 (by omega) y hy'
    have HN := Lib.hid hno'
    clear hno hno' hy hce
    go_wp2
    go_roundw
    case rel => exact ⟨j + 1, by omega, by go_num, HN.out, hx, hB⟩
    case measure => simp [intOf]; omega
  ·have hr := Lib.hid (idx_none (p := fun x : NodD => x.id == k) (l := l) (fun i hi y hy => hno i (by have := hlen.out; omega) y hy))
   clear hno
   go_wp2
   go_ret
   exact ⟨by rw [hr.out]; rfl, hx⟩
set_option maxHeartbeats 1000000 in
theorem refAtAlloc (A : Option Addr) (n cap : Nat) (l : List AllocD) (k : Int) (w : World) (hl : Sl w 11 A n (l.map AllocD.cells)) (hn : n ≤ 67108864) (s0 s1 s2 s3 s4 s6 s7 s8 : Value) :
  Calls Tryz.prog 60 #[.agg #[s0, s1, s2, s3, s4, .slice A n cap, s6, s7, s8], .int .i64 k] w fun e w' => e = .returned (.int .i64 (idxI (fun x : AllocD => x.id == k) l)) ∧ Ext Nothing w w' := by
 have hlen := Lib.hid hl.len
 have hx0 : Ext Nothing w (w.alloc (.cells #[s0, s1, s2, s3, s4, .slice A n cap, s6, s7, s8] 30)) := Ext.auto
 have hB0 : Blk (w.alloc (.cells #[s0, s1, s2, s3, s4, .slice A n cap, s6, s7, s8] 30)) w.heap.size 30 #[s0, s1, s2, s3, s4, .slice A n cap, s6, s7, s8] := Blk.new _ _ _
 go_enter Tryz.func60, Tryz.ntmps60
 go_wp2
 go_loopw [5] (fun c wr => ∃ j : Nat, j ≤ n ∧ c = .int .i64 j ∧ (∀ i' < j, ∀ y, l[i']? = some y → (y.id == k) = false) ∧ Ext Nothing w wr ∧ Blk wr w.heap.size 30 #[s0, s1, s2, s3, s4, .slice A n cap, s6, s7, s8]) (fun i _ => n - (intOf i).toNat)
 case atStart => exact ⟨0, Nat.zero_le _, rfl, fun j hj => absurd hj (by omega), hx0, hB0⟩
 case round =>
  obtain ⟨j, hj, rfl, hno, hx, hB⟩ := hrel
  have c5 : wr.cell? ⟨w.heap.size, 5, none⟩ = some (.slice A n cap) := hB.cell 5
  by_cases hlt : j < n
  ·obtain ⟨hjn, b, off, hAe, hce⟩ := hl.get hx hlt
   rw [hAe] at c5
   have HA := Lib.hid hAe
   clear hAe
   have hk0 : (0 : Int) ≤ (j : Int) := by omega
   have hk1 : (j : Int) < n := by omega
   have hy : l[j]? = some l[j] := List.getElem?_eq_getElem hjn
   generalize l[j] = x at hce hy
   have q0 : wr.cell? ⟨b, off + j * 11, none⟩ = some (.int .i64 (x.id)) := hce 0 _ rfl
   cases hp : (x.id == k) with
   | true =>
    have hr := Lib.hid (idx_hit (p := fun x : AllocD => x.id == k) hno hy hp)
    have hp1 : (x.id) = k := by simpa using hp
    rw [hp1] at q0
    clear hno hy hp hp1 hce
    go_wp2
    go_ret
    exact ⟨by rw [hr.out]; rfl, hx⟩
   | false =>
    have hno' : ∀ i' < j + 1, ∀ y, l[i']? = some y → (y.id == k) = false := fun i1 hi y hy' => by
     by_cases h : i1 = j
     ·subst h; rw [hy] at hy'; cases hy'; exact hp
     ·exact hno i1 (by omega) y hy'
    have HN := Lib.hid hno'
    clear hno hno' hy hce
    go_wp2
    go_roundw
    case rel => exact ⟨j + 1, by omega, by go_num, HN.out, hx, hB⟩
    case measure => simp [intOf]; omega
  ·have hr := Lib.hid (idx_none (p := fun x : AllocD => x.id == k) (l := l) (fun i hi y hy => hno i (by have := hlen.out; omega) y hy))
   clear hno
   go_wp2
   go_ret
   exact ⟨by rw [hr.out]; rfl, hx⟩
set_option maxHeartbeats 1000000 in
theorem refAtEval (A : Option Addr) (n cap : Nat) (l : List EvalD) (k : Int) (w : World) (hl : Sl w 4 A n (l.map EvalD.cells)) (hn : n ≤ 67108864) (s0 s1 s2 s3 s4 s5 s7 s8 : Value) :
  Calls Tryz.prog 62 #[.agg #[s0, s1, s2, s3, s4, s5, .slice A n cap, s7, s8], .int .i64 k] w fun e w' => e = .returned (.int .i64 (idxI (fun x : EvalD => x.job == k) l)) ∧ Ext Nothing w w' := by
 have hlen := Lib.hid hl.len
 have hx0 : Ext Nothing w (w.alloc (.cells #[s0, s1, s2, s3, s4, s5, .slice A n cap, s7, s8] 30)) := Ext.auto
 have hB0 : Blk (w.alloc (.cells #[s0, s1, s2, s3, s4, s5, .slice A n cap, s7, s8] 30)) w.heap.size 30 #[s0, s1, s2, s3, s4, s5, .slice A n cap, s7, s8] := Blk.new _ _ _
 go_enter Tryz.func62, Tryz.ntmps62
 go_wp2
 go_loopw [5] (fun c wr => ∃ j : Nat, j ≤ n ∧ c = .int .i64 j ∧ (∀ i' < j, ∀ y, l[i']? = some y → (y.job == k) = false) ∧ Ext Nothing w wr ∧ Blk wr w.heap.size 30 #[s0, s1, s2, s3, s4, s5, .slice A n cap, s7, s8]) (fun i _ => n - (intOf i).toNat)
 case atStart => exact ⟨0, Nat.zero_le _, rfl, fun j hj => absurd hj (by omega), hx0, hB0⟩
 case round =>
  obtain ⟨j, hj, rfl, hno, hx, hB⟩ := hrel
  have c5 : wr.cell? ⟨w.heap.size, 6, none⟩ = some (.slice A n cap) := hB.cell 6
  by_cases hlt : j < n
  ·obtain ⟨hjn, b, off, hAe, hce⟩ := hl.get hx hlt
   rw [hAe] at c5
   have HA := Lib.hid hAe
   clear hAe
   have hk0 : (0 : Int) ≤ (j : Int) := by omega
   have hk1 : (j : Int) < n := by omega
   have hy : l[j]? = some l[j] := List.getElem?_eq_getElem hjn
   generalize l[j] = x at hce hy
   have q0 : wr.cell? ⟨b, off + j * 4, none⟩ = some (.int .i64 (x.job)) := hce 0 _ rfl
   cases hp : (x.job == k) with
   | true =>
    have hr := Lib.hid (idx_hit (p := fun x : EvalD => x.job == k) hno hy hp)
    have hp1 : (x.job) = k := by simpa using hp
    rw [hp1] at q0
    clear hno hy hp hp1 hce
    go_wp2
    go_ret
    exact ⟨by rw [hr.out]; rfl, hx⟩
   | false =>
    have hno' : ∀ i' < j + 1, ∀ y, l[i']? = some y → (y.job == k) = false := fun i1 hi y hy' => by
     by_cases h : i1 = j
     ·subst h; rw [hy] at hy'; cases hy'; exact hp
     ·exact hno i1 (by omega) y hy'
    have HN := Lib.hid hno'
    clear hno hno' hy hce
    go_wp2
    go_roundw
    case rel => exact ⟨j + 1, by omega, by go_num, HN.out, hx, hB⟩
    case measure => simp [intOf]; omega
  ·have hr := Lib.hid (idx_none (p := fun x : EvalD => x.job == k) (l := l) (fun i hi y hy => hno i (by have := hlen.out; omega) y hy))
   clear hno
   go_wp2
   go_ret
   exact ⟨by rw [hr.out]; rfl, hx⟩
set_option maxHeartbeats 1000000 in
theorem refAtDeploy (A : Option Addr) (n cap : Nat) (l : List DepD) (k : Int) (w : World) (hl : Sl w 4 A n (l.map DepD.cells)) (hn : n ≤ 67108864) (s0 s1 s2 s3 s4 s5 s6 s8 : Value) :
  Calls Tryz.prog 53 #[.agg #[s0, s1, s2, s3, s4, s5, s6, .slice A n cap, s8], .int .i64 k] w fun e w' => e = .returned (.int .i64 (idxI (fun x : DepD => x.job == k) l)) ∧ Ext Nothing w w' := by
 have hlen := Lib.hid hl.len
 have hx0 : Ext Nothing w (w.alloc (.cells #[s0, s1, s2, s3, s4, s5, s6, .slice A n cap, s8] 30)) := Ext.auto
 have hB0 : Blk (w.alloc (.cells #[s0, s1, s2, s3, s4, s5, s6, .slice A n cap, s8] 30)) w.heap.size 30 #[s0, s1, s2, s3, s4, s5, s6, .slice A n cap, s8] := Blk.new _ _ _
 go_enter Tryz.func53, Tryz.ntmps53
 go_wp2
 go_loopw [5] (fun c wr => ∃ j : Nat, j ≤ n ∧ c = .int .i64 j ∧ (∀ i' < j, ∀ y, l[i']? = some y → (y.job == k) = false) ∧ Ext Nothing w wr ∧ Blk wr w.heap.size 30 #[s0, s1, s2, s3, s4, s5, s6, .slice A n cap, s8]) (fun i _ => n - (intOf i).toNat)
 case atStart => exact ⟨0, Nat.zero_le _, rfl, fun j hj => absurd hj (by omega), hx0, hB0⟩
 case round =>
  obtain ⟨j, hj, rfl, hno, hx, hB⟩ := hrel
  have c5 : wr.cell? ⟨w.heap.size, 7, none⟩ = some (.slice A n cap) := hB.cell 7
  by_cases hlt : j < n
  ·obtain ⟨hjn, b, off, hAe, hce⟩ := hl.get hx hlt
   rw [hAe] at c5
   have HA := Lib.hid hAe
   clear hAe
   have hk0 : (0 : Int) ≤ (j : Int) := by omega
   have hk1 : (j : Int) < n := by omega
   have hy : l[j]? = some l[j] := List.getElem?_eq_getElem hjn
   generalize l[j] = x at hce hy
   have q0 : wr.cell? ⟨b, off + j * 4, none⟩ = some (.int .i64 (x.job)) := hce 0 _ rfl
   cases hp : (x.job == k) with
   | true =>
    have hr := Lib.hid (idx_hit (p := fun x : DepD => x.job == k) hno hy hp)
    have hp1 : (x.job) = k := by simpa using hp
    rw [hp1] at q0
    clear hno hy hp hp1 hce
    go_wp2
    go_ret
    exact ⟨by rw [hr.out]; rfl, hx⟩
   | false =>
    have hno' : ∀ i' < j + 1, ∀ y, l[i']? = some y → (y.job == k) = false := fun i1 hi y hy' => by
     by_cases h : i1 = j
     ·subst h; rw [hy] at hy'; cases hy'; exact hp
     ·exact hno i1 (by omega) y hy'
    have HN := Lib.hid hno'
    clear hno hno' hy hce
    go_wp2
    go_roundw
    case rel => exact ⟨j + 1, by omega, by go_num, HN.out, hx, hB⟩
    case measure => simp [intOf]; omega
  ·have hr := Lib.hid (idx_none (p := fun x : DepD => x.job == k) (l := l) (fun i hi y hy => hno i (by have := hlen.out; omega) y hy))
   clear hno
   go_wp2
   go_ret
   exact ⟨by rw [hr.out]; rfl, hx⟩
end
section
open Go.RowKit
set_option maxHeartbeats 2000000 in
theorem refSlot (A : Option Addr) (n cap : Nat) (l : List AllocD) (j g i : Int) (w : World) (hl : Sl w 11 A n (l.map AllocD.cells)) (hn : n ≤ 67108864) (s0 s1 s2 s3 s4 s6 s7 s8 : Value) :
  Calls Tryz.prog 11 #[.agg #[s0, s1, s2, s3, s4, .slice A n cap, s6, s7, s8], .int .i64 j, .int .i64 g, .int .i64 i] w fun e w' => e = .returned (.int .i64 (idxI (slotB j g i) l)) ∧ Ext Nothing w w' := by
 have hlen := Lib.hid hl.len
 have hx0 : Ext Nothing w (w.alloc (.cells #[s0, s1, s2, s3, s4, .slice A n cap, s6, s7, s8] 30)) := Ext.auto
 have hB0 : Blk (w.alloc (.cells #[s0, s1, s2, s3, s4, .slice A n cap, s6, s7, s8] 30)) w.heap.size 30 #[s0, s1, s2, s3, s4, .slice A n cap, s6, s7, s8] := Blk.new _ _ _
 go_enter Tryz.func11, Tryz.ntmps11
 go_wp2
 go_loopw [9] (fun c wr => ∃ k : Nat, k ≤ n ∧ c = .int .i64 k ∧ (∀ i' < k, ∀ y, l[i']? = some y → slotB j g i y = false) ∧ Ext Nothing w wr ∧ Blk wr w.heap.size 30 #[s0, s1, s2, s3, s4, .slice A n cap, s6, s7, s8]) (fun i _ => n - (intOf i).toNat)
 case atStart => exact ⟨0, Nat.zero_le _, rfl, fun j hj => absurd hj (by omega), hx0, hB0⟩
 case round =>
  obtain ⟨k, hk, rfl, hno, hx, hB⟩ := hrel
  have c5 : wr.cell? ⟨w.heap.size, 5, none⟩ = some (.slice A n cap) := hB.cell 5
  by_cases hlt : k < n
  ·obtain ⟨hjn, b, off, hAe, hce⟩ := hl.get hx hlt
   rw [hAe] at c5
   have HA := Lib.hid hAe
   clear hAe
   have hk0 : (0 : Int) ≤ (k : Int) := by omega
   have hk1 : (k : Int) < n := by omega
   have hy : l[k]? = some l[k] := List.getElem?_eq_getElem hjn
   generalize l[k] = x at hce hy
   obtain ⟨x0, x1, x2, x3, x4, x5, x6, ⟨x7, x8⟩, x9, x10⟩ := x
   simp only [AllocD.cells] at hce
   have hxB : Ext Nothing wr (wr.alloc (.cells #[.int .i64 x0, .int .i64 x1, .int .i64 x2, .int .i64 x3, .int .i64 x4, .int .i64 x5, .int .i64 x6, .int .i64 x7, .int .i64 x8, .bool x9, .int .i64 x10] 58)) := Ext.auto
   have hBB := Blk.ext (S := Nothing) hB hxB (fun e => e)
   cases hp : slotB j g i ⟨x0, x1, x2, x3, x4, x5, x6, ⟨x7, x8⟩, x9, x10⟩ with
   | true =>
    have hr := Lib.hid (idx_hit (p := slotB j g i) hno hy hp)
    simp only [slotB, overB, Bool.and_eq_true, beq_iff_eq, Bool.not_eq_true', decide_eq_false_iff_not] at hp
    obtain ⟨⟨⟨rfl, rfl⟩, rfl⟩, h3⟩ := hp
    have h4 : decide (x10 < 3) = true := by simp; omega
    clear hno hy
    go_wp2_with (refine wpList_load_at rfl 58 _ rfl STAlloc b (off + k * 11) rfl #[.int .i64 x0, .int .i64 x1, .int .i64 x2, .int .i64 x3, .int .i64 x4, .int .i64 x5, .int .i64 x6, .int .i64 x7, .int .i64 x8, .bool x9, .int .i64 x10] (by exact hce) rfl ?_)
    go_ret
    exact ⟨by rw [hr.out]; rfl, hx.tr hxB⟩
   | false =>
    have hno' : ∀ i' < k + 1, ∀ y, l[i']? = some y → slotB j g i y = false := fun i1 hi y hy' => by
     by_cases h : i1 = k
     ·subst h; rw [hy] at hy'; cases hy'; exact hp
     ·exact hno i1 (by omega) y hy'
    have HN := Lib.hid hno'
    have hq : x1 ≠ j ∨ (x1 = j ∧ x3 ≠ g) ∨ (x1 = j ∧ x3 = g ∧ x4 ≠ i) ∨ (x1 = j ∧ x3 = g ∧ x4 = i ∧ ¬ x10 < 3) := by
     by_cases a1 : x1 = j
     ·by_cases a2 : x3 = g
      ·by_cases a3 : x4 = i
       ·refine .inr (.inr (.inr ⟨a1, a2, a3, fun h => ?_⟩))
        have : slotB j g i ⟨x0, x1, x2, x3, x4, x5, x6, ⟨x7, x8⟩, x9, x10⟩ = true := by simp [slotB, overB, a1, a2, a3]; omega
        rw [hp] at this; cases this
       ·exact .inr (.inr (.inl ⟨a1, a2, a3⟩))
      ·exact .inr (.inl ⟨a1, a2⟩)
     ·exact .inl a1
    clear hno hno' hy hp
    rcases hq with h1 | ⟨h1, h2⟩ | ⟨h1, h2, h3⟩ | ⟨h1, h2, h3, h4⟩
    all_goals (
     (try (have h1' : (x1 == j) = false := by simpa using h1)); (try (have h2' : (x3 == g) = false := by simpa using h2)); (try (have h3' : (x4 == i) = false := by simpa using h3))
     (try subst h1); (try subst h2); (try subst h3)
     go_wp2_with (refine wpList_load_at rfl 58 _ rfl STAlloc b (off + k * 11) rfl #[.int .i64 x0, .int .i64 x1, .int .i64 x2, .int .i64 x3, .int .i64 x4, .int .i64 x5, .int .i64 x6, .int .i64 x7, .int .i64 x8, .bool x9, .int .i64 x10] (by exact hce) rfl ?_)
     go_roundw
     case rel => exact ⟨k + 1, by omega, by go_num, HN.out, hx.tr hxB, hBB⟩
     case measure => simp [intOf]; omega)
  ·have hr := Lib.hid (idx_none (p := slotB j g i) (l := l) (fun i hi y hy => hno i (by have := hlen.out; omega) y hy))
   clear hno
   go_wp2
   go_ret
   exact ⟨by rw [hr.out]; rfl, hx⟩
end
section
open Go.RowKit
namespace Fsm
theorem takes_not (n : NodD) (a : AllocD) (st : Int) : (!takes n a st) = ((a.node != n.id) || (a.epoch != n.epoch) || decide (3 ≤ a.state) || decide (st ≤ a.state) || decide (st < 2) || decide (5 < st) || (st == 5 && !a.stop)) := by
 cases h : a.stop <;> (rw [Bool.eq_iff_iff]; simp [takes, overB, h])
section
variable {n : NodD} {z : StoreD × Bool} {r : Int × Int} {a : AllocD} {m : List AllocD} {j : JobD}
theorem rep_none (h : z.1.allocs.find? (fun a => a.id == r.1) = none) : report n z r = z := by unfold report; rw [h]
theorem rep_not (h : z.1.allocs.find? (fun a => a.id == r.1) = some a) (ht : takes n a r.2 = false) : report n z r = z := by
 unfold report; rw [h]; simp only []; rw [if_pos (by rw [ht]; rfl)]
theorem rep_over (h : z.1.allocs.find? (fun a => a.id == r.1) = some a) (ht : takes n a r.2 = true) (hm : turn1 (fun a => a.id == r.1) (fun a => { a with state := r.2 }) z.1.allocs = m) (h3 : 3 ≤ r.2) : report n z r = (eval { z.1 with allocs := m } a.job, true) := by
 unfold report; rw [h]; simp only []; rw [if_neg (by rw [ht]; exact Bool.false_ne_true), if_pos h3, hm]
theorem rep_nojob (h : z.1.allocs.find? (fun a => a.id == r.1) = some a) (ht : takes n a r.2 = true) (hm : turn1 (fun a => a.id == r.1) (fun a => { a with state := r.2 }) z.1.allocs = m) (h3 : ¬ 3 ≤ r.2) (hj : jobAt { z.1 with allocs := m } a.job = none) : report n z r = ({ z.1 with allocs := m }, z.2) := by
 unfold report; rw [h]; simp only []; rw [if_neg (by rw [ht]; exact Bool.false_ne_true), if_neg h3, hm, hj]
theorem rep_type (h : z.1.allocs.find? (fun a => a.id == r.1) = some a) (ht : takes n a r.2 = true) (hm : turn1 (fun a => a.id == r.1) (fun a => { a with state := r.2 }) z.1.allocs = m) (h3 : ¬ 3 ≤ r.2) (hj : jobAt { z.1 with allocs := m } a.job = some j) (hty : (j.ty == 1) = false) : report n z r = ({ z.1 with allocs := m }, z.2) := by
 unfold report; rw [h]; simp only []; rw [if_neg (by rw [ht]; exact Bool.false_ne_true), if_neg h3, hm, hj]; simp only []; rw [if_pos (by rw [hty]; rfl)]
theorem rep_dep (h : z.1.allocs.find? (fun a => a.id == r.1) = some a) (ht : takes n a r.2 = true) (hm : turn1 (fun a => a.id == r.1) (fun a => { a with state := r.2 }) z.1.allocs = m) (h3 : ¬ 3 ≤ r.2) (hj : jobAt { z.1 with allocs := m } a.job = some j) (hty : (j.ty == 1) = true) {t : StoreD} (he : t = eval { z.1 with allocs := m } a.job) {q : List DepD} (hq : turn1 (fun d => d.job == a.job) (fun d => if d.state == 1 && d.ver == a.ver then { d with index := t.index } else d) t.deploys = q) : report n z r = ({ t with deploys := q }, z.2) := by
 unfold report; rw [h]; simp only []; rw [if_neg (by rw [ht]; exact Bool.false_ne_true), if_neg h3, hm, hj]; simp only []; rw [if_neg (by rw [hty]; exact Bool.false_ne_true), ← he, hq]
end
end Fsm
end
section
open Go.RowKit
section
variable {P : Program} {ops : Array Oper} {C : World → Prop} {Q : Act → Prop} {a : Act} {o : Oper} {rest : List Oper}
structure Calm (P : Program) (ops : Array Oper) (C : World → Prop) (Q : Act → Prop) (l : List Oper) (a : Act) : Prop where
 out : wpQuiet P ops C Q l a
theorem calm_region {id : Nat} {Q : Exit → Act → World → Prop} {w : World} {l : List Oper} (hm : P.follows .mixedOrders = true) (hB : Region.lexB .any l.toArray = true)
  (h : Calm P l.toArray (fun w' => Ext Nothing w w') (fun a' => ∀ w', Ext Nothing w w' → Q .normal a' w') l a) : (Code.region id l.toArray true).wp P Q a w :=
 wp_region_quiet (C := fun w' => Ext Nothing w w') hm hB ((Ext.refl _ _).drewN 1) (by simpa using h.out)
theorem calm_val {v : Value} (hw : Region.wanted o (yielded ops a.tmps) = true) (hr : ∀ W, C W → (execOp a.eval o).run P W = .ok (.value v) W) (h : Calm P ops C Q rest (a.put o.dst v)) : Calm P ops C Q (o :: rest) a :=
 ⟨wpQuiet_step fun K hK => by
  rw [if_pos hw]
  exact ⟨v, fun W hW => by unfold Oper.quietAt; rw [hr W hW]; exact ⟨rfl, rfl⟩, hK _ h.out⟩⟩
theorem calm_call {v : Value} {f : FuncId} {args : Array Value} (hw : Region.wanted o (yielded ops a.tmps) = true) (hr : ∀ W, C W → (execOp a.eval o).run P W = .ok (.enter f args) W) (hc : ∀ W, C W → Calls P f args W fun e w' => e = .returned v ∧ C w') (h : Calm P ops C Q rest (a.put o.dst v)) : Calm P ops C Q (o :: rest) a :=
 ⟨wpQuiet_step fun K hK => by
  rw [if_pos hw]
  exact ⟨v, fun W hW => by unfold Oper.quietAt; rw [hr W hW]; exact ⟨rfl, hc W hW⟩, hK _ h.out⟩⟩
theorem calm_skip (hw : Region.wanted o (yielded ops a.tmps) = false) (h : Calm P ops C Q rest (a.put o.dst undef)) : Calm P ops C Q (o :: rest) a :=
 ⟨wpQuiet_step fun K hK => by rw [if_neg (by rw [hw]; exact Bool.false_ne_true)]; exact hK _ h.out⟩
theorem calm_nil (h : Q a) : Calm P ops C Q [] a := ⟨h⟩
end
end
section
open Go.RowKit
namespace Fsm
def placeT (j : JobD) (n : NodD) (l : List AllocD) (node : Int) (s : StoreD) (t : Nat) : Option StoreD := ((l.take t).filter (fun x => x.node == node)).foldl (placeStep j n) (some s)
theorem placeT_zero (j : JobD) (n : NodD) (l : List AllocD) (node : Int) (s : StoreD) : placeT j n l node s 0 = some s := rfl
theorem placeT_all {j : JobD} {n : NodD} {l : List AllocD} {node : Int} {s : StoreD} {t : Nat} (h : l.length ≤ t) : placeT j n l node s t = placeAll j n (l.filter (fun x => x.node == node)) s := by unfold placeT placeAll; rw [List.take_of_length_le h]
theorem placeT_skip {j : JobD} {n : NodD} {l : List AllocD} {node : Int} {s : StoreD} {t : Nat} {x : AllocD} (hx : l[t]? = some x) (h : (x.node == node) = false) : placeT j n l node s (t + 1) = placeT j n l node s t := by
 unfold placeT
 rw [List.take_add_one, hx, List.filter_append, List.foldl_append]
 simp only [Option.toList_some, List.filter_cons, h, Bool.false_eq_true, if_false, List.filter_nil, List.foldl_nil]
theorem placeT_step {j : JobD} {n : NodD} {l : List AllocD} {node : Int} {s u : StoreD} {t : Nat} {x : AllocD} (hx : l[t]? = some x) (h : (x.node == node) = true) (hu : placeT j n l node s t = some u) : placeT j n l node s (t + 1) = if mayP u j n x then some (placed u j n x) else none := by
 unfold placeT at hu ⊢
 rw [List.take_add_one, hx, List.filter_append, List.foldl_append, hu]
 simp only [Option.toList_some, List.filter_cons, h, if_true, List.filter_nil, List.foldl_cons, List.foldl_nil]
 rfl
theorem placeT_none {j : JobD} {n : NodD} {l : List AllocD} {node : Int} {s : StoreD} {t : Nat} (h : placeT j n l node s t = none) : placeAll j n (l.filter (fun x => x.node == node)) s = none := by
 unfold placeAll
 have e : l.filter (fun x => x.node == node) = (l.take t).filter (fun x => x.node == node) ++ (l.drop t).filter (fun x => x.node == node) := by rw [← List.filter_append, List.take_append_drop]
 rw [e, List.foldl_append]
 unfold placeT at h
 rw [h]
 exact placeAll_none j n _
def fromB {α : Type} (p : α → Bool) (l : List α) (i : Nat) : Int := match (l.drop i).findIdx? p with | none => -1 | some k => (i : Int) + k
theorem fromB_end {α : Type} {p : α → Bool} {l : List α} {i : Nat} (h : l.length ≤ i) : fromB p l i = -1 := by unfold fromB; rw [List.drop_of_length_le h]; rfl
theorem fromB_step {α : Type} {p : α → Bool} {l : List α} {i : Nat} {x : α} (hx : l[i]? = some x) : fromB p l i = if p x then (i : Int) else fromB p l (i + 1) := by
 have hd : l.drop i = x :: l.drop (i + 1) := by
  obtain ⟨hi, rfl⟩ := List.getElem?_eq_some_iff.1 hx
  exact List.drop_eq_getElem_cons hi
 unfold fromB
 rw [hd, List.findIdx?_cons]
 cases hp : p x with
 | true => simp
 | false =>
  simp only [Bool.false_eq_true, if_false]
  cases (l.drop (i + 1)).findIdx? p with
  | none => rfl
  | some k => simp; omega
theorem fromB_zero {α : Type} {p : α → Bool} {l : List α} : (fromB p l 0 = -1 ∧ l.findIdx? p = none) ∨ ∃ k : Nat, fromB p l 0 = (k : Int) ∧ l.findIdx? p = some k ∧ k < l.length := by
 unfold fromB
 rw [List.drop_zero]
 cases h : l.findIdx? p with
 | none => exact .inl ⟨rfl, rfl⟩
 | some k =>
  refine .inr ⟨k, by simp, rfl, ?_⟩
  have h2 := h
  rw [List.findIdx?_eq_some_iff_getElem] at h2
  exact h2.1
theorem trim_done (jobs : List JobD) {m : List AllocD} (h : m.length ≤ 64) : ∀ n, trim jobs n m = some m
 | 0 => by unfold trim; rw [if_pos h]
 | n + 1 => by unfold trim; rw [if_pos h]
theorem trim_stuck (jobs : List JobD) {m : List AllocD} (h : 64 < m.length) (hf : m.findIdx? (fun a => !keptB jobs a) = none) : ∀ n, trim jobs n m = none
 | 0 => by unfold trim; rw [if_neg (by omega)]
 | n + 1 => by unfold trim; rw [if_neg (by omega), hf]
theorem trim_step (jobs : List JobD) {m : List AllocD} (h : 64 < m.length) {k : Nat} (hf : m.findIdx? (fun a => !keptB jobs a) = some k) (hk : k < m.length) : trim jobs m.length m = trim jobs (m.take k ++ m.drop (k + 1)).length (m.take k ++ m.drop (k + 1)) := by
 obtain ⟨q, hq⟩ : ∃ q, m.length = q + 1 := ⟨m.length - 1, by omega⟩
 have he : m.eraseIdx k = m.take k ++ m.drop (k + 1) := List.eraseIdx_eq_take_drop_succ ..
 have hl : (m.take k ++ m.drop (k + 1)).length = q := by rw [← he, List.length_eraseIdx, if_pos hk]; omega
 rw [hl, hq]
 conv => lhs; unfold trim
 rw [if_neg (by omega), hf]
 simp only [he]
def Up : List Int → Prop
 | [] => True
 | x :: r => (∀ y ∈ r, x < y) ∧ Up r
theorem insD_mem (x : Int) : ∀ (l : List Int) (y : Int), y ∈ insD x l ↔ y = x ∨ y ∈ l
 | [], y => by simp [insD]
 | z :: r, y => by
  unfold insD
  split
  ·simp
  ·split
   ·rename_i h1 h2
    subst h2
    simp
   ·rw [List.mem_cons, insD_mem x r y, List.mem_cons]
    constructor
    ·rintro (h | h | h)
     ·exact .inr (.inl h)
     ·exact .inl h
     ·exact .inr (.inr h)
    ·rintro (h | h | h)
     ·exact .inr (.inl h)
     ·exact .inl h
     ·exact .inr (.inr h)
theorem insD_up (x : Int) : ∀ (l : List Int), Up l → Up (insD x l)
 | [], _ => ⟨by simp, trivial⟩
 | z :: r, h => by
  unfold insD
  split
  ·rename_i h1
   refine ⟨fun y hy => ?_, h⟩
   rcases List.mem_cons.1 hy with rfl | hy
   ·exact h1
   ·have := h.1 y hy; omega
  ·split
   ·exact h
   ·rename_i h1 h2
    refine ⟨fun y hy => ?_, insD_up x r h.2⟩
    rcases (insD_mem x r y).1 hy with rfl | hy
    ·omega
    ·exact h.1 y hy
theorem nodesUp_mem : ∀ (l : List AllocD) (y : Int), y ∈ nodesUp l ↔ ∃ x ∈ l, x.node = y
 | [], y => by simp [nodesUp]
 | a :: r, y => by
  rw [show nodesUp (a :: r) = insD a.node (nodesUp r) from rfl, insD_mem, nodesUp_mem r y]
  simp only [List.mem_cons, exists_eq_or_imp]
  constructor
  ·rintro (h | h)
   ·exact .inl h.symm
   ·exact .inr h
  ·rintro (h | h)
   ·exact .inl h.symm
   ·exact .inr h
theorem nodesUp_up : ∀ (l : List AllocD), Up (nodesUp l)
 | [] => trivial
 | a :: r => insD_up a.node _ (nodesUp_up r)
def nextS (first : Bool) (last : Int) (z : Int × Bool) (x : AllocD) : Int × Bool := if (first || decide (last < x.node)) && (!z.2 || decide (x.node < z.1)) then (x.node, true) else z
def nextF (first : Bool) (last : Int) (l : List AllocD) : Int × Bool := l.foldl (nextS first last) (0, false)
structure NextI (first : Bool) (last : Int) (seen : List AllocD) (z : Int × Bool) : Prop where
 no : z.2 = false → ∀ x ∈ seen, (first || decide (last < x.node)) = false
 yes : z.2 = true → (∃ x ∈ seen, x.node = z.1 ∧ (first || decide (last < x.node)) = true) ∧ ∀ x ∈ seen, (first || decide (last < x.node)) = true → z.1 ≤ x.node
theorem nextI_step {first : Bool} {last : Int} {seen : List AllocD} {z : Int × Bool} (h : NextI first last seen z) (x : AllocD) : NextI first last (seen ++ [x]) (nextS first last z x) := by
 obtain ⟨n, b⟩ := z
 unfold nextS
 cases hq : (first || decide (last < x.node)) with
 | false =>
  simp only [Bool.false_and, Bool.false_eq_true, if_false]
  refine ⟨fun e y hy => ?_, fun e => ?_⟩
  ·rcases List.mem_append.1 hy with hy | hy
   ·exact h.no e y hy
   ·rw [List.mem_singleton.1 hy]; exact hq
  ·obtain ⟨⟨y, hy, h1⟩, h2⟩ := h.yes e
   refine ⟨⟨y, List.mem_append_left _ hy, h1⟩, fun y hy hy2 => ?_⟩
   rcases List.mem_append.1 hy with hy | hy
   ·exact h2 y hy hy2
   ·rw [List.mem_singleton.1 hy, hq] at hy2; cases hy2
 | true =>
  cases b with
  | false =>
   simp only [Bool.not_false, Bool.true_or, Bool.and_self, if_true]
   refine ⟨(fun e => by cases e), fun _ => ⟨⟨x, by simp, rfl, hq⟩, fun y hy hy2 => ?_⟩⟩
   rcases List.mem_append.1 hy with hy | hy
   ·rw [h.no rfl y hy] at hy2; cases hy2
   ·rw [List.mem_singleton.1 hy]; exact Int.le_refl _
  | true =>
   obtain ⟨⟨y, hy, h1, h3⟩, h2⟩ := h.yes rfl
   simp only at h1 h2
   by_cases hlt : x.node < n
   ·simp only [hlt, decide_true, Bool.or_true, Bool.and_self, if_true]
    refine ⟨(fun e => by cases e), fun _ => ⟨⟨x, by simp, rfl, hq⟩, fun y hy hy2 => ?_⟩⟩
    rcases List.mem_append.1 hy with hy | hy
    ·have := h2 y hy hy2; show x.node ≤ _; omega
    ·rw [List.mem_singleton.1 hy]; exact Int.le_refl _
   ·simp only [hlt, decide_false, Bool.not_true, Bool.or_self, Bool.and_false, Bool.false_eq_true, if_false]
    refine ⟨(fun e => by cases e), fun _ => ⟨⟨y, List.mem_append_left _ hy, h1, h3⟩, fun y hy hy2 => ?_⟩⟩
    rcases List.mem_append.1 hy with hy | hy
    ·exact h2 y hy hy2
    ·rw [List.mem_singleton.1 hy]; show n ≤ _; omega
theorem nextI_all (first : Bool) (last : Int) : ∀ (l seen : List AllocD) (z : Int × Bool), NextI first last seen z → NextI first last (seen ++ l) (l.foldl (nextS first last) z)
 | [], seen, z, h => by simpa using h
 | x :: r, seen, z, h => by
  have := nextI_all first last r (seen ++ [x]) _ (nextI_step h x)
  rw [List.append_assoc] at this
  exact this
theorem nextF_spec (first : Bool) (last : Int) (l : List AllocD) : NextI first last l (nextF first last l) := by
 have := nextI_all first last l [] (0, false) ⟨(fun _ x hx => by cases hx), (fun e => by cases e)⟩
 rw [List.nil_append] at this
 exact this
theorem nextF_take (first : Bool) (last : Int) (l : List AllocD) (t : Nat) {x : AllocD} (hx : l[t]? = some x) : nextF first last (l.take (t + 1)) = nextS first last (nextF first last (l.take t)) x := by
 unfold nextF
 rw [List.take_add_one, hx, List.foldl_append]; rfl
structure Todo (l : List AllocD) (first : Bool) (last : Int) (rest : List Int) : Prop where
 up : Up rest
 mem : ∀ y, y ∈ rest ↔ (∃ x ∈ l, x.node = y) ∧ (first || decide (last < y)) = true
theorem Todo.start (l : List AllocD) (last : Int) : Todo l true last (nodesUp l) := ⟨nodesUp_up l, fun y => by rw [nodesUp_mem]; simp⟩
theorem Todo.next {l : List AllocD} {first : Bool} {last : Int} {rest : List Int} (h : Todo l first last rest) : ((nextF first last l).2 = false ∧ rest = []) ∨ ((nextF first last l).2 = true ∧ ∃ r, rest = (nextF first last l).1 :: r ∧ Todo l false (nextF first last l).1 r) := by
 have hs := nextF_spec first last l
 generalize nextF first last l = z at hs ⊢
 obtain ⟨n, b⟩ := z
 cases b with
 | false =>
  refine .inl ⟨rfl, ?_⟩
  cases rest with
  | nil => rfl
  | cons y r =>
   obtain ⟨⟨x, hx, rfl⟩, h2⟩ := (h.mem y).1 (List.mem_cons_self ..)
   rw [hs.no rfl x hx] at h2; cases h2
 | true =>
  obtain ⟨⟨x, hx, h1, h3⟩, h2⟩ := hs.yes rfl
  simp only at h1 h2
  subst h1
  have hm : x.node ∈ rest := (h.mem _).2 ⟨⟨x, hx, rfl⟩, h3⟩
  cases rest with
  | nil => cases hm
  | cons y r =>
   have hy : y = x.node := by
    rcases List.mem_cons.1 hm with e | e
    ·exact e.symm
    ·have hlt := h.up.1 _ e
     obtain ⟨⟨x', hx', rfl⟩, h4⟩ := (h.mem y).1 (List.mem_cons_self ..)
     have := h2 x' hx' h4
     omega
   subst hy
   refine .inr ⟨rfl, r, rfl, ⟨h.up.2, fun y => ?_⟩⟩
   constructor
   ·intro hy
    exact ⟨((h.mem y).1 (List.mem_cons_of_mem _ hy)).1, by simpa using h.up.1 y hy⟩
   ·rintro ⟨h5, h6⟩
    simp at h6
    have : y ∈ x.node :: r := (h.mem y).2 ⟨h5, by
     cases first with
     | true => rfl
     | false => simp at h3 ⊢; omega⟩
    rcases List.mem_cons.1 this with e | e
    ·omega
    ·exact e
end Fsm
end
section
open Go.RowKit
namespace Fsm
def StT (s : StoreD) : Prop := ∀ x ∈ s.stable, ∃ j, jobAt s x.id = some j ∧ j.ty = x.ty
theorem Rise.turnJ {k : Nat} {s t : StoreD} (h : Vers k s) (p : JobD → Bool) (f : JobD → JobD) (h1 : t.jobs = turn1 p f s.jobs) (h2 : t.nodes = s.nodes) (hf : ∀ j, (f j).id = j.id ∧ (f j).ver = j.ver ∧ (f j).ty = j.ty) : Rise s t ∧ Vers k t := by
 have h4 : ∀ x, nodeAt t x = nodeAt s x := fun x => by rw [nodeAt, nodeAt, h2]
 have r := Rise.refl h
 have key : ∀ l : List JobD, ∀ x, ((turn1 p f l).find? (fun j => j.id == x)).map (fun j => (j.ver, j.ty)) = (l.find? (fun j => j.id == x)).map (fun j => (j.ver, j.ty)) := fun l x => by
  induction l with
  | nil => rfl
  | cons y r ih =>
   unfold turn1
   split
   ·rw [List.find?_cons, List.find?_cons, (hf y).1]
    split
    ·simp [(hf y).2.1, (hf y).2.2]
    ·rfl
   ·rw [List.find?_cons, List.find?_cons]
    split
    ·rfl
    ·exact ih
 refine ⟨⟨fun j hj => ?_, fun n hn => by rw [h4]; exact r.nodes n hn⟩, ⟨by rw [h1, turn1_map _ _ _ (fun j => (hf j).1)]; exact h.jn, fun j hj => ?_, by rw [h2]; exact h.nn, by rw [h2]; exact h.ne⟩⟩
 ·have h5 := key s.jobs j.id
  rw [find_self JobD.id h.jn hj] at h5
  rw [jobAt, h1]
  cases hq : (turn1 p f s.jobs).find? (fun i => i.id == j.id) with
  | none => rw [hq] at h5; cases h5
  | some i =>
   rw [hq] at h5
   simp only [Option.map_some, Option.some.injEq, Prod.mk.injEq] at h5
   exact ⟨i, rfl, by omega, by omega, h5.2⟩
 ·rw [h1] at hj
  have : ∀ l : List JobD, j ∈ turn1 p f l → ∃ i ∈ l, j.ver = i.ver := fun l => by
   induction l with
   | nil => intro h; cases h
   | cons y r ih =>
    intro hh
    unfold turn1 at hh
    split at hh
    ·rcases List.mem_cons.1 hh with hh | hh
     ·exact ⟨y, List.mem_cons_self .., by rw [hh, (hf y).2.1]⟩
     ·exact ⟨j, List.mem_cons_of_mem _ hh, rfl⟩
    ·rcases List.mem_cons.1 hh with hh | hh
     ·exact ⟨y, List.mem_cons_self .., by rw [hh]⟩
     ·obtain ⟨i, a, b⟩ := ih hh
      exact ⟨i, List.mem_cons_of_mem _ a, b⟩
  obtain ⟨i, hi, e⟩ := this _ hj
  rw [e]; exact h.jv i hi
theorem begins_jobs (s : StoreD) (j : JobD) : (begins s j).jobs = putL JobD.id j s.jobs := by
 unfold begins
 simp only
 refine (eval_js _ _).trans ?_
 split
 ·exact looked_js _
 ·rfl
theorem joins_nodes (s : StoreD) (n : NodD) : (joins s n).nodes = putL NodD.id n s.nodes := by
 unfold joins
 exact ((came_kept _).1.trans (system_kept _).1).trans (lost_spec _ _).1
theorem places_nodes (s : StoreD) (j : JobD) (node : Int) (l : List AllocD) : (places s j node l).1.nodes = s.nodes := by
 have all : ∀ (n : NodD) (l : List AllocD) (s t : StoreD), placeAll j n l s = some t → t.nodes = s.nodes := fun n l => by
  induction l with
  | nil => intro s t e; cases e; rfl
  | cons x r ih =>
   intro s t e
   unfold placeAll at e
   rw [List.foldl_cons, show placeStep j n (some s) x = if mayP s j n x then some (placed s j n x) else none from rfl] at e
   split at e
   ·exact ih (placed s j n x) t e
   ·rw [placeAll_none] at e; cases e
 unfold places
 split
 ·rfl
 ·split
  ·rfl
  ·split
   ·rfl
   ·rename_i t ht
    split
    ·rfl
    ·exact (all _ _ _ t ht : t.nodes = s.nodes)
theorem plan_same (s : StoreD) (c : CmdD) : (plan s c).1.jobs = s.jobs ∧ (plan s c).1.nodes = s.nodes := by
 unfold plan
 simp only
 split
 ·rename_i j e _ _
  split
  ·exact ⟨rfl, rfl⟩
  ·have h2 : ∀ (l : List Int) (z : StoreD × Bool), (l.foldl (fun z n => ((places z.1 j n c.plan.places).1, z.2 && (places z.1 j n c.plan.places).2)) z).1.jobs = z.1.jobs ∧ (l.foldl (fun z n => ((places z.1 j n c.plan.places).1, z.2 && (places z.1 j n c.plan.places).2)) z).1.nodes = z.1.nodes := fun l => by
    induction l with
    | nil => intro z; exact ⟨rfl, rfl⟩
    | cons n r ih =>
     intro z
     obtain ⟨k1, k2⟩ := ih ((places z.1 j n c.plan.places).1, z.2 && (places z.1 j n c.plan.places).2)
     exact ⟨k1.trans (places_own _ _ _ _).1, k2.trans (places_nodes _ _ _ _)⟩
   obtain ⟨k1, k2⟩ := h2 (nodesUp c.plan.places) ({ s with allocs := stops c.plan.job s.allocs c.plan.stops }, true)
   split
   ·exact ⟨k1, k2⟩
   ·exact ⟨k1, k2⟩
 ·exact ⟨rfl, rfl⟩
theorem command_rise {k : Nat} {s : StoreD} (h : Vers k s) (hk : k < 4611686018427387904) (hst : StT s) (c : CmdD) : Rise s (command s c).1 ∧ Vers (k + 1) (command s c).1 := by
 have h0 : Rise s s ∧ Vers (k + 1) s := ⟨Rise.refl h, h.more (by omega)⟩
 have up : ∀ {t : StoreD}, Rise s t ∧ Vers k t → Rise s t ∧ Vers (k + 1) t := fun r => ⟨r.1, r.2.more (by omega)⟩
 have one : ∀ {x : Int} {j : JobD}, jobAt s x = some j → ∀ i ∈ s.jobs, i.id = x → i = j := fun {x j} hj i hi e => by
  have := find_self JobD.id h.jn hi
  rw [e] at this
  rw [jobAt] at hj
  rw [hj] at this
  cases this; rfl
 have oneN : ∀ {x : Int} {n : NodD}, nodeAt s x = some n → ∀ i ∈ s.nodes, i.id = x → i = n := fun {x n} hn i hi e => by
  have := find_self NodD.id h.nn hi
  rw [e] at this
  rw [nodeAt] at hn
  rw [hn] at this
  cases this; rfl
 unfold command
 repeat' split
 ·exact h0
 ·unfold submit
  split
  ·exact h0
  ·split
   ·rename_i g hg
    split
    ·exact h0
    ·rename_i hc
     have hc1 : g.ty = c.job.ty := by
      cases hq : (g.ty == c.job.ty) with
      | true => simpa using hq
      | false => rw [hq] at hc; simp at hc
     have hc2 : g.ver < 1099511627776 := by
      by_cases hq : g.ver < 1099511627776
      ·exact hq
      ·have hq' : decide (big40 ≤ g.ver) = true := decide_eq_true (by unfold big40; omega)
       exact absurd (by rw [hq', Bool.or_true]) hc
     obtain ⟨hid, hm⟩ := jobAt_mem hg
     have hv := h.jv g hm
     have hw : wrap64 (g.ver + 1) = g.ver + 1 := by unfold wrap64; omega
     refine up (Rise.putJ h _ (begins_jobs _ _) (begins_kept _ _).1 (by simp only; rw [hw]; omega) (fun i hi e => ?_))
     have := one hg i hi e
     subst this
     exact ⟨by simp only; rw [hw]; omega, by simp only; rw [hw]; omega, hc1.symm⟩
   ·rename_i hg
    split
    ·exact h0
    ·refine up (Rise.putJ h _ (begins_jobs _ _) (begins_kept _ _).1 ⟨Int.le_refl 1, (by omega : (1 : Int) ≤ 1099511627776)⟩ (fun i hi e => ?_))
     have := List.find?_eq_none.1 hg i hi
     have e' : i.id = c.job.id := e
     simp [e'] at this
 ·unfold cancel
  split
  ·exact h0
  ·exact up (Rise.turnJ h (fun j => j.id == c.job.id) (fun j => { j with stopped := true }) (eval_js _ _) (eval_kept _ _).1 (fun _ => ⟨rfl, rfl, rfl⟩))
 ·unfold register
  split
  ·exact h0
  ·split
   ·rename_i hg
    refine Rise.putN h _ (joins_nodes _ _) (joins_js _ _) ⟨(by omega : (0 : Int) ≤ 1), (by omega : (1 : Int) ≤ (k : Int) + 1)⟩ (fun i hi e => ?_)
    have := List.find?_eq_none.1 hg i hi
    have e' : i.id = c.node.id := e
    simp [e'] at this
   ·rename_i g hg
    split
    ·exact h0
    ·rename_i h1
     split
     ·split <;> exact h0
     ·rename_i h2
      obtain ⟨hid, hm⟩ := nodeAt_id hg
      have hv := h.ne g hm
      have hw : wrap64 (g.epoch + 1) = g.epoch + 1 := by unfold wrap64; omega
      refine Rise.putN h _ (joins_nodes _ _) (joins_js _ _) (by simp only; rw [hw]; omega) (fun i hi e => ?_)
      have := oneN hg i hi e
      subst this
      exact ⟨by simp only; rw [hw]; omega, by simp only; rw [hw]; omega, by simp only; omega, fun e => by simp only at e; rw [hw] at e; omega⟩
 ·unfold beat
  split
  ·exact h0
  ·split
   ·exact h0
   ·rename_i g hg
    split
    ·exact h0
    ·split
     ·exact h0
     ·rename_i hs
      simp only
      have hn : (looked (c.reports.foldl (report c.node) ({ s with nodes := turn1 (fun n => n.id == c.node.id) (fun n => { n with seq := c.node.seq }) s.nodes }, false)).1).nodes = turn1 (fun n => n.id == c.node.id) (fun n => { n with seq := c.node.seq }) s.nodes := (looked_kept _).1.trans (reports_spec c.node c.reports _).1
      have hj : (looked (c.reports.foldl (report c.node) ({ s with nodes := turn1 (fun n => n.id == c.node.id) (fun n => { n with seq := c.node.seq }) s.nodes }, false)).1).jobs = s.jobs := (looked_js _).trans (reports_js c.node c.reports _)
      have hf : ∀ n ∈ s.nodes, n.id = c.node.id → n.epoch ≤ n.epoch ∧ n.epoch ≤ n.epoch + 1 ∧ n.boot ≤ n.boot ∧ (n.epoch = n.epoch → n.seq ≤ c.node.seq) := fun n hn e => by
       have := oneN hg n hn e
       subst this
       exact ⟨Int.le_refl _, by omega, Int.le_refl _, fun _ => by omega⟩
      split
      ·exact Rise.turnN h c.node.id (fun n => { n with seq := c.node.seq }) hn hj (fun _ => rfl) hf
      ·exact Rise.turnN h c.node.id (fun n => { n with seq := c.node.seq }) hn hj (fun _ => rfl) hf
 ·unfold down
  split
  ·exact h0
  ·rename_i g hg
   split
   ·exact h0
   ·split
    ·exact h0
    ·refine Rise.turnN h c.node.id (fun n => { n with up := false, epoch := wrap64 (n.epoch + 1) }) ((system_kept _).1.trans (lost_spec _ _).1) ((system_js _).trans (lost_js _ _)) (fun _ => rfl) (fun n hn e => ?_)
     have hv := h.ne n hn
     have hw : wrap64 (n.epoch + 1) = n.epoch + 1 := by unfold wrap64; omega
     exact ⟨by simp only; rw [hw]; omega, by simp only; rw [hw]; omega, Int.le_refl _, fun e => by simp only at e; rw [hw] at e; omega⟩
 ·unfold drain
  split
  ·exact h0
  ·simp only
   have hn : (system (s.allocs.foldl (fun t a => if a.node == c.node.id && !overB a then eval t a.job else t) { s with nodes := turn1 (fun n => n.id == c.node.id) (fun n => { n with drain := c.node.drain }) s.nodes })).nodes = turn1 (fun n => n.id == c.node.id) (fun n => { n with drain := c.node.drain }) s.nodes :=
    (system_kept _).1.trans (fold_kept (f := fun t (a : AllocD) => if a.node == c.node.id && !overB a then eval t a.job else t) (fun t a => by split; exact eval_kept t a.job; exact Kept.refl t) s.allocs _).1
   have hj : (system (s.allocs.foldl (fun t a => if a.node == c.node.id && !overB a then eval t a.job else t) { s with nodes := turn1 (fun n => n.id == c.node.id) (fun n => { n with drain := c.node.drain }) s.nodes })).jobs = s.jobs :=
    (system_js _).trans (fold_js (f := fun t (a : AllocD) => if a.node == c.node.id && !overB a then eval t a.job else t) (fun t a => by split; exact eval_js t a.job; rfl) s.allocs _)
   have hf : ∀ n ∈ s.nodes, n.id = c.node.id → n.epoch ≤ n.epoch ∧ n.epoch ≤ n.epoch + 1 ∧ n.boot ≤ n.boot ∧ (n.epoch = n.epoch → n.seq ≤ n.seq) := fun n _ _ => ⟨Int.le_refl _, by omega, Int.le_refl _, fun _ => Int.le_refl _⟩
   split
   ·exact Rise.turnN h c.node.id (fun n => { n with drain := c.node.drain }) hn hj (fun _ => rfl) hf
   ·exact Rise.turnN h c.node.id (fun n => { n with drain := c.node.drain }) hn hj (fun _ => rfl) hf
 ·exact up (Rise.same h (plan_same s c).1 (plan_same s c).2)
 ·unfold revert
  split
  ·exact h0
  ·rename_i g hg
   split
   ·exact h0
   ·split
    ·exact h0
    ·simp only
     split
     ·exact up (Rise.same h (eval_js _ _) (eval_kept _ _).1)
     ·rename_i x hx
      split
      ·exact up (Rise.same h (eval_js _ _) (eval_kept _ _).1)
      ·split
       ·exact h0
       ·rename_i hb
        obtain ⟨hid, hm⟩ := jobAt_mem hg
        have hv := h.jv g hm
        simp only [big40] at hb
        have hw : wrap64 (g.ver + 1) = g.ver + 1 := by unfold wrap64; omega
        have hxs := List.find?_some hx
        have hxid : x.id = g.id := by simpa using hxs
        obtain ⟨q, hq, hty⟩ := hst x (List.mem_of_find?_eq_some hx)
        have hqg : q = g := by
         rw [hxid, hid] at hq
         rw [hq] at hg; cases hg; rfl
        subst hqg
        refine up (Rise.putJ h _ (begins_jobs _ _) (begins_kept _ _).1 (by simp only; rw [hw]; omega) (fun i hi e => ?_))
        have e' : i.id = x.id := e
        have := one hg i hi (by rw [e', hxid, hid])
        subst this
        exact ⟨by simp only; rw [hw]; omega, by simp only; rw [hw]; omega, hty.symm⟩
 ·exact h0
end Fsm
end
end Go.Proofs.YtlpfcmnnmdhaoaaGreat
