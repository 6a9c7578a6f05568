/- Life: nobody is given up too soon: the plain law; among. -/
import Derived.Test.YtaibifaeljnchaaLifeH
namespace Go.Proofs.Ytaibifaeljnchaa
set_option linter.unusedVariables false
open Go.RowKit
open Go.Maps (Keyed)

def upIn (ns : List NodeD) (id ep sq : Int) : Prop := ∃ y ∈ ns, y.up = true ∧ y.id = id ∧ y.ep = ep ∧ y.sq = sq
/-- each node's clock: so many of the last lists held it -/
def SeenBy (L : List (Key × Int)) (R : List BeatD) : Prop := ∀ id ep sq c, aget (false, id, ep, sq) L = some c → ∀ j : Nat, (j : Int) ≤ c → ∃ x, R[j]? = some x ∧ upIn x.ns id ep sq
def AskedBy (q : List Ask) (R : List BeatD) : Prop := ∀ a ∈ q, a.op = 7 → ∀ j : Nat, j < 20 → ∃ x, R[j]? = some x ∧ upIn x.ns a.nid a.nep a.nsq
theorem SeenBy.nil (R : List BeatD) : SeenBy [] R := fun id ep sq c h => by simp [aget] at h
theorem aget_snoc {k : Key} {v : Int} {N : List (Key × Int)} (h : aget k N = none) {k' : Key} {c : Int} (hc : aget k' (N ++ [(k, v)]) = some c) : (k' = k ∧ c = v) ∨ aget k' N = some c := by
  rw [← aput_of_none h] at hc
  by_cases e : k' = k
  · subst e
    rw [aget_aput_same] at hc
    cases hc
    exact .inl ⟨rfl, rfl⟩
  · rw [aget_aput_other e] at hc
    exact .inr hc
theorem foldl_inv {α β : Type} {f : β → α → β} (P : β → Prop) : ∀ (l : List α) (s : β), P s → (∀ s, ∀ x ∈ l, P s → P (f s x)) → P (l.foldl f s)
  | [], s, h, _ => h
  | x :: r, s, h, hs => foldl_inv P r (f s x) (hs s x (List.mem_cons_self ..) h) (fun s y hy => hs s y (List.mem_cons_of_mem _ hy))
theorem stepN_seen {L : List (Key × Int)} {R : List BeatD} {b : BeatD} (hL : SeenBy L R) (s : St) (x : NodeD) (hx : x ∈ b.ns) (h : SeenBy s.1 (b :: R) ∧ AskedBy s.2 R) : SeenBy (stepN L s x).1 (b :: R) ∧ AskedBy (stepN L s x).2 R := by
  unfold stepN
  by_cases hu : x.up = true
  · rw [if_pos hu]
    have hin : upIn b.ns x.id x.ep x.sq := ⟨x, hx, hu, rfl, rfl, rfl⟩
    unfold goesF
    cases hN : aget (false, x.id, x.ep, x.sq) s.1 with
    | some c => simpa using h
    | none =>
      cases hc : aget (false, x.id, x.ep, x.sq) L with
      | none =>
        simp only [show ¬ ((20 : Int) ≤ 0) by decide, if_false, Bool.false_eq_true, List.append_nil]
        refine ⟨?_, h.2⟩
        intro id ep sq c hq j hj
        rcases aget_snoc hN hq with ⟨e, rfl⟩ | hq
        · cases e
          obtain rfl : j = 0 := by omega
          exact ⟨b, rfl, hin⟩
        · exact h.1 id ep sq c hq j hj
      | some c0 =>
        have hs := hL _ _ _ _ hc
        simp only
        by_cases he : (20 : Int) ≤ c0 + 1
        · rw [if_pos he]
          refine ⟨?_, ?_⟩
          · intro id ep sq c hq j hj
            rcases aget_snoc hN hq with ⟨e, rfl⟩ | hq
            · cases e
              rcases j with _ | j
              · exact ⟨b, rfl, hin⟩
              · exact hs j (by omega)
            · exact h.1 id ep sq c hq j hj
          · intro a ha hop j hj
            simp only [if_true, List.mem_append, List.mem_singleton] at ha
            rcases ha with ha | rfl
            · exact h.2 a ha hop j hj
            · exact hs j (by omega)
        · rw [if_neg he]
          simp only [Bool.false_eq_true, if_false, List.append_nil]
          refine ⟨?_, h.2⟩
          intro id ep sq c hq j hj
          rcases aget_snoc hN hq with ⟨e, rfl⟩ | hq
          · cases e
            rcases j with _ | j
            · exact ⟨b, rfl, hin⟩
            · exact hs j (by omega)
          · exact h.1 id ep sq c hq j hj
  · rw [if_neg hu]; exact h
theorem goesF_seen {L N : List (Key × Int)} {R : List BeatD} {a b c en : Int} (h : SeenBy N R) : SeenBy (goesF L N (true, a, b, c) en).1 R := by
  unfold goesF
  cases hN : aget (true, a, b, c) N with
  | some c => exact h
  | none =>
    have key : ∀ v, SeenBy (N ++ [((true, a, b, c), v)]) R := fun v id ep sq c hq j hj => by
      rcases aget_snoc hN hq with ⟨e, _⟩ | hq
      · cases e
      · exact h id ep sq c hq j hj
    simp only
    split <;> split <;> exact key _
theorem stepD_seen {L : List (Key × Int)} {R R' : List BeatD} (s : St) (x : DeployD) (h : SeenBy s.1 R' ∧ AskedBy s.2 R) : SeenBy (stepD L s x).1 R' ∧ AskedBy (stepD L s x).2 R := by
  unfold stepD
  by_cases hu : x.st = 1
  · rw [if_pos hu]
    refine ⟨goesF_seen h.1, ?_⟩
    intro a ha hop j hj
    simp only [List.mem_append] at ha
    rcases ha with ha | ha
    · exact h.2 a ha hop j hj
    · split at ha
      · simp only [List.mem_singleton] at ha
        subst ha
        simp at hop
      · simp at ha
  · rw [if_neg hu]; exact h
theorem tick_seen {L L' : List (Key × Int)} {R : List BeatD} {b : BeatD} {q : List Ask} (hL : SeenBy L R) (hT : tickF L b.ns b.ds = (L', q)) : SeenBy L' (b :: R) ∧ AskedBy q R := by
  have h1 := foldl_inv (f := stepN L) (fun s => SeenBy s.1 (b :: R) ∧ AskedBy s.2 R) b.ns ([], []) ⟨SeenBy.nil _, fun a ha => by simp at ha⟩ (fun s x hx h => stepN_seen hL s x hx h)
  have h2 := foldl_inv (f := stepD L) (fun s => SeenBy s.1 (b :: R) ∧ AskedBy s.2 R) b.ds _ h1 (fun s x hx h => stepD_seen s x h)
  unfold tickF at hT
  rw [hT] at h2
  exact h2

set_option maxHeartbeats 1000000 in
theorem among_any (A : Option Addr) (n cap : Nat) (ns : List NodeD) (id ep sq a1 a2 a5 : Int) (a3 a4 : Bool) (w : World) (hl : Sl w 8 A n (ns.map NodeD.cells)) (hn : n ≤ 1048576) (hup : upIn ns id ep sq) :
    Calls Try.prog 14 #[.slice A n cap, .agg #[.int .i64 id, .int .i64 a1, .int .i64 a2, .bool a3, .bool a4, .int .i64 a5, .int .i64 ep, .int .i64 sq]] w fun e w' => e = .returned (.bool true) ∧ Ext Nothing w w' := by
  have hlen := Lib.hid hl.len
  have hx0 : Ext Nothing w (w.alloc (.cells #[.int .i64 id, .int .i64 a1, .int .i64 a2, .bool a3, .bool a4, .int .i64 a5, .int .i64 ep, .int .i64 sq] 28)) := (Ext.refl _ _).alloc _
  have hb0 : Blk (w.alloc (.cells #[.int .i64 id, .int .i64 a1, .int .i64 a2, .bool a3, .bool a4, .int .i64 a5, .int .i64 ep, .int .i64 sq] 28)) w.heap.size 28 #[.int .i64 id, .int .i64 a1, .int .i64 a2, .bool a3, .bool a4, .int .i64 a5, .int .i64 ep, .int .i64 sq] := Blk.new' _ _ _ rfl
  have HU := Lib.hid hup
  clear hup
  go_enter Try.func14, Try.ntmps14
  go_wp2
  go_loopw [5] (fun i wr => ∃ k : Nat, k ≤ n ∧ i = .int .i64 k ∧ (∀ j < k, ∀ y, ns[j]? = some y → ¬ (y.up = true ∧ y.id = id ∧ y.ep = ep ∧ y.sq = sq)) ∧ Blk wr w.heap.size 28 #[.int .i64 id, .int .i64 a1, .int .i64 a2, .bool a3, .bool a4, .int .i64 a5, .int .i64 ep, .int .i64 sq] ∧ Ext Nothing w wr)
    (fun i _ => n - (intOf i).toNat)
  case atStart => exact ⟨0, Nat.zero_le _, rfl, fun j hj => absurd hj (by omega), hb0, hx0⟩
  case round =>
    clear hx0 hb0
    obtain ⟨k, hk, rfl, hno, hb, hx⟩ := hrel
    have x0 : wr.cell? ⟨w.heap.size, 0, none⟩ = some (.int .i64 id) := hb.cell 0
    have x6 : wr.cell? ⟨w.heap.size, 6, none⟩ = some (.int .i64 ep) := hb.cell 6
    have x7 : wr.cell? ⟨w.heap.size, 7, none⟩ = some (.int .i64 sq) := hb.cell 7
    by_cases hlt : k < n
    · obtain ⟨hkn, b, off, rfl, hce⟩ := hl.get hx hlt
      have hy : ns[k]? = some ns[k] := List.getElem?_eq_getElem hkn
      generalize ns[k] = y at hce hy
      obtain ⟨yid, y1, y2, yup, y4, y5, yep, ysq⟩ := y
      have c0 : wr.cell? ⟨b, off + k * 8, none⟩ = some (.int .i64 yid) := hce 0 _ rfl
      have c3 : wr.cell? ⟨b, off + k * 8 + 3, none⟩ = some (.bool yup) := hce 3 _ rfl
      have c6 : wr.cell? ⟨b, off + k * 8 + 6, none⟩ = some (.int .i64 yep) := hce 6 _ rfl
      have c7 : wr.cell? ⟨b, off + k * 8 + 7, none⟩ = some (.int .i64 ysq) := hce 7 _ rfl
      have hstep : ¬ (yup = true ∧ yid = id ∧ yep = ep ∧ ysq = sq) → ∀ j < k + 1, ∀ y, ns[j]? = some y → ¬ (y.up = true ∧ y.id = id ∧ y.ep = ep ∧ y.sq = sq) := fun hne j hj p hp => by
        by_cases hjk : j = k
        · subst hjk; rw [hy] at hp; cases hp; exact hne
        · exact hno j (by omega) p hp
      have HS := Lib.hid hstep
      clear hce hno hstep hy hl
      cases yup with
      | true =>
        by_cases e1 : yid = id
        · subst e1
          by_cases e2 : yep = ep
          · subst e2
            by_cases e3 : ysq = sq
            · subst e3
              go_wp2
              go_quiet (fail)
              go_wp2
              go_ret
              exact ⟨rfl, hx.drewN _⟩
            · have h3 : (ysq == sq) = false := by simpa using e3
              go_wp2
              go_quiet (fail)
              go_wp2
              go_roundw
              case rel => exact ⟨k + 1, by omega, by go_num, HS.out (by simpa using e3), hb, hx.drewN _⟩
              case measure => simp [intOf]; omega
          · have h2 : (yep == ep) = false := by simpa using e2
            go_wp2
            go_quiet (fail)
            go_wp2
            go_roundw
            case rel => exact ⟨k + 1, by omega, by go_num, HS.out (by simp [e2]), hb, hx.drewN _⟩
            case measure => simp [intOf]; omega
        · have h1 : (yid == id) = false := by simpa using e1
          go_wp2
          go_quiet (fail)
          go_wp2
          go_roundw
          case rel => exact ⟨k + 1, by omega, by go_num, HS.out (by simp [e1]), hb, hx.drewN _⟩
          case measure => simp [intOf]; omega
      | false =>
        go_wp2
        go_quiet (fail)
        go_wp2
        go_roundw
        case rel => exact ⟨k + 1, by omega, by go_num, HS.out (by simp), hb, hx.drewN _⟩
        case measure => simp [intOf]; omega
    · exfalso
      obtain ⟨y, hy, h1⟩ := HU.out
      obtain ⟨i, hi⟩ := List.getElem?_of_mem hy
      have := (List.getElem?_eq_some_iff.1 hi).1
      have := hlen.out
      exact hno i (by omega) y hi h1
end Go.Proofs.Ytaibifaeljnchaa
