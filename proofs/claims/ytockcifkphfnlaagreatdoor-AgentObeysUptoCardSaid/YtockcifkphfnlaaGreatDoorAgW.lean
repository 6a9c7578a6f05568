/- The laws' deeds; rows of the laws' own; leased. (printed by wip/gen/agleased.py) -/
import Derived.Test.YtockcifkphfnlaaGreatDoorAgV
import Derived.Maps.AppendAt
namespace Go.Proofs.YtockcifkphfnlaaGreatDoor
set_option linter.unusedVariables false
set_option linter.unusedSimpArgs false
open Go.RowKit

/-- a deed of a law's script, and where its lists lie -/
structure LDeed where
  kind : Int
  n : Int
  code : Int
  val : Int
  failed : Bool
  A : Option Addr
  m : Nat
  c : Nat
  l : List AllocD
  msg : List Value
  md : Ag.MsgD
  MA : Option Addr
  Mm : Nat
  Mc : Nat
  ml : List AllocD
def LDeed.cells (x : LDeed) : List Value := [.int .i64 x.kind, .int .i64 x.n, .bool x.failed, .int .i64 x.code, .int .i64 x.val, .slice x.A x.m x.c] ++ x.msg
structure LDeed.Read (w : World) (x : LDeed) : Prop where
  k : In64 x.kind
  n : In64 x.n
  al : Sl w 11 x.A x.m (x.l.map AllocD.cells)
  am : x.m ≤ 1048577
  aid : ∀ y ∈ x.l, In64 y.id
  len : x.msg.length = 46
  mi : MsgIs x.msg.toArray x.md
  ctx : In64 x.md.ctx
  m45 : x.msg[45]? = some (.slice x.MA x.Mm x.Mc)
  ml : Sl w 11 x.MA x.Mm (x.ml.map AllocD.cells)
  mm : x.Mm ≤ 1048577
  mid : ∀ y ∈ x.ml, In64 y.id
theorem LDeed.Read.e0 {w w' : World} {x : LDeed} (h : x.Read w) (hx : Ext Nothing w w') : x.Read w' := ⟨h.k, h.n, h.al.ext0 hx, h.am, h.aid, h.len, h.mi, h.ctx, h.m45, h.ml.ext0 hx, h.mm, h.mid⟩
theorem LDeed.size {x : LDeed} (h : x.msg.length = 46) : x.cells.toArray.size = 52 := by
  unfold LDeed.cells
  rw [List.size_toArray, List.length_append, h]
  rfl
theorem LDeed.one {w : World} {x : LDeed} (h : x.Read w) : x.cells.toArray.toList.all Value.oneCell' = true := by
  have h1 := h.mi.one
  have h2 : x.cells.toArray.toList = [.int .i64 x.kind, .int .i64 x.n, .bool x.failed, .int .i64 x.code, .int .i64 x.val, .slice x.A x.m x.c] ++ x.msg := rfl
  rw [h2, List.all_append, show x.msg.all Value.oneCell' = true from h1]
  rfl
theorem LDeed.ans {x : LDeed} (h : x.msg.length = 46) : AnsIs x.cells.toArray x.n x.code x.val (.slice x.A x.m x.c) := ⟨LDeed.size h, rfl, rfl, rfl, rfl⟩
theorem LDeed.at_ (x : LDeed) {j : Nat} {u : Value} (h : x.msg.toArray.toList[j]? = some u) : x.cells.toArray[6 + j]? = some u := by
  rw [List.getElem?_toArray]
  unfold LDeed.cells
  rw [List.getElem?_append_right (by simp)]
  simpa using h
theorem sl_lt {w : World} {sz n : Nat} {A : Option Addr} {xs : List (List Value)} (h : Sl w sz A n xs) (hsz : 0 < sz) (hn : xs ≠ []) {q : Nat} (hq : A.map (·.block) = some q) : q < w.heap.size := by
  cases xs with
  | nil => exact absurd rfl hn
  | cons y r =>
    obtain ⟨b, off, rfl, hl, hc⟩ := h.2 0 y rfl
    have e : b = q := by simpa using hq
    subst e
    cases y with
    | nil => simp at hl; omega
    | cons u v => exact World.block_lt_of_cell? w _ (hc 0 u rfl)
section
variable {w0 w w' : World} {a b : Nat} {s : Ag.AgD} {d : Dk.DiskD}
theorem Law.ge (h : Law w0 w a b s d) : w0.heap.size ≤ a := by
  obtain ⟨Ok, mt, hi⟩ := h.is
  have := hi.ge.1
  omega
/-- a list of the law's input does not lie in the machine -/
theorem Law.off (h : Law w0 w a b s d) {sz n : Nat} {A : Option Addr} {l : List AllocD} (hl : Sl w0 sz A n (l.map AllocD.cells)) (hsz : 0 < sz) : ∀ q, A.map (·.block) = some q → l ≠ [] → q ≠ a := fun q hq hn e => by
  have h1 := sl_lt hl hsz (fun e9 => hn (List.map_eq_nil_iff.1 e9)) hq
  have h2 := h.ge
  omega
theorem own_law {base e sz n : Nat} {v : Value} {xs : List Value} (h : w.ownsRow base e sz v n xs) (hx : Ext (LawB w0 w) w w') (h1 : e ≠ 84) (h2 : e ≠ 90) (h3 : e ≠ 103) : w'.ownsRow base e sz v n xs :=
  own_ext h hx (fun g hg hb => by
    obtain ⟨cs, hg'⟩ := own_blk h hg
    exact AgB.ty hg' h1 h2 h3 hb)
end
section
variable {P : Program} {w : World} {ops : Array Oper} {rest : List Oper} {o : Oper} {a : Act} {Q : Exit → Act → World → Prop}
/-- one element is appended to an own row; the row's block is the old one or a new one -/
theorem wpList_app1a (hgd : o.guard = none) (s x : Operand) (t : TypeId) (ho : o.op = .call { callee := .builtin .append, args := #[s, x], argTypes := #[t, t] })
    (base : Nat) {e sz : Nat} (E : SliceT P t e sz) (v : Value) (k : Nat) (xs : List Value) (hs : a.eval s = v) (hown : w.ownsRow base e sz v k xs)
    (g c : Nat) (cs : Array Value) (hx : a.eval x = .slice (some ⟨g, 0, none⟩) 1 c) (hg : Blk w g e cs) (hcs : cs.size = sz) (h1 : cs.toList.all Value.oneCell' = true)
    (hn : k < 67108864) (hbase : base ≤ w.heap.size)
    (h : ∀ A' c' w', w'.ownsRow base e sz (.slice A' (k + 1) c') (k + 1) (xs ++ cs.toList) → w.grownBy w' v.ownBlock → ((Value.slice A' (k + 1) c').ownBlock = v.ownBlock ∨ (Value.slice A' (k + 1) c').ownBlock = some w.heap.size) → wpList P ops Q rest (a.put o.dst (.slice A' (k + 1) c')) w') : wpList P ops Q (o :: rest) a w := by
  obtain ⟨ht, i, z, hi, hz, hzs, hsz, h0, hle, hby⟩ := E
  refine wpList_append_own_at w hgd s x t ho base e i z sz i.bytes ht hi hz hsz rfl hzs h0 v k xs hs hown ⟨g, 0, none⟩ 1 c cs.toList hx (by simpa using hcs) (fun j u hu => ?_) (fun u hu => ?_) (by unfold maxLen; omega) ?_ hbase (fun v' w' r1 r2 _ r4 => by obtain ⟨A', c', rfl⟩ := own_slice r1; exact h A' c' w' r1 r2 r4)
  · have hadd : (⟨g, 0, none⟩ : Addr).add j = ⟨g, j, none⟩ := by unfold Addr.add; split <;> simp_all
    rw [hadd, hg.cell]; simpa using hu
  · exact List.all_eq_true.1 h1 u hu
  · have := Nat.mul_le_mul (show k + 1 ≤ 67108864 by omega) hby
    omega
end
/-- a beat that was sent: the message's cells, its number, its tick -/
abbrev SentC := Array Value × Int × Int
structure SentC.Ok (p : SentC) : Prop where
  size : p.1.size = 46
  ctx : p.1[8]? = some (.int .i64 p.2.1)
  t0 : 0 ≤ p.2.2
  t1 : p.2.2 < 1099511627777
theorem leased_snoc (sent : List (Int × Int)) (md : Ag.MsgD) (ep ls : Int) (t : Nat) (p : Int × Int) (h : sent[t]? = some p) : Ag.leased (sent.take (t + 1)) md ep ls = Ag.leased1 md ep (Ag.leased (sent.take t) md ep ls) p := by
  unfold Ag.leased
  rw [List.take_add_one, h, List.foldl_append]
  rfl
theorem leased_lt (md : Ag.MsgD) (ep : Int) : ∀ (sent : List (Int × Int)) (ls : Int), ls < 2199023255552 → (∀ p ∈ sent, p.2 < 1099511627777) → Ag.leased sent md ep ls < 2199023255552
  | [], ls, h, _ => h
  | p :: r, ls, h, hp => by
    refine leased_lt md ep r (Ag.leased1 md ep ls p) ?_ (fun q hq => hp q (List.mem_cons_of_mem _ hq))
    have := hp p (List.mem_cons_self ..)
    unfold Ag.leased1
    split <;> omega
set_option maxRecDepth 20000 in
set_option maxHeartbeats 16000000 in
theorem lawLeased (SA TA : Option Addr) (n c1 c2 : Nat) (L : List SentC) (cs : Array Value) (md : Ag.MsgD) (ep ls : Int) (w : World) (hs : Sl w 46 SA n (L.map fun p => p.1.toList)) (ha : Sl w 1 TA n (L.map fun p => [Value.int .i64 p.2.2])) (hL : ∀ p ∈ L, SentC.Ok p) (hm : MsgIs cs md) (hn : n ≤ 67108863) (hl0 : 0 ≤ ls) (hl1 : ls < 2199023255552) :
    Calls Tryz.prog 13 #[.slice SA n c1, .slice TA n c2, .agg cs, .int .i64 ep, .int .i64 ls] w fun e w' => e = .returned (.int .i64 (Ag.leased (L.map (·.2)) md ep ls)) ∧ Ext Nothing w w' := by
  have hcz := hm.size
  have hnL : n = L.length := by have := hs.len; simpa using this
  go_enter Tryz.func13, Tryz.ntmps13
  go_upto_region 2 with (first | go_skip | go_guarded)
  have hx0 : Ext Nothing w (w.alloc (.cells cs 51)) := Ext.auto
  have hMB := Blk.new w 51 cs
  generalize w.heap.size = M at hMB ⊢
  generalize (w.alloc (.cells cs 51)) = w1 at hx0 hMB ⊢
  have HNL := Lib.hid hnL
  clear hnL
  go_loopw [4, 11] (fun lv ki wr => ∃ t : Nat, t ≤ n ∧ ki = .int .i64 t ∧ lv = .int .i64 (Ag.leased ((L.map (·.2)).take t) md ep ls) ∧ Ext Nothing w1 wr) (fun _ ki _ => n - (intOf ki).toNat)
  case atStart => exact ⟨0, Nat.zero_le _, rfl, rfl, Ext.refl _ _⟩
  case round =>
    obtain ⟨t, ht, rfl, rfl, hxr⟩ := hrel
    have hxw := hx0.tr hxr
    by_cases hlt : t < n
    · obtain ⟨hj1, q1, o1, hA1, hc1⟩ := hs.get (f := fun p : SentC => p.1.toList) hxw hlt
      obtain ⟨hj2, q2, o2, hA2, hc2⟩ := ha.get (f := fun p : SentC => [Value.int .i64 p.2.2]) hxw hlt
      have hok := hL _ (List.getElem_mem hj1)
      have hsn := leased_snoc (L.map (·.2)) md ep ls t (L[t].2) (by rw [List.getElem?_map, List.getElem?_eq_getElem hj1]; rfl)
      have hlz := leased_lt md ep ((L.map (·.2)).take t) ls hl1 (fun p hp => by obtain ⟨q, hq, rfl⟩ := List.mem_map.1 (List.mem_of_mem_take hp); exact (hL q hq).t1)
      have hlz0 := Ag.leased_le md ep ((L.map (·.2)).take t) ls
      generalize hlzq : Ag.leased ((L.map (·.2)).take t) md ep ls = lz at hsn hlz hlz0 ⊢
      clear hlzq
      generalize L[t] = p at hc1 hc2 hok hsn
      obtain ⟨pc, x, tk⟩ := p
      obtain ⟨k1, k2, k3, k4⟩ := hok
      dsimp only at k1 k2 k3 k4 hc1 hc2 hsn
      have s8 : wr.cell? ⟨q1, o1 + t * 46 + 8, none⟩ = some (.int .i64 x) := hc1 8 _ (by rw [Array.getElem?_toList]; exact k2)
      have a0 : wr.cell? ⟨q2, o2 + t, none⟩ = some (.int .i64 tk) := by have h9 := hc2 0 _ rfl; simpa using h9
      have HSN := Lib.hid hsn
      have HT := Lib.hid hlt
      have hk0 : (0 : Int) ≤ (t : Int) := by omega
      have hk1 : (t : Int) < n := by omega
      have q8 : IntKind.i64.wrap (tk + 8) = tk + 8 := by rw [IntKind.wrap_i64]; omega
      have hMr := hMB.e0 hxr
      have m0 : wr.cell? ⟨M, 0, none⟩ = some (.int .i64 md.kind) := (hMr.cell 0).trans hm.kind
      have m2 : wr.cell? ⟨M, 2, none⟩ = some (.int .i64 md.dest) := (hMr.cell 2).trans hm.dest
      have m8 : wr.cell? ⟨M, 8, none⟩ = some (.int .i64 md.ctx) := (hMr.cell 8).trans hm.ctx
      have m16 : wr.cell? ⟨M, 16, none⟩ = some (.int .i64 md.op) := (hMr.cell 16).trans hm.op
      have m32 : wr.cell? ⟨M, 32, none⟩ = some (.int .i64 md.epoch) := (hMr.cell 32).trans hm.epoch
      have m43 : wr.cell? ⟨M, 43, none⟩ = some (.int .i64 md.code) := (hMr.cell 43).trans hm.code
      subst hA1 hA2
      clear hsn hlt hMr hc1 hc2 k1 k2
      go_upto_region 4 with (first | go_skip | go_guarded)
      go_cut [64] from 18 to 64 (fun e wx => e = .bool (Ag.okBeat md ep x && decide (lz < tk + 8)) ∧ Ext Nothing wr wx)
      case first =>
        cases e1 : (md.kind == 10) with
        | false =>
          have HOK := Lib.hid (show (Ag.okBeat md ep x && decide (lz < tk + 8)) = false by unfold Ag.okBeat; rw [e1]; simp)
          go_quiet (fail)
          have hdq := (Ext.refl Nothing wr).drewN nq
          generalize wr.drewN nq = w6 at hdq ⊢
          go_wp2_with (first | go_skip | go_guarded)
          go_meet
          exact ⟨by rw [HOK.out], hdq⟩
        | true =>
          cases e2 : (md.dest == 102) with
          | false =>
            have HOK := Lib.hid (show (Ag.okBeat md ep x && decide (lz < tk + 8)) = false by unfold Ag.okBeat; rw [e2]; simp)
            go_quiet (fail)
            have hdq := (Ext.refl Nothing wr).drewN nq
            generalize wr.drewN nq = w6 at hdq ⊢
            go_wp2_with (first | go_skip | go_guarded)
            go_meet
            exact ⟨by rw [HOK.out], hdq⟩
          | true =>
            cases e3 : (md.code == 0) with
            | false =>
              have HOK := Lib.hid (show (Ag.okBeat md ep x && decide (lz < tk + 8)) = false by unfold Ag.okBeat; rw [e3]; simp)
              go_quiet (fail)
              have hdq := (Ext.refl Nothing wr).drewN nq
              generalize wr.drewN nq = w6 at hdq ⊢
              go_wp2_with (first | go_skip | go_guarded)
              go_meet
              exact ⟨by rw [HOK.out], hdq⟩
            | true =>
              cases e4 : (md.ctx == x) with
              | false =>
                have HOK := Lib.hid (show (Ag.okBeat md ep x && decide (lz < tk + 8)) = false by unfold Ag.okBeat; rw [e4]; simp)
                go_quiet (fail)
                have hdq := (Ext.refl Nothing wr).drewN nq
                generalize wr.drewN nq = w6 at hdq ⊢
                go_wp2_with (first | go_skip | go_guarded)
                go_meet
                exact ⟨by rw [HOK.out], hdq⟩
              | true =>
                cases e5 : (md.op == 6) with
                | false =>
                  have HOK := Lib.hid (show (Ag.okBeat md ep x && decide (lz < tk + 8)) = false by unfold Ag.okBeat; rw [e5]; simp)
                  go_quiet (fail)
                  have hdq := (Ext.refl Nothing wr).drewN nq
                  generalize wr.drewN nq = w6 at hdq ⊢
                  go_wp2_with (first | go_skip | go_guarded)
                  go_meet
                  exact ⟨by rw [HOK.out], hdq⟩
                | true =>
                  cases e6 : (md.epoch == ep) with
                  | false =>
                    have HOK := Lib.hid (show (Ag.okBeat md ep x && decide (lz < tk + 8)) = false by unfold Ag.okBeat; rw [e6]; simp)
                    go_quiet (fail)
                    have hdq := (Ext.refl Nothing wr).drewN nq
                    generalize wr.drewN nq = w6 at hdq ⊢
                    go_wp2_with (first | go_skip | go_guarded)
                    go_meet
                    exact ⟨by rw [HOK.out], hdq⟩
                  | true =>
                    cases e7 : decide (lz < tk + 8) with
                    | false =>
                      have HOK := Lib.hid (show (Ag.okBeat md ep x && decide (lz < tk + 8)) = false by rw [e7, Bool.and_false])
                      go_quiet (fail)
                      have hdq := (Ext.refl Nothing wr).drewN nq
                      generalize wr.drewN nq = w6 at hdq ⊢
                      go_wp2_with (first | go_skip | go_guarded)
                      go_meet
                      exact ⟨by rw [HOK.out], hdq⟩
                    | true =>
                      have HOK := Lib.hid (show (Ag.okBeat md ep x && decide (lz < tk + 8)) = true by unfold Ag.okBeat; rw [e1, e2, e3, e4, e5, e6, e7]; rfl)
                      go_quiet (fail)
                      have hdq := (Ext.refl Nothing wr).drewN nq
                      generalize wr.drewN nq = w6 at hdq ⊢
                      go_wp2_with (first | go_skip | go_guarded)
                      go_meet
                      exact ⟨by rw [HOK.out], hdq⟩
      case rest =>
        obtain ⟨rfl, hxc⟩ := hcut
        have a1 := hxc.cell a0 (fun e => e)
        have hxf := hxr.tr hxc
        cases hb : (Ag.okBeat md ep x && decide (lz < tk + 8)) with
        | false =>
          have HW := Lib.hid (show Ag.leased ((L.map (·.2)).take (t + 1)) md ep ls = lz by
            rw [HSN.out]
            unfold Ag.leased1
            rw [if_neg (fun e => by rw [e.1, decide_eq_true e.2] at hb; cases hb)])
          go_wp2_with (first | go_skip | go_guarded)
          go_roundw
          case rel => exact ⟨t + 1, HT.out, by go_num, by rw [HW.out], hxf⟩
          case measure => have := HT.out; simp [intOf]; omega
        | true =>
          have HW := Lib.hid (show Ag.leased ((L.map (·.2)).take (t + 1)) md ep ls = tk + 8 by
            rw [Bool.and_eq_true] at hb
            rw [HSN.out]
            unfold Ag.leased1
            rw [if_pos ⟨hb.1, of_decide_eq_true hb.2⟩])
          go_wp2_with (first | go_skip | go_guarded)
          go_roundw
          case rel => exact ⟨t + 1, HT.out, by go_num, by rw [HW.out], hxf⟩
          case measure => have := HT.out; simp [intOf]; omega
    · have hnl : ¬ ((t : Int) < n) := by omega
      have HE := Lib.hid (show (L.map (·.2)).take t = L.map (·.2) from List.take_of_length_le (by rw [List.length_map]; have := HNL.out; omega))
      go_wp2_with (first | go_skip | go_guarded)
      go_ret
      rw [HE.out]
      exact ⟨rfl, hxw⟩
end Go.Proofs.YtockcifkphfnlaaGreatDoor
