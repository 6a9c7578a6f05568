/- Life: a Tick. -/
import Derived.Test.YtaibifaeljnchaaLifeA2
import Derived.Deep.LoopGhost
namespace Go.Proofs.Ytaibifaeljnchaa
set_option linter.unusedVariables false
open Go.RowKit
open Go.Maps (Keyed)

structure NodeD where
  id : Int
  cpu : Int
  mem : Int
  up : Bool
  drain : Bool
  boot : Int
  ep : Int
  sq : Int
def NodeD.cells (x : NodeD) : List Value := [.int .i64 x.id, .int .i64 x.cpu, .int .i64 x.mem, .bool x.up, .bool x.drain, .int .i64 x.boot, .int .i64 x.ep, .int .i64 x.sq]
def NodeD.ok (x : NodeD) : Prop := InR x.id ∧ InR x.ep ∧ InR x.sq
structure DeployD where
  job : Int
  ver : Int
  st : Int
  ix : Int
def DeployD.cells (x : DeployD) : List Value := [.int .i64 x.job, .int .i64 x.ver, .int .i64 x.st, .int .i64 x.ix]
def DeployD.ok (x : DeployD) : Prop := InR x.job ∧ InR x.ver ∧ InR x.ix
structure Ask where
  op : Int
  jid : Int
  jver : Int
  nid : Int
  nep : Int
  nsq : Int
def Ask.cells (x : Ask) : List Value := [.int .i64 x.op, .int .i64 0, .int .i64 0, .int .i64 x.jid, .int .i64 0, .int .i64 0, .int .i64 0, .slice none 0 0, .int .i64 x.jver, .bool false, .int .i64 x.nid, .int .i64 0, .int .i64 0, .bool false, .bool false, .int .i64 0, .int .i64 x.nep, .int .i64 x.nsq, .slice none 0 0, .int .i64 0, .int .i64 0, .int .i64 0, .slice none 0 0, .slice none 0 0, .bool false, .slice none 0 0, .slice none 0 0]

abbrev St := List (Key × Int) × List Ask
def stepN (L : List (Key × Int)) (s : St) (x : NodeD) : St :=
  if x.up then ((goesF L s.1 (false, x.id, x.ep, x.sq) 20).1, s.2 ++ if (goesF L s.1 (false, x.id, x.ep, x.sq) 20).2 then [⟨7, 0, 0, x.id, x.ep, x.sq⟩] else []) else s
def stepD (L : List (Key × Int)) (s : St) (x : DeployD) : St :=
  if x.st = 1 then ((goesF L s.1 (true, x.job, x.ver, x.ix) 40).1, s.2 ++ if (goesF L s.1 (true, x.job, x.ver, x.ix) 40).2 then [⟨10, x.job, x.ver, 0, 0, 0⟩] else []) else s
def tickF (L : List (Key × Int)) (ns : List NodeD) (ds : List DeployD) : St := ds.foldl (stepD L) (ns.foldl (stepN L) ([], []))

theorem stepN_len (L : List (Key × Int)) (s : St) (x : NodeD) : (stepN L s x).2.length ≤ s.2.length + 1 := by
  unfold stepN; split
  · simp only [List.length_append]; split <;> simp
  · omega
theorem stepD_len (L : List (Key × Int)) (s : St) (x : DeployD) : (stepD L s x).2.length ≤ s.2.length + 1 := by
  unfold stepD; split
  · simp only [List.length_append]; split <;> simp
  · omega
theorem foldl_len {α : Type} {f : St → α → St} (hf : ∀ s x, (f s x).2.length ≤ s.2.length + 1) : ∀ (l : List α) (s : St), (l.foldl f s).2.length ≤ s.2.length + l.length
  | [], s => by simp
  | x :: r, s => by
    have h1 := foldl_len hf r (f s x)
    have h2 := hf s x
    simp only [List.foldl_cons, List.length_cons]; omega
/-- the call's own memory -/
structure TInv (w wr : World) (bl : Nat) (sc : Array Value) (s : St) : Prop where
  ext : Ext Nothing w wr
  lb : Blk wr w.heap.size 23 #[.pointer (some ⟨bl, 0, none⟩)]
  sb : Blk wr (w.heap.size + 1) 35 sc
  cl : Clocks wr (w.heap.size + 1 + 1) s.1
  bn : Blk wr (w.heap.size + 1 + 1 + 1) 63 #[.map (some (w.heap.size + 1 + 1))]
  bo : ∃ v, Blk wr (w.heap.size + 1 + 1 + 1 + 1) 37 #[v] ∧ wr.ownsRow (w.heap.size + 5) 49 27 v s.2.length (s.2.flatMap Ask.cells)
  ok : LOk s.1
  len : w.heap.size + 5 ≤ wr.heap.size
theorem TInv.alloc {w wr : World} {bl : Nat} {sc : Array Value} {s : St} (h : TInv w wr bl sc s) (o : Obj) : TInv w (wr.alloc o) bl sc s := by
  have he : Ext Nothing wr (wr.alloc o) := (Ext.refl _ _).alloc _
  obtain ⟨h1, h2, h3, h4, h5, ⟨v, h6, h7⟩, h8, h9⟩ := h
  exact ⟨h1.alloc _, h2.ext he (fun e => e), h3.ext he (fun e => e), h4.ext he (fun e => e), h5.ext he (fun e => e), ⟨v, h6.ext he (fun e => e), own_ext h7 he (fun _ _ e => e)⟩, h8, by simp; omega⟩
theorem TInv.start (w : World) (bl : Nat) (sc : Array Value) : TInv w (((((w.alloc (.cells #[.pointer (some ⟨bl, 0, none⟩)] 23)).alloc (.cells sc 35)).alloc (.map #[] 0)).alloc (.cells #[.map (some (w.heap.size + 1 + 1))] 63)).alloc (.cells #[.slice none 0 0] 37)) bl sc ([], []) := by
  have he : ∀ (w : World) o, Ext Nothing w (w.alloc o) := fun w o => (Ext.refl _ _).alloc _
  have k : ∀ {t : Nat} {cs : Array Value} {g : Nat} {w : World} {o : Obj}, Blk w g t cs → Blk (w.alloc o) g t cs := fun h => h.ext (he _ _) (fun e => e)
  refine ⟨((((he _ _).alloc _).alloc _).alloc _).alloc _, k (k (k (k (Blk.new' _ _ _ rfl)))), k (k (k (Blk.new' _ _ _ (by simp)))), ?_, k (Blk.new' _ _ _ (by simp)), ⟨.slice none 0 0, Blk.new' _ _ _ (by simp), World.ownsRow_nil _ _ _ _⟩, fun p hp => by simp at hp, by simp⟩
  have h := MapIs.new (P := Try.prog) (K := 67) (eK := encK) (eV := encN) ((w.alloc (.cells #[.pointer (some ⟨bl, 0, none⟩)] 23)).alloc (.cells sc 35))
  simp only [World.size_alloc] at h
  exact (h.ext (he _ _) (fun e => e)).ext (he _ _) (fun e => e)
/-- what the closure leaves is the call's own memory again -/
theorem TInv.step {w wr w' : World} {bl : Nat} {sc : Array Value} {s : St} (h : TInv w wr bl sc s) {v v' : Value} (hv : Blk wr (w.heap.size + 1 + 1 + 1 + 1) 37 #[v]) (ho : wr.ownsRow (w.heap.size + 5) 49 27 v s.2.length (s.2.flatMap Ask.cells))
    (hx : Ext (fun b => b = w.heap.size + 1 + 1 ∨ b = w.heap.size + 1 + 1 + 1 + 1 ∨ v.ownBlock = some b) wr w') {N : List (Key × Int)} (hc : Clocks w' (w.heap.size + 1 + 1) N) (hok : LOk N) (q : Ask) (b : Bool)
    (hv' : Blk w' (w.heap.size + 1 + 1 + 1 + 1) 37 #[v']) (ho' : w'.ownsRow (w.heap.size + 5) 49 27 v' (s.2.length + if b then 1 else 0) (s.2.flatMap Ask.cells ++ if b then q.cells.toArray.toList else [])) :
    TInv w w' bl sc (N, s.2 ++ if b then [q] else []) := by
  have hg : ∀ g, v.ownBlock = some g → w.heap.size + 5 ≤ g := fun g e => own_ge ho e
  have hS : ∀ g, g < w.heap.size + 5 → g ≠ w.heap.size + 1 + 1 → g ≠ w.heap.size + 1 + 1 + 1 + 1 → ¬ (g = w.heap.size + 1 + 1 ∨ g = w.heap.size + 1 + 1 + 1 + 1 ∨ v.ownBlock = some g) := by
    rintro g h1 h2 h3 (h4 | h4 | h4)
    · exact h2 h4
    · exact h3 h4
    · have := hg g h4; omega
  refine ⟨h.ext.trans hx (fun g hl e => ?_), h.lb.ext hx (hS _ (by omega) (by omega) (by omega)), h.sb.ext hx (hS _ (by omega) (by omega) (by omega)), hc, h.bn.ext hx (hS _ (by omega) (by omega) (by omega)), ⟨v', hv', ?_⟩, hok, Nat.le_trans h.len hx.size⟩
  · rcases e with e | e | e
    · omega
    · omega
    · have := hg g e; omega
  · cases b <;> simpa using ho'

theorem ST28 : StructT Try.prog 28 8 := .of (by kernel_rfl)
theorem ST71 : StructT Try.prog 71 4 := .of (by kernel_rfl)
theorem ST35 : StructT Try.prog 35 9 := .of (by kernel_rfl)

set_option maxHeartbeats 1000000 in
theorem tick_any (w : World) (bl m : Nat) (L : List (Key × Int)) (hLo : LOk L) (hbl : Blk w bl 65 #[.map (some m)]) (hL : Clocks w m L)
    (A1 A2 : Option Addr) (n1 n2 c1 c2 : Nat) (ns : List NodeD) (ds : List DeployD) (hn : Sl w 8 A1 n1 (ns.map NodeD.cells)) (hd : Sl w 4 A2 n2 (ds.map DeployD.cells)) (hnok : ∀ x ∈ ns, x.ok) (hdok : ∀ x ∈ ds, x.ok)
    (hl1 : n1 ≤ 1048576) (hl2 : n2 ≤ 1048576) (s0 s1 s2 s3 s5 s6 s8 : Value) :
    Calls Try.prog 8 #[.pointer (some ⟨bl, 0, none⟩), .agg #[s0, s1, s2, s3, .slice A1 n1 c1, s5, s6, .slice A2 n2 c2, s8]] w fun e w' =>
      ∃ A c, e = .returned (.slice A (tickF L ns ds).2.length c) ∧ Ext (fun b => b = bl) w w' ∧ (∃ m', w.heap.size ≤ m' ∧ Blk w' bl 65 #[.map (some m')] ∧ Clocks w' m' (tickF L ns ds).1) ∧
        w'.ownsRow (w.heap.size + 5) 49 27 (.slice A (tickF L ns ds).2.length c) (tickF L ns ds).2.length ((tickF L ns ds).2.flatMap Ask.cells) ∧ LOk (tickF L ns ds).1 := by
  have hmm := @run_makeMap Try.prog
  have hmf : ∀ (fn : Fn) (first cap : Array Value) (w : World), (Instr.makeFunc fn first cap).run Try.prog w = .ok (.func fn first cap) w := fun _ _ _ _ => rfl
  go_enter Try.func8, Try.ntmps8
  go_wp2
  have hst := TInv.start w bl #[s0, s1, s2, s3, .slice A1 n1 c1, s5, s6, .slice A2 n2 c2, s8]
  go_loopw [17] (fun i wr => ∃ k : Nat, k ≤ n1 ∧ i = .int .i64 k ∧ TInv w wr bl #[s0, s1, s2, s3, .slice A1 n1 c1, s5, s6, .slice A2 n2 c2, s8] ((ns.take k).foldl (stepN L) ([], [])))
    (fun i _ => n1 - (intOf i).toNat)
  case atStart => exact ⟨0, Nat.zero_le _, rfl, hst⟩
  case round =>
    clear hst
    obtain ⟨k, hk, rfl, hinv⟩ := hrel
    by_cases hlt : k < n1
    · obtain ⟨hkn, b, off, rfl, hce⟩ := hn.get hinv.ext hlt
      have hstep := foldl_take (stepN L) ([], []) ns k hkn
      have hlen := foldl_len (stepN_len L) (ns.take k) ([], [])
      rw [List.length_take] at hlen
      simp only [List.length_nil] at hlen
      generalize (ns.take k).foldl (stepN L) ([], []) = st at hinv hstep hlen
      have hxok := hnok _ (List.getElem_mem hkn)
      generalize ns[k] = x at hce hstep hxok
      have hS := Lib.hid hstep
      clear hstep
      have hi2 := hinv.alloc (.cells #[.int .i64 x.id, .int .i64 x.cpu, .int .i64 x.mem, .bool x.up, .bool x.drain, .int .i64 x.boot, .int .i64 x.ep, .int .i64 x.sq] 28)
      obtain ⟨v, hv, ho⟩ := hi2.bo
      go_wp2_with (first | (refine wpList_load_at rfl 28 _ rfl ST28 b (off + k * 8) rfl #[.int .i64 x.id, .int .i64 x.cpu, .int .i64 x.mem, .bool x.up, .bool x.drain, .int .i64 x.boot, .int .i64 x.ep, .int .i64 x.sq] (by exact hce) rfl ?_) | (at_builtin; fail))
      · have hup : x.up = true := by assumption
        rw [hup] at hi2 hv ho
        refine (tick1_any (false, x.id, x.ep, x.sq) hxok 20 (by decide) (by decide) (w.heap.size + 1 + 1 + 1) (w.heap.size + 1 + 1) w.heap.size bl m (w.heap.size + 1 + 1 + 1 + 1) _ _ L st.1 v hLo hi2.cl hi2.bn hi2.lb (hbl.ext hi2.ext (fun e => e)) (hL.ext hi2.ext (fun e => e)) hv rfl rfl (w.heap.size + 5) st.2.length (st.2.flatMap Ask.cells) ho hi2.len ?hn).mono ?_
        case hn => omega
        rintro e w' ⟨rfl, hx, hcl, v', hv', ho'⟩
        go_wp2
        go_roundw
        case rel => 
          refine ⟨k + 1, by omega, by go_num, ?_⟩
          rw [hS.out, stepN, if_pos hup]
          exact hi2.step hv ho hx hcl (goesF_ok hLo hi2.ok _ (by decide) (by decide)) ⟨7, 0, 0, x.id, x.ep, x.sq⟩ _ hv' ho'
        case measure => simp [intOf]; omega
      · have hup : x.up = false := by assumption
        rw [hup] at hi2
        go_roundw
        case rel => 
          refine ⟨k + 1, by omega, by go_num, ?_⟩
          rw [hS.out, stepN, if_neg (by rw [hup]; decide)]
          exact hi2
        case measure => simp [intOf]; omega
    · have hk1 : ns.length ≤ k := by rw [← hn.len]; omega
      rw [foldl_all _ _ _ _ hk1] at hinv
      have hlen0 := foldl_len (stepN_len L) ns ([], [])
      rw [← hn.len] at hlen0
      simp only [List.length_nil] at hlen0
      have qs : wr.cell? ⟨w.heap.size + 1, 7, none⟩ = some (.slice A2 n2 c2) := hinv.sb.cell 7
      have hF : Hid (tickF L ns ds = ds.foldl (stepD L) (ns.foldl (stepN L) ([], []))) := rfl
      generalize ns.foldl (stepN L) ([], []) = st0 at hinv hF hlen0
      go_wp2
      go_loopw [44] (fun i wr => ∃ k : Nat, k ≤ n2 ∧ i = .int .i64 k ∧ TInv w wr bl #[s0, s1, s2, s3, .slice A1 n1 c1, s5, s6, .slice A2 n2 c2, s8] ((ds.take k).foldl (stepD L) st0))
        (fun i _ => n2 - (intOf i).toNat)
      case atStart => exact ⟨0, Nat.zero_le _, rfl, hinv⟩
      case round =>
        clear hinv qs hk1 hlt
        rename_i wr1 _ _
        obtain ⟨k, hk, rfl, hinv⟩ := hrel
        by_cases hlt : k < n2
        · obtain ⟨hkn, b, off, rfl, hce⟩ := hd.get hinv.ext hlt
          have hstep := foldl_take (stepD L) st0 ds k hkn
          have hlen := foldl_len (stepD_len L) (ds.take k) st0
          rw [List.length_take] at hlen
          generalize (ds.take k).foldl (stepD L) st0 = st at hinv hstep hlen
          have hxok := hdok _ (List.getElem_mem hkn)
          generalize ds[k] = x at hce hstep hxok
          have hS := Lib.hid hstep
          clear hstep
          have hi2 := hinv.alloc (.cells #[.int .i64 x.job, .int .i64 x.ver, .int .i64 x.st, .int .i64 x.ix] 71)
          obtain ⟨v, hv, ho⟩ := hi2.bo
          go_wp2_with (first | (refine wpList_load_at rfl 71 _ rfl ST71 b (off + k * 4) rfl #[.int .i64 x.job, .int .i64 x.ver, .int .i64 x.st, .int .i64 x.ix] (by exact hce) rfl ?_) | (at_builtin; fail))
          · have hup : x.st = 1 := by have h : (x.st == 1) = true := by assumption
                                      simpa using h
            refine (tick1_any (true, x.job, x.ver, x.ix) hxok 40 (by decide) (by decide) (w.heap.size + 1 + 1 + 1) (w.heap.size + 1 + 1) w.heap.size bl m (w.heap.size + 1 + 1 + 1 + 1) _ _ L st.1 v hLo hi2.cl hi2.bn hi2.lb (hbl.ext hi2.ext (fun e => e)) (hL.ext hi2.ext (fun e => e)) hv rfl rfl (w.heap.size + 5) st.2.length (st.2.flatMap Ask.cells) ho hi2.len ?hn).mono ?_
            case hn => omega
            rintro e w' ⟨rfl, hx, hcl, v', hv', ho'⟩
            go_wp2
            go_roundw
            case rel => 
              refine ⟨k + 1, by omega, by go_num, ?_⟩
              rw [hS.out, stepD, if_pos hup]
              exact hi2.step hv ho hx hcl (goesF_ok hLo hi2.ok _ (by decide) (by decide)) ⟨10, x.job, x.ver, 0, 0, 0⟩ _ hv' ho'
            case measure => simp [intOf]; omega
          · have hup : ¬ x.st = 1 := by have h : (x.st == 1) = false := by assumption
                                        simpa using h
            go_roundw
            case rel => 
              refine ⟨k + 1, by omega, by go_num, ?_⟩
              rw [hS.out, stepD, if_neg hup]
              exact hi2
            case measure => simp [intOf]; omega
        · have hk1 : ds.length ≤ k := by rw [← hd.len]; omega
          rw [foldl_all _ _ _ _ hk1] at hinv
          obtain ⟨v, hv, ho⟩ := hinv.bo
          have q1 : wr.cell? ⟨w.heap.size, 0, none⟩ = some (.pointer (some ⟨bl, 0, none⟩)) := hinv.lb.cell 0
          have q2 : wr.cell? ⟨w.heap.size + 1 + 1 + 1, 0, none⟩ = some (.map (some (w.heap.size + 1 + 1))) := hinv.bn.cell 0
          have q3 : wr.cell? ⟨w.heap.size + 1 + 1 + 1 + 1, 0, none⟩ = some v := hv.cell 0
          have hb2 := hbl.ext hinv.ext (fun e => e)
          have q4 : wr.cell? ⟨bl, 0, none⟩ = some (.map (some m)) := hb2.cell 0
          have q5 : wr.frozen? ⟨bl, 0, none⟩ = false := hb2.frozen 0
          have n1 : w.heap.size + 1 + 1 + 1 + 1 ≠ bl := by have := hbl.lt; omega
          obtain ⟨A, cp, rfl⟩ := own_slice ho
          go_wp2
          go_ret
          have hx3 : Ext (fun b => b = bl) wr (wr.setCell ⟨bl, 0, none⟩ (.map (some (w.heap.size + 1 + 1)))) := Ext.set1 _ _ _ _
          have m1 := hbl.lt
          rw [hF.out]
          refine ⟨A, cp, rfl, (hinv.ext.mono (fun _ _ e => e.elim)).trans hx3 (fun _ _ e => e), ⟨w.heap.size + 1 + 1, by omega, hb2.set_ 0 _, hinv.cl.ext hx3 (by omega)⟩, ?_, hinv.ok⟩
          exact own_ext ho hx3 (fun g e h => by have := own_ge ho e; omega)
end Go.Proofs.Ytaibifaeljnchaa
