/- A new server, a call that is answered with an error, a read: run once by the evaluator, for all callers. -/
import Derived.Test.YtjcjiokneibfdaaGreatDoorEi
import Derived.Test.YtjcjiokneibfdaaGreatDoorUa
namespace Go.Proofs.YtjcjiokneibfdaaGreatDoor
set_option linter.unusedSimpArgs false
set_option linter.unusedVariables false
noncomputable abbrev cE : FuncId → List Value → Hp → Option (Value × Hp) := callE evExt (fnsM evMask) evHook 100
def zCmd : List Value := [.int .i64 0, .int .i64 0, .int .i64 0, .int .i64 0, .int .i64 0, .int .i64 0, .int .i64 0, .slice none 0 0, .int .i64 0, .bool false,
  .int .i64 0, .int .i64 0, .int .i64 0, .bool false, .bool false, .int .i64 0, .int .i64 0, .int .i64 0, .slice none 0 0, .int .i64 0, .int .i64 0, .int .i64 0, .slice none 0 0, .slice none 0 0, .bool false, .slice none 0 0, .slice none 0 0]
def whoL (a b : Value) : List Value := .int .i64 0 :: .int .i64 0 :: a :: b :: zCmd
def resL (c : Value) : List Value := [c, .int .i64 0, .slice none 0 0]
def sPtr (id : Nat) : Value := .pointer (some ⟨id, 0, none⟩)
def isNew (v : Value) : Option Nat := match v with | .tuple ⟨[.pointer (some ⟨id, 0, none⟩), .int .i64 (.ofNat 0)]⟩ => some id | _ => none
def isOut (v : Value) : Option (Nat × Nat) := match v with | .agg ⟨[.slice none 0 0, .slice (some ⟨id, 0, none⟩) 1 c, .slice none 0 0]⟩ => some (id, c) | _ => none
def isSt (v : Value) : Bool := match v with | .agg ⟨[.int .i64 (.ofNat 0), .int .i64 (.ofNat 0), a, b, c, d, e, f, g]⟩ => one1 a && one1 b && one1 c && one1 d && one1 e && one1 f && one1 g | _ => false
def isStore (v : Value) : Bool := match v with | .agg ⟨[.int .i64 (.ofNat 0), _, _, _, _, _, _, _, _]⟩ => true | _ => false
def isN (o : Option Value) : Bool := match o with | some (.slice none 0 0) => true | _ => false
def isI (o : Option Value) (n : Nat) : Bool := match o with | some (.int .i64 (.ofNat m)) => Nat.beq m n | _ => false
def isF (o : Option Value) : Bool := match o with | some (.bool false) => true | _ => false
def isU (o : Option Value) (n : Nat) : Bool := match o with | some (.func (.yield m) ⟨[]⟩ ⟨[]⟩) => Nat.beq m n | _ => false
theorem isI_ok {o : Option Value} {n : Nat} (h : isI o n = true) : o = some (.int .i64 n) := by
  unfold isI at h
  split at h
  · rename_i m; rw [Nat.eq_of_beq_eq_true h]; rfl
  · cases h
theorem isF_ok {o : Option Value} (h : isF o = true) : o = some (.bool false) := by
  unfold isF at h
  split at h
  · rfl
  · cases h
theorem isN_ok {o : Option Value} (h : isN o = true) : o = some (.slice none 0 0) := by
  unfold isN at h
  split at h
  · rfl
  · cases h
theorem isU_ok {o : Option Value} {n : Nat} (h : isU o n = true) : o = some (unk n) := by
  unfold isU at h
  split at h
  · rename_i m; rw [Nat.eq_of_beq_eq_true h]; rfl
  · cases h
noncomputable def scr : Nat :=
  match cE 5 [] ⟨3, .e⟩ with
  | none => 1
  | some (vA, HA) => match cE 6 [] HA with
    | none => 2
    | some (vB, HB) => match cE 4 [.int .i64 1, vA, vB] HB with
      | none => 3
      | some (vC, HC) => match isNew vC with
        | none => 4
        | some sid => match cellE HC sid 2 with
          | none => 5
          | some vR => match cE 19 [vR] HC with
            | none => 6
            | some (vS, HS) => match cE 21 [sPtr sid, .agg ⟨whoL (unk HS.nx) (unk (HS.nx + 1))⟩, .int .i64 0, .agg ⟨resL (unk (HS.nx + 2))⟩] ⟨HS.nx + 3, HS.t⟩ with
              | none => 7
              | some (vD, HD) => match cE 24 [sPtr sid] HD with
                | none => 8
                | some (vE, HE) => match isOut vE with
                  | none => 9
                  | some (a1, c1) => match cE 8 [sPtr sid, unk HE.nx, unk (HE.nx + 1)] ⟨HE.nx + 2, HE.t⟩ with
                    | none => 10
                    | some (vF, HF) => match isOut vF with
                      | none => 11
                      | some (a2, c2) => match cE 9 [sPtr sid] HF with
                        | none => 12
                        | some (vG, HG) => cond (isF (cellE HC sid 16)) (cond (isSt vS) (cond (isStore vG)
                          (cond (isU (cellE HF a1 0) HS.nx && isU (cellE HF a1 1) (HS.nx + 1) && isI (cellE HF a1 2) 0 && isU (cellE HF a1 3) (HS.nx + 2) && isI (cellE HF a1 4) 0 && isN (cellE HF a1 5))
                            (cond (isU (cellE HF a2 0) HE.nx && isU (cellE HF a2 1) (HE.nx + 1) && isI (cellE HF a2 2) 0 && isI (cellE HF a2 3) 20 && isI (cellE HF a2 4) 0 && isN (cellE HF a2 5)) 0 17) 16) 15) 14) 13
theorem scr_runs : scr = 0 := by kernel_rfl
theorem cond0 {b : Bool} {m n : Nat} (h : cond b m n = 0) (hn : n ≠ 0) : b = true ∧ m = 0 := by
  cases b with
  | true => exact ⟨rfl, h⟩
  | false => exact absurd h hn
theorem isNew_ok {v : Value} {id : Nat} (h : isNew v = some id) : v = .tuple ⟨[sPtr id, .int .i64 0]⟩ := by
  unfold isNew at h
  split at h
  · obtain rfl := Option.some.inj h; rfl
  · cases h
theorem isOut_ok {v : Value} {x : Nat × Nat} (h : isOut v = some x) : v = .agg ⟨[.slice none 0 0, .slice (some ⟨x.1, 0, none⟩) 1 x.2, .slice none 0 0]⟩ := by
  unfold isOut at h
  split at h
  · obtain rfl := Option.some.inj h; rfl
  · cases h
theorem isSt_ok {v : Value} (h : isSt v = true) : ∃ l, v = .agg ⟨.int .i64 0 :: .int .i64 0 :: l⟩ ∧ l.length = 7 ∧ ∀ x ∈ l, one1 x = true := by
  unfold isSt at h
  split at h
  · rename_i a b c d e f g
    simp only [Bool.and_eq_true] at h
    obtain ⟨⟨⟨⟨⟨⟨h1, h2⟩, h3⟩, h4⟩, h5⟩, h6⟩, h7⟩ := h
    exact ⟨[a, b, c, d, e, f, g], rfl, rfl, by simp [h1, h2, h3, h4, h5, h6, h7]⟩
  · cases h
theorem isStore_ok {v : Value} (h : isStore v = true) : ∃ a b c d e f g i, v = .agg ⟨[.int .i64 0, a, b, c, d, e, f, g, i]⟩ := by
  unfold isStore at h
  split at h
  · exact ⟨_, _, _, _, _, _, _, _, rfl⟩
  · cases h
/-- what was run -/
structure Scr (vA vB : Value) (HA HB HC HS HD HE HF HG : Hp) (vR vS vD vG : Value) (sid a1 c1 a2 c2 : Nat) : Prop where
  three : cE 5 [] ⟨3, .e⟩ = some (vA, HA)
  disk : cE 6 [] HA = some (vB, HB)
  new : cE 4 [.int .i64 1, vA, vB] HB = some (.tuple ⟨[sPtr sid, .int .i64 0]⟩, HC)
  down : cellE HC sid 16 = some (.bool false)
  raft : cellE HC sid 2 = some vR
  status : cE 19 [vR] HC = some (vS, HS)
  st : ∃ l, vS = .agg ⟨.int .i64 0 :: .int .i64 0 :: l⟩ ∧ l.length = 7 ∧ ∀ x ∈ l, one1 x = true
  answer : cE 21 [sPtr sid, .agg ⟨whoL (unk HS.nx) (unk (HS.nx + 1))⟩, .int .i64 0, .agg ⟨resL (unk (HS.nx + 2))⟩] ⟨HS.nx + 3, HS.t⟩ = some (vD, HD)
  done : cE 24 [sPtr sid] HD = some (.agg ⟨[.slice none 0 0, .slice (some ⟨a1, 0, none⟩) 1 c1, .slice none 0 0]⟩, HE)
  read : cE 8 [sPtr sid, unk HE.nx, unk (HE.nx + 1)] ⟨HE.nx + 2, HE.t⟩ = some (.agg ⟨[.slice none 0 0, .slice (some ⟨a2, 0, none⟩) 1 c2, .slice none 0 0]⟩, HF)
  p0 : cellE HF a1 0 = some (unk HS.nx)
  p1 : cellE HF a1 1 = some (unk (HS.nx + 1))
  p2 : cellE HF a1 2 = some (.int .i64 0)
  p3 : cellE HF a1 3 = some (unk (HS.nx + 2))
  p4 : cellE HF a1 4 = some (.int .i64 0)
  p5 : cellE HF a1 5 = some (.slice none 0 0)
  q0 : cellE HF a2 0 = some (unk HE.nx)
  q1 : cellE HF a2 1 = some (unk (HE.nx + 1))
  q2 : cellE HF a2 2 = some (.int .i64 0)
  q3 : cellE HF a2 3 = some (.int .i64 20)
  q4 : cellE HF a2 4 = some (.int .i64 0)
  q5 : cellE HF a2 5 = some (.slice none 0 0)
  store : cE 9 [sPtr sid] HF = some (vG, HG)
  index : ∃ a b c d e f g i, vG = .agg ⟨[.int .i64 0, a, b, c, d, e, f, g, i]⟩
theorem scr_ok : ∃ vA vB HA HB HC HS HD HE HF HG vR vS vD vG sid a1 c1 a2 c2, Scr vA vB HA HB HC HS HD HE HF HG vR vS vD vG sid a1 c1 a2 c2 := by
  have h := scr_runs
  unfold scr at h
  split at h
  · cases h
  rename_i vA HA h1
  split at h
  · cases h
  rename_i vB HB h2
  split at h
  · cases h
  rename_i vC HC h3
  split at h
  · cases h
  rename_i sid h4
  split at h
  · cases h
  rename_i vR h5
  split at h
  · cases h
  rename_i vS HS h6
  split at h
  · cases h
  rename_i vD HD h7
  split at h
  · cases h
  rename_i vE HE h8
  split at h
  · cases h
  rename_i a1 c1 h9
  split at h
  · cases h
  rename_i vF HF h10
  split at h
  · cases h
  rename_i a2 c2 h11
  split at h
  · cases h
  rename_i vG HG h12
  obtain ⟨g1, h⟩ := cond0 h (by decide)
  obtain ⟨g2, h⟩ := cond0 h (by decide)
  obtain ⟨g3, h⟩ := cond0 h (by decide)
  obtain ⟨g4, h⟩ := cond0 h (by decide)
  obtain ⟨g5, h⟩ := cond0 h (by decide)
  simp only [Bool.and_eq_true] at g4 g5
  rw [isNew_ok h4] at h3
  rw [isOut_ok h9] at h8
  rw [isOut_ok h11] at h10
  exact ⟨vA, vB, HA, HB, HC, HS, HD, HE, HF, HG, vR, vS, vD, vG, sid, a1, c1, a2, c2, h1, h2, h3, isF_ok g1, h5, h6, isSt_ok g2, h7, h8, h10, isU_ok g4.1.1.1.1.1, isU_ok g4.1.1.1.1.2, isI_ok g4.1.1.1.2, isU_ok g4.1.1.2, isI_ok g4.1.2, isN_ok g4.2, isU_ok g5.1.1.1.1.1, isU_ok g5.1.1.1.1.2, isI_ok g5.1.1.1.2, isI_ok g5.1.1.2, isI_ok g5.1.2, isN_ok g5.2, h12, isStore_ok g3⟩
end Go.Proofs.YtjcjiokneibfdaaGreatDoor
