/- For every input of bulk at most 1048576 FsmBatch returns true, and what it was given reads as it did. -/
import Derived.Test.YtccekmeifanipaaGreatL38
namespace Go.Proofs.YtccekmeifanipaaGreat
set_option linter.unusedVariables false
set_option linter.unusedSimpArgs false
set_option linter.unusedSectionVars false
open Go.RowKit Go.ChangeShapes Go.WideShapes Go.ChangeAt
set_option maxRecDepth 100000 in
theorem cmds_openB {B : Nat} (hB1 : B ≤ 1048577) {H : Type} {enc : TypeId × Value → H} {W : World} {base : Nat} {v0 : Value} {d0 : DataW H} {p0 : List MemPlace} (hv : Value.okWide Tryz.prog W .any base 22 v0) (h0 : DataW.Trod enc Tryz.prog W 0 (fun _ => true) true 22 v0 d0 p0) (hk : Rows.uptoBulk d0 ≤ B) :
  ∃ A n cap,∃ l : List Ba,v0 = .slice A n cap ∧ Sl W 27 A n (l.map Ba.cells) ∧ (∀ x ∈ l,x.Read W) ∧ n + 1 ≤ B := by
 obtain ⟨A,n,cap,rfl⟩ := okWide_slice Tryz.underlying22 hv
 obtain ⟨fuel,hf⟩ := h0
 obtain ⟨A',n',cap',l,e1,hl,hok,hn,hm⟩ := EZ.slice (B := B) Ba.cells (Ba.Read W) Tryz.underlying22 QF (by decide) (Gq hB1) ⟨fuel,_,hf,hk⟩
 injection e1 with e1 e2 e3
 subst e1 e2 e3
 exact ⟨A,n,cap,l,rfl,hl,hok,by omega⟩
set_option maxRecDepth 100000 in
theorem NV {H : Type} {enc : TypeId × Value → H} {W : World} {base : Nat} {v0 : Value} {d0 : DataW H} {p0 : List MemPlace} (hv : Value.okWide Tryz.prog W .any base 47 v0) (h0 : DataW.Trod enc Tryz.prog W 0 (fun _ => true) true 47 v0 d0 p0) (hk : Rows.uptoBulk d0 ≤ 1048577) :
  ∃ a b c l A n k L B N K q,v0 = .agg #[.int .i64 a,.int .i64 b,.int .i64 c,.slice A n k,.slice B N K,.bool q] ∧ (ED a b c l A n k L B N K q).Read W := by
 obtain ⟨cs,rfl,hsz⟩ := okWide_struct Tryz.underlying47 hv
 obtain ⟨fuel,hf⟩ := h0
 have h1 := leaves (P := Tryz.prog) (d := 1) (t := 47) (by kernel_rfl) hf hk
 rw [show Ej Tryz.prog 1 47 = [3,3,3,45,25,4] by kernel_rfl] at h1
 obtain ⟨l0⟩ := cs
 match l0,h1 with
 | [c19,c20,c21,c22,c23,c24],⟨l19,l20,l21,l22,l23,l24,_⟩ =>
  obtain ⟨a19,rfl,w19⟩ := l19.int Tryz.underlying3
  obtain ⟨a20,rfl,w20⟩ := l20.int Tryz.underlying3
  obtain ⟨a21,rfl,w21⟩ := l21.int Tryz.underlying3
  obtain ⟨A22,n22,k22,x22,rfl,s22,o22,m22,_⟩ := EZ.slice Bw In64 Tryz.underlying45 Qh (by decide) Gz l22
  obtain ⟨A23,n23,k23,x23,rfl,s23,o23,m23,_⟩ := EZ.slice Ac.cells Ac.ok Tryz.underlying25 Pg (by decide) IU l23
  obtain ⟨a24,rfl⟩ := l24.bool Tryz.underlying4
  refine ⟨a19,a20,a21,x22,A22,n22,k22,x23,A23,n23,k23,a24,rfl,?_⟩
  have z : In64 0 := by unfold In64; omega
  refine ⟨Sl.nil _ _ _,by simp only; omega,Sl.nil _ _ _,by simp only; omega,s22,by simp only; omega,s23,by simp only; omega,rfl,rfl,rfl,?_⟩
  exact ⟨z,z,⟨⟨z,z,z,z,z⟩,by simp [Ba.d],by simp [Ba.d]⟩,⟨z,z,z,z,z,z⟩,by simp [Ba.d],Be w21,o23⟩
set_option maxRecDepth 100000 in
theorem fsmBatch_contract (H : Type) (enc : TypeId × Value → H) (W : World) (base : Nat) (args : Array Value) (ds gs : List (DataW H)) (before : List MemPlace)
  (hval : ∀ (j : Nat) t v,Tryz.f12.params[j]? = some t → args[j]? = some v → Value.okWide Tryz.prog W .any base t v)
  (hW : DataW.Whole enc Tryz.prog Tryz.f12.params.toList Rows.fsmBatchSpec.vars false W args.toList ds gs before) (hk : Rows.uptoSmall H (ds ++ gs) = true) :
  Calls Tryz.prog 12 args W fun e W' => ∃ v,e = .returned v ∧ Rows.fsmBatchSpec.post enc Tryz.prog Tryz.f12 false true false false W args v W' := by
 have hW' := hW
 obtain ⟨p,q,hA0,hV,rfl,hfz,hnd⟩ := hW
 have hA : DataW.TrodAll enc Tryz.prog W 0 (fun _ => true) true Tryz.f12.params.toList args.toList ds p := hA0
 rw [Tryz.params12] at hA hval
 obtain ⟨v0,v1,d0,d1,p0,p1,hargs,rfl,rfl,h0,h1⟩ := trodAll_two hA
 obtain ⟨rfl,rfl⟩ := trodVars_none hV
 subst hargs
 have hk' := of_decide_eq_true hk
 simp only [List.append_nil,Rows.uptoBulkAll] at hk'
 have hb0 := Fq d0
 have hb1 := Fq d1
 obtain ⟨a1,b1,c1,l1,A1,n1,k1,L1,B1,N1,K1,q1,rfl,ho1⟩ := NV (hval 1 47 v1 rfl rfl) h1 (by omega)
 obtain ⟨A0,n0,cap0,l0,rfl,hl0,hok0,hn0⟩ := cmds_openB (B := 1048575) (by decide) (hval 0 22 v0 rfl rfl) h0 (by omega)
 refine (NN A0 n0 cap0 l0 a1 b1 c1 l1 A1 n1 k1 L1 B1 N1 K1 q1 W hl0 hok0 (by omega) ho1).mono fun e W' ⟨he,hx⟩ => ?_
 subst he
 exact ⟨_,rfl,IG laidOut (by rw [Tryz.params12]; intro t ht; simp at ht; rcases ht with rfl | rfl <;> exact ⟨by kernel_rfl,of_decide_eq_true (by kernel_rfl)⟩) rfl Tryz.underlying4 rfl hW' rfl rfl rfl hx.L9⟩
set_option maxRecDepth 100000 in
theorem Ib (os : Os) (started : os.Started) (H : Type) (enc : TypeId × Value → H) (F : Stop.Interp) :
  ReturnsInHanded {} Tryz.checked os 12 .any ((Rows.OpenSpec.upto Rows.fsmBatchSpec).pre6 enc Tryz.prog Tryz.f12 Rows.fsmBatchUptoRow.domain false) (((Rows.OpenSpec.upto Rows.fsmBatchSpec).at F).post enc Tryz.prog Tryz.f12 false true false false) := by
 refine returnsInHanded_of_cond (C := Tryz.checked) (s := Rows.OpenSpec.upto Rows.fsmBatchSpec) (k := Rows.uptoSmall) rfl QZ started (by kernel_rfl) Tryz.func12
  (OpenSpec.witness (enc := enc) (C := Tryz.checked) (s := Rows.OpenSpec.upto Rows.fsmBatchSpec) (k := Rows.uptoSmall) rfl false ⟨#[],#[.slice none 0 0,.agg #[.int .i64 0,.int .i64 0,.int .i64 0,.slice none 0 0,.slice none 0 0,.bool false]],[]⟩ 8 (by kernel_rfl) (by kernel_rfl) (by kernel_rfl)
   (x := ([.nil,.agg [.lit (.int .i64 0),.lit (.int .i64 0),.lit (.int .i64 0),.nil,.nil,.lit (.bool false)]],[],[])) (by kernel_rfl) rfl (by kernel_rfl)) ?_
 intro W base args ds gs before hval hW _ hk _
 exact fsmBatch_contract H enc W base args ds gs before hval hW hk
theorem fsmBatch_holds : Rows.FsmBatchUptoSaid :=
 OpenClaim.holds_of_cond 12 Tryz.f12 rfl rfl rfl rfl rfl rfl rfl ⟨rfl,rfl,rfl,rfl,rfl⟩ rfl rfl rfl rfl rfl (by kernel_rfl) Tryz.func12 (by kernel_rfl)
  (of_decide_eq_true (by kernel_rfl)) (by unfold Func.isWrapper; first | (rw [if_pos (by decide +kernel)]; kernel_rfl) | (rw [if_neg (by decide +kernel)]; exact ⟨rfl,rfl⟩))
  (fun os started H enc _ F => Ib os started H enc F)
end Go.Proofs.YtccekmeifanipaaGreat
