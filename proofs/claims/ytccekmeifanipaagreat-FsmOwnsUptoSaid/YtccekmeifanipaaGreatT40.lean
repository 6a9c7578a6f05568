/- For every input of bulk at most 1048576 FsmOwns returns true, and what it was given reads as it did. -/
import Derived.Test.YtccekmeifanipaaGreatT39
namespace Go.Proofs.YtccekmeifanipaaGreat
set_option linter.unusedVariables false
set_option linter.unusedSimpArgs false
set_option linter.unusedSectionVars false
open Go.RowKit Go.ChangeShapes Go.WideShapes Go.ChangeAt
set_option maxRecDepth 100000 in
theorem cmds_openB {B:Nat} (hB1:B≤1048577) {H:Type} {enc:TypeId × Value→H} {W:World} {base:Nat} {v0:Value} {d0:DataW H} {p0:List MemPlace} (hv:Value.okWide Tryz.prog W .any base 22 v0) (h0:DataW.Trod enc Tryz.prog W 0 (fun _=>true) true 22 v0 d0 p0) (hk:Rows.uptoBulk d0≤B) :
  ∃ A n cap,∃ l:List Bl,v0=.slice A n cap∧Sl W 27 A n (l.map Bl.cells)∧(∀ x∈l,x.Read W)∧n+1≤B:=by
 obtain ⟨A,n,cap,rfl⟩:=okWide_slice Tryz.underlying22 hv
 obtain ⟨fuel,hf⟩:=h0
 obtain ⟨A',n',cap',l,e1,hl,hok,hn,hm⟩:=F8.slice (B:=B) Bl.cells (Bl.Read W) Tryz.underlying22 Ry (by decide) (Lr hB1) ⟨fuel,_,hf,hk⟩
 injection e1 with e1 e2 e3
 subst e1 e2 e3
 exact ⟨A,n,cap,l,rfl,hl,hok,by omega⟩
set_option maxRecDepth 100000 in
theorem N8 {H:Type} {enc:TypeId × Value→H} {W:World} {base:Nat} {v0:Value} {d0:DataW H} {p0:List MemPlace} (hv:Value.okWide Tryz.prog W .any base 51 v0) (h0:DataW.Trod enc Tryz.prog W 0 (fun _=>true) true 51 v0 d0 p0) (hk:Rows.uptoBulk d0≤1048577) :
  ∃ x:Bl,v0=.agg x.arr∧x.Read W:=by
 obtain ⟨cs,rfl,hsz⟩:=okWide_struct Tryz.underlying51 hv
 obtain ⟨fuel,hf⟩:=h0
 obtain ⟨x,hx,ho⟩:=Lr (B:=1048577) (by decide) fuel _ _ hf hk
 have hx' : cs.toList=x.cells:=hx
 exact ⟨x,congrArg Value.agg (Array.toList_inj.1 hx'),ho⟩
set_option maxRecDepth 100000 in
theorem fsmOwns_contract (H:Type) (enc:TypeId × Value→H) (W:World) (base:Nat) (args:Array Value) (ds gs:List (DataW H)) (before:List MemPlace)
  (hval:∀ (j:Nat) t v,Tryz.f7.params[j]? = some t→args[j]? = some v→Value.okWide Tryz.prog W .any base t v)
  (hW:DataW.Whole enc Tryz.prog Tryz.f7.params.toList Rows.fsmOwnsSpec.vars false W args.toList ds gs before) (hk:Rows.uptoSmall H (ds ++ gs)=true) :
  Calls Tryz.prog 7 args W fun e W'=>∃ v,e=.returned v∧Rows.fsmOwnsSpec.post enc Tryz.prog Tryz.f7 false true false false W args v W':=by
 have hW':=hW
 obtain ⟨p,q,hA0,hV,rfl,hfz,hnd⟩:=hW
 have hA:DataW.TrodAll enc Tryz.prog W 0 (fun _=>true) true Tryz.f7.params.toList args.toList ds p:=hA0
 rw [Tryz.params7] at hA hval
 obtain ⟨v0,v1,d0,d1,p0,p1,hargs,rfl,rfl,h0,h1⟩:=trodAll_two hA
 obtain ⟨rfl,rfl⟩:=trodVars_none hV
 subst hargs
 have hk':=of_decide_eq_true hk
 simp only [List.append_nil,Rows.uptoBulkAll] at hk'
 have hb0:=Iq d0
 have hb1:=Iq d1
 obtain ⟨x1,rfl,ho1⟩:=N8 (hval 1 51 v1 rfl rfl) h1 (by omega)
 obtain ⟨A0,n0,cap0,l0,rfl,hl0,hok0,hn0⟩:=cmds_openB (B:=1048575) (by decide) (hval 0 22 v0 rfl rfl) h0 (by omega)
 refine (Lx A0 n0 cap0 l0 x1 W hl0 hok0 (by omega) ho1).mono fun e W' ⟨he,hx⟩=>?_
 subst he
 exact ⟨_,rfl,OY laidOut (by rw [Tryz.params7];intro t ht;simp at ht;rcases ht with rfl|rfl <;> exact ⟨by kernel_rfl,of_decide_eq_true (by kernel_rfl)⟩) rfl Tryz.underlying4 rfl hW' rfl rfl rfl hx.QV⟩
set_option maxRecDepth 100000 in
theorem IZ (os:Os) (started:os.Started) (H:Type) (enc:TypeId × Value→H) (F:Stop.Interp) :
  ReturnsInHanded {} Tryz.checked os 7 .any ((Rows.OpenSpec.upto Rows.fsmOwnsSpec).pre6 enc Tryz.prog Tryz.f7 Rows.fsmOwnsUptoRow.domain false) (((Rows.OpenSpec.upto Rows.fsmOwnsSpec).at F).post enc Tryz.prog Tryz.f7 false true false false):=by
 refine returnsInHanded_of_cond (C:=Tryz.checked) (s:=Rows.OpenSpec.upto Rows.fsmOwnsSpec) (k:=Rows.uptoSmall) rfl Rw started (by kernel_rfl) Tryz.func7
  (OpenSpec.witness (enc:=enc) (C:=Tryz.checked) (s:=Rows.OpenSpec.upto Rows.fsmOwnsSpec) (k:=Rows.uptoSmall) rfl false ⟨#[],#[.slice none 0 0,.agg #[.int .i64 0,.int .i64 0,.int .i64 0,.int .i64 0,.int .i64 0,.int .i64 0,.int .i64 0,.slice none 0 0,.int .i64 0,.bool false,.int .i64 0,.int .i64 0,.int .i64 0,.bool false,.bool false,.int .i64 0,.int .i64 0,.int .i64 0,.slice none 0 0,.int .i64 0,.int .i64 0,.int .i64 0,.slice none 0 0,.slice none 0 0,.bool false,.slice none 0 0,.slice none 0 0]],[]⟩ 8 (by kernel_rfl) (by kernel_rfl) (by kernel_rfl)
   (x:=([.nil,.agg [.lit (.int .i64 0),.lit (.int .i64 0),.lit (.int .i64 0),.agg [.lit (.int .i64 0),.lit (.int .i64 0),.lit (.int .i64 0),.lit (.int .i64 0),.nil,.lit (.int .i64 0),.lit (.bool false)],.agg [.lit (.int .i64 0),.agg [.lit (.int .i64 0),.lit (.int .i64 0)],.lit (.bool false),.lit (.bool false),.lit (.int .i64 0),.lit (.int .i64 0),.lit (.int .i64 0)],.nil,.agg [.lit (.int .i64 0),.lit (.int .i64 0),.lit (.int .i64 0),.nil,.nil,.lit (.bool false)],.agg [.nil,.nil]]],[],[])) (by kernel_rfl) rfl (by kernel_rfl)) ?_
 intro W base args ds gs before hval hW _ hk _
 exact fsmOwns_contract H enc W base args ds gs before hval hW hk
theorem fsmOwns_holds:Rows.FsmOwnsUptoSaid :=
 OpenClaim.holds_of_cond 7 Tryz.f7 rfl rfl rfl rfl rfl rfl rfl ⟨rfl,rfl,rfl,rfl,rfl⟩ rfl rfl rfl rfl rfl (by kernel_rfl) Tryz.func7 (by kernel_rfl)
  (of_decide_eq_true (by kernel_rfl)) (by unfold Func.isWrapper;first|(rw [if_pos (by decide +kernel)];kernel_rfl)|(rw [if_neg (by decide +kernel)];exact ⟨rfl,rfl⟩))
  (fun os started H enc _ F=>IZ os started H enc F)
end Go.Proofs.YtccekmeifanipaaGreat
