/- For every input of bulk at most 1048576 FsmRises returns true, and what it was given reads as it did. -/
import Derived.Test.YtccekmeifanipaaGreatR37
namespace Go.Proofs.YtccekmeifanipaaGreat
set_option linter.unusedVariables false
set_option linter.unusedSimpArgs false
set_option linter.unusedSectionVars false
open Go.RowKit Go.ChangeShapes Go.WideShapes Go.ChangeAt
set_option maxRecDepth 100000 in
theorem cmds_open {H:Type} {enc:TypeId × Value→H} {W:World} {base:Nat} {v0:Value} {d0:DataW H} {p0:List MemPlace} (hv:Value.okWide Tryz.prog W .any base 22 v0) (h0:DataW.Trod enc Tryz.prog W 0 (fun _=>true) true 22 v0 d0 p0) (hk:Rows.uptoBulk d0≤1048576) :
  ∃ A n cap,∃ l:List AP,v0=.slice A n cap∧Sl W 27 A n (l.map AP.cells)∧(∀ x∈l,x.Read W)∧n≤1048576:=by
 obtain ⟨A,n,cap,rfl⟩:=okWide_slice Tryz.underlying22 hv
 obtain ⟨fuel,hf⟩:=h0
 obtain ⟨A',n',cap',l,e1,hl,hok,hn,hm⟩:=Fy.slice (B:=1048576) AP.cells (AP.Read W) Tryz.underlying22 QN (by decide) (He (by decide)) ⟨fuel,_,hf,hk⟩
 injection e1 with e1 e2 e3
 subst e1 e2 e3
 exact ⟨A,n,cap,l,rfl,hl,hok,by omega⟩
set_option maxRecDepth 100000 in
theorem fsmRises_contract (H:Type) (enc:TypeId × Value→H) (W:World) (base:Nat) (args:Array Value) (ds gs:List (DataW H)) (before:List MemPlace)
  (hval:∀ (j:Nat) t v,Tryz.f8.params[j]? = some t→args[j]? = some v→Value.okWide Tryz.prog W .any base t v)
  (hW:DataW.Whole enc Tryz.prog Tryz.f8.params.toList Rows.fsmRisesSpec.vars false W args.toList ds gs before) (hk:Rows.uptoSmall H (ds ++ gs)=true) :
  Calls Tryz.prog 8 args W fun e W'=>∃ v,e=.returned v∧Rows.fsmRisesSpec.post enc Tryz.prog Tryz.f8 false true false false W args v W':=by
 have hW':=hW
 obtain ⟨p,q,hA0,hV,rfl,hfz,hnd⟩:=hW
 have hA:DataW.TrodAll enc Tryz.prog W 0 (fun _=>true) true Tryz.f8.params.toList args.toList ds p:=hA0
 rw [Tryz.params8] at hA hval
 obtain ⟨v0,d0,hargs,rfl,h0⟩:=trodAll_one hA
 obtain ⟨rfl,rfl⟩:=trodVars_none hV
 subst hargs
 have hk':=of_decide_eq_true hk
 simp only [List.append_nil,Rows.uptoBulkAll] at hk'
 obtain ⟨A0,n0,cap0,l0,rfl,hl0,hok0,hn0⟩:=cmds_open (hval 0 22 v0 rfl rfl) h0 (by omega)
 refine (Ow A0 n0 cap0 l0 W hl0 hok0 hn0).mono fun e W' ⟨he,hx⟩=>?_
 subst he
 exact ⟨_,rfl,Ht laidOut (by rw [Tryz.params8];intro t ht;simp at ht;subst ht;exact ⟨by kernel_rfl,of_decide_eq_true (by kernel_rfl)⟩) rfl Tryz.underlying4 rfl hW' rfl rfl rfl hx.Li⟩
set_option maxRecDepth 100000 in
theorem IQ (os:Os) (started:os.Started) (H:Type) (enc:TypeId × Value→H) (F:Stop.Interp) :
  ReturnsInHanded {} Tryz.checked os 8 .any ((Rows.OpenSpec.upto Rows.fsmRisesSpec).pre6 enc Tryz.prog Tryz.f8 Rows.fsmRisesUptoRow.domain false) (((Rows.OpenSpec.upto Rows.fsmRisesSpec).at F).post enc Tryz.prog Tryz.f8 false true false false):=by
 refine returnsInHanded_of_cond (C:=Tryz.checked) (s:=Rows.OpenSpec.upto Rows.fsmRisesSpec) (k:=Rows.uptoSmall) rfl QH started (by kernel_rfl) Tryz.func8
  (OpenSpec.witness (enc:=enc) (C:=Tryz.checked) (s:=Rows.OpenSpec.upto Rows.fsmRisesSpec) (k:=Rows.uptoSmall) rfl false ⟨#[],#[.slice none 0 0],[]⟩ 8 (by kernel_rfl) (by kernel_rfl) (by kernel_rfl)
   (x:=([.nil],[],[])) (by kernel_rfl) rfl (by kernel_rfl)) ?_
 intro W base args ds gs before hval hW _ hk _
 exact fsmRises_contract H enc W base args ds gs before hval hW hk
theorem fsmRises_holds:Rows.FsmRisesUptoSaid :=
 OpenClaim.holds_of_cond 8 Tryz.f8 rfl rfl rfl rfl rfl rfl rfl ⟨rfl,rfl,rfl,rfl,rfl⟩ rfl rfl rfl rfl rfl (by kernel_rfl) Tryz.func8 (by kernel_rfl)
  (of_decide_eq_true (by kernel_rfl)) (by unfold Func.isWrapper;first|(rw [if_pos (by decide +kernel)];kernel_rfl)|(rw [if_neg (by decide +kernel)];exact ⟨rfl,rfl⟩))
  (fun os started H enc _ F=>IQ os started H enc F)
end Go.Proofs.YtccekmeifanipaaGreat
