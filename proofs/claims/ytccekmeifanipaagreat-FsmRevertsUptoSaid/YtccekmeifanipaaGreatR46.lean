/- For every input of bulk at most 1048576 FsmReverts returns true, and what it was given reads as it did. -/
import Derived.Test.YtccekmeifanipaaGreatR43
namespace Go.Proofs.YtccekmeifanipaaGreat
set_option linter.unusedVariables false
set_option linter.unusedSimpArgs false
set_option linter.unusedSectionVars false
open Go.RowKit Go.ChangeShapes Go.WideShapes Go.ChangeAt
set_option maxRecDepth 100000 in
theorem cmds_openB {B:Nat} (hB1:B≤1048577) {H:Type} {enc:TypeId × Value→H} {W:World} {base:Nat} {v0:Value} {d0:DataW H} {p0:List MemPlace} (hv:Value.okWide Tryz.prog W .any base 22 v0) (h0:DataW.Trod enc Tryz.prog W 0 (fun _=>true) true 22 v0 d0 p0) (hk:Rows.uptoBulk d0≤B) :
  ∃ A n cap,∃ l:List AP,v0=.slice A n cap∧Sl W 27 A n (l.map AP.cells)∧(∀ x∈l,x.Read W)∧n+1≤B:=by
 obtain ⟨A,n,cap,rfl⟩:=okWide_slice Tryz.underlying22 hv
 obtain ⟨fuel,hf⟩:=h0
 obtain ⟨A',n',cap',l,e1,hl,hok,hn,hm⟩:=Fy.slice (B:=B) AP.cells (AP.Read W) Tryz.underlying22 QN (by decide) (He hB1) ⟨fuel,_,hf,hk⟩
 injection e1 with e1 e2 e3
 subst e1 e2 e3
 exact ⟨A,n,cap,l,rfl,hl,hok,by omega⟩
set_option maxRecDepth 100000 in
theorem fsmReverts_contract (H:Type) (enc:TypeId × Value→H) (W:World) (base:Nat) (args:Array Value) (ds gs:List (DataW H)) (before:List MemPlace)
  (hval:∀ (j:Nat) t v,Tryz.f13.params[j]? = some t→args[j]? = some v→Value.okWide Tryz.prog W .any base t v)
  (hW:DataW.Whole enc Tryz.prog Tryz.f13.params.toList Rows.fsmRevertsSpec.vars false W args.toList ds gs before) (hk:Rows.uptoSmall H (ds ++ gs)=true) :
  Calls Tryz.prog 13 args W fun e W'=>∃ v,e=.returned v∧Rows.fsmRevertsSpec.post enc Tryz.prog Tryz.f13 false true false false W args v W':=by
 have hW':=hW
 obtain ⟨p,q,hA0,hV,rfl,hfz,hnd⟩:=hW
 have hA:DataW.TrodAll enc Tryz.prog W 0 (fun _=>true) true Tryz.f13.params.toList args.toList ds p:=hA0
 rw [Tryz.params13] at hA hval
 obtain ⟨v0,v1,d0,d1,p0,p1,hargs,rfl,rfl,h0,h1⟩:=trodAll_two hA
 obtain ⟨rfl,rfl⟩:=trodVars_none hV
 subst hargs
 have hk':=of_decide_eq_true hk
 simp only [List.append_nil,Rows.uptoBulkAll] at hk'
 have hb0:=EO d0
 have hb1:=EO d1
 obtain ⟨x1,rfl,rfl,rfl,wx1⟩:=open_int Tryz.underlying3 (hval 1 3 v1 rfl rfl) h1
 obtain ⟨A0,n0,cap0,l0,rfl,hl0,hok0,hn0⟩:=cmds_openB (B:=1048575) (by decide) (hval 0 22 v0 rfl rfl) h0 (by omega)
 refine (MU A0 n0 cap0 l0 x1 W hl0 hok0 (by omega) wx1).mono fun e W' ⟨he,hx⟩=>?_
 subst he
 exact ⟨_,rfl,Ht laidOut (by rw [Tryz.params13];intro t ht;simp at ht;rcases ht with rfl|rfl <;> exact ⟨by kernel_rfl,of_decide_eq_true (by kernel_rfl)⟩) rfl Tryz.underlying4 rfl hW' rfl rfl rfl hx.Li⟩
set_option maxRecDepth 100000 in
theorem G9 (os:Os) (started:os.Started) (H:Type) (enc:TypeId × Value→H) (F:Stop.Interp) :
  ReturnsInHanded {} Tryz.checked os 13 .any ((Rows.OpenSpec.upto Rows.fsmRevertsSpec).pre6 enc Tryz.prog Tryz.f13 Rows.fsmRevertsUptoRow.domain false) (((Rows.OpenSpec.upto Rows.fsmRevertsSpec).at F).post enc Tryz.prog Tryz.f13 false true false false):=by
 refine returnsInHanded_of_cond (C:=Tryz.checked) (s:=Rows.OpenSpec.upto Rows.fsmRevertsSpec) (k:=Rows.uptoSmall) rfl QH started (by kernel_rfl) Tryz.func13
  (OpenSpec.witness (enc:=enc) (C:=Tryz.checked) (s:=Rows.OpenSpec.upto Rows.fsmRevertsSpec) (k:=Rows.uptoSmall) rfl false ⟨#[],#[.slice none 0 0,.int .i64 0],[]⟩ 8 (by kernel_rfl) (by kernel_rfl) (by kernel_rfl)
   (x:=([.nil,.lit (.int .i64 0)],[],[])) (by kernel_rfl) rfl (by kernel_rfl)) ?_
 intro W base args ds gs before hval hW _ hk _
 exact fsmReverts_contract H enc W base args ds gs before hval hW hk
theorem fsmReverts_holds:Rows.FsmRevertsUptoSaid :=
 OpenClaim.holds_of_cond 13 Tryz.f13 rfl rfl rfl rfl rfl rfl rfl ⟨rfl,rfl,rfl,rfl,rfl⟩ rfl rfl rfl rfl rfl (by kernel_rfl) Tryz.func13 (by kernel_rfl)
  (of_decide_eq_true (by kernel_rfl)) (by unfold Func.isWrapper;first|(rw [if_pos (by decide +kernel)];kernel_rfl)|(rw [if_neg (by decide +kernel)];exact ⟨rfl,rfl⟩))
  (fun os started H enc _ F=>G9 os started H enc F)
end Go.Proofs.YtccekmeifanipaaGreat
