/- For every input of bulk at most 1048576 FsmFenced returns true, and what it was given reads as it did. -/
import Derived.Test.YtccekmeifanipaaGreatS40
namespace Go.Proofs.YtccekmeifanipaaGreat
set_option linter.unusedVariables false
set_option linter.unusedSimpArgs false
set_option linter.unusedSectionVars false
open Go.RowKit Go.ChangeShapes Go.WideShapes Go.ChangeAt
set_option maxRecDepth 100000 in
theorem cmds_openB {B:Nat} (hB1:B≤1048577) {H:Type} {enc:TypeId × Value→H} {W:World} {base:Nat} {v0:Value} {d0:DataW H} {p0:List MemPlace} (hv:Value.okWide Tryz.prog W .any base 22 v0) (h0:DataW.Trod enc Tryz.prog W 0 (fun _=>true) true 22 v0 d0 p0) (hk:Rows.uptoBulk d0≤B) :
  ∃ A n cap,∃ l:List Be,v0=.slice A n cap∧Sl W 27 A n (l.map Be.cells)∧(∀ x∈l,x.Read W)∧n+1≤B:=by
 obtain ⟨A,n,cap,rfl⟩:=okWide_slice Tryz.underlying22 hv
 obtain ⟨fuel,hf⟩:=h0
 obtain ⟨A',n',cap',l,e1,hl,hok,hn,hm⟩:=FE.slice (B:=B) Be.cells (Be.Read W) Tryz.underlying22 RO (by decide) (Ji hB1) ⟨fuel,_,hf,hk⟩
 injection e1 with e1 e2 e3
 subst e1 e2 e3
 exact ⟨A,n,cap,l,rfl,hl,hok,by omega⟩
set_option maxRecDepth 100000 in
theorem NB {H:Type} {enc:TypeId × Value→H} {W:World} {base:Nat} {v0:Value} {d0:DataW H} {p0:List MemPlace} (hv:Value.okWide Tryz.prog W .any base 43 v0) (h0:DataW.Trod enc Tryz.prog W 0 (fun _=>true) true 43 v0 d0 p0) (hk:Rows.uptoBulk d0≤1048577) :
  ∃ x:NodD,v0=.agg x.cells.toArray∧x.ok:=by
 obtain ⟨cs,rfl,hsz⟩:=okWide_struct Tryz.underlying43 hv
 obtain ⟨fuel,hf⟩:=h0
 obtain ⟨x,hx,ho⟩:=NI (B:=1048577) fuel _ _ hf hk
 have hx' : cs.toList=x.cells:=hx
 exact ⟨x,by rw [← hx'],ho⟩
set_option maxRecDepth 100000 in
theorem KQ {H:Type} {enc:TypeId × Value→H} {W:World} {base:Nat} {v0:Value} {d0:DataW H} {p0:List MemPlace} (hv:Value.okWide Tryz.prog W .any base 44 v0) (h0:DataW.Trod enc Tryz.prog W 0 (fun _=>true) true 44 v0 d0 p0) (hk:Rows.uptoBulk d0≤1048576) :
  ∃ A n cap,∃ l:List (Int × Int),v0=.slice A n cap∧Sl W 2 A n (l.map Dg)∧(∀ r∈l,In64 r.1∧In64 r.2)∧n+1≤1048576:=by
 obtain ⟨A,n,cap,rfl⟩:=okWide_slice Tryz.underlying44 hv
 obtain ⟨fuel,hf⟩:=h0
 obtain ⟨A',n',cap',l,e1,hl,hok,hn,hm⟩:=FE.slice (B:=1048576) Dg (fun r=>In64 r.1∧In64 r.2) Tryz.underlying44 Nl (by decide) Ho ⟨fuel,_,hf,hk⟩
 injection e1 with e1 e2 e3
 subst e1 e2 e3
 exact ⟨A,n,cap,l,rfl,hl,hok,hn⟩
set_option maxRecDepth 100000 in
theorem fsmFenced_contract (H:Type) (enc:TypeId × Value→H) (W:World) (base:Nat) (args:Array Value) (ds gs:List (DataW H)) (before:List MemPlace)
  (hval:∀ (j:Nat) t v,Tryz.f6.params[j]? = some t→args[j]? = some v→Value.okWide Tryz.prog W .any base t v)
  (hW:DataW.Whole enc Tryz.prog Tryz.f6.params.toList Rows.fsmFencedSpec.vars false W args.toList ds gs before) (hk:Rows.uptoSmall H (ds ++ gs)=true) :
  Calls Tryz.prog 6 args W fun e W'=>∃ v,e=.returned v∧Rows.fsmFencedSpec.post enc Tryz.prog Tryz.f6 false true false false W args v W':=by
 have hW':=hW
 obtain ⟨p,q,hA0,hV,rfl,hfz,hnd⟩:=hW
 have hA:DataW.TrodAll enc Tryz.prog W 0 (fun _=>true) true Tryz.f6.params.toList args.toList ds p:=hA0
 rw [Tryz.params6] at hA hval
 obtain ⟨v0,v1,v2,d0,d1,d2,p0,p1,p2,hargs,rfl,rfl,h0,h1,h2⟩:=trodAll_three hA
 obtain ⟨rfl,rfl⟩:=trodVars_none hV
 subst hargs
 have hk':=of_decide_eq_true hk
 simp only [List.append_nil,Rows.uptoBulkAll] at hk'
 have hb0:=Ev d0
 have hb1:=Ev d1
 have hb2:=Ev d2
 obtain ⟨A2,n2,cap2,l2,rfl,hl2,hok2,hn2⟩:=KQ (hval 2 44 v2 rfl rfl) h2 (by omega)
 obtain ⟨x1,rfl,ho1⟩:=NB (hval 1 43 v1 rfl rfl) h1 (by omega)
 obtain ⟨A0,n0,cap0,l0,rfl,hl0,hok0,hn0⟩:=cmds_openB (B:=1048574) (by decide) (hval 0 22 v0 rfl rfl) h0 (by omega)
 refine (MK A0 n0 cap0 l0 x1.id x1.cap.cpu x1.cap.mem x1.up x1.drain x1.boot x1.epoch x1.seq A2 n2 cap2 l2 W hl0 hok0 (by omega)  hl2 hok2 (by omega)).mono fun e W' ⟨he,hx⟩=>?_
 subst he
 exact ⟨_,rfl,L8 laidOut (by rw [Tryz.params6];intro t ht;simp at ht;rcases ht with rfl|rfl|rfl <;> exact ⟨by kernel_rfl,of_decide_eq_true (by kernel_rfl)⟩) rfl Tryz.underlying4 rfl hW' rfl rfl rfl hx.OD⟩
set_option maxRecDepth 100000 in
theorem Gz (os:Os) (started:os.Started) (H:Type) (enc:TypeId × Value→H) (F:Stop.Interp) :
  ReturnsInHanded {} Tryz.checked os 6 .any ((Rows.OpenSpec.upto Rows.fsmFencedSpec).pre6 enc Tryz.prog Tryz.f6 Rows.fsmFencedUptoRow.domain false) (((Rows.OpenSpec.upto Rows.fsmFencedSpec).at F).post enc Tryz.prog Tryz.f6 false true false false):=by
 refine returnsInHanded_of_cond (C:=Tryz.checked) (s:=Rows.OpenSpec.upto Rows.fsmFencedSpec) (k:=Rows.uptoSmall) rfl Rn started (by kernel_rfl) Tryz.func6
  (OpenSpec.witness (enc:=enc) (C:=Tryz.checked) (s:=Rows.OpenSpec.upto Rows.fsmFencedSpec) (k:=Rows.uptoSmall) rfl false ⟨#[],#[.slice none 0 0,.agg #[.int .i64 0,.int .i64 0,.int .i64 0,.bool false,.bool false,.int .i64 0,.int .i64 0,.int .i64 0],.slice none 0 0],[]⟩ 8 (by kernel_rfl) (by kernel_rfl) (by kernel_rfl)
   (x:=([.nil,.agg [.lit (.int .i64 0),.agg [.lit (.int .i64 0),.lit (.int .i64 0)],.lit (.bool false),.lit (.bool false),.lit (.int .i64 0),.lit (.int .i64 0),.lit (.int .i64 0)],.nil],[],[])) (by kernel_rfl) rfl (by kernel_rfl)) ?_
 intro W base args ds gs before hval hW _ hk _
 exact fsmFenced_contract H enc W base args ds gs before hval hW hk
theorem fsmFenced_holds:Rows.FsmFencedUptoSaid :=
 OpenClaim.holds_of_cond 6 Tryz.f6 rfl rfl rfl rfl rfl rfl rfl ⟨rfl,rfl,rfl,rfl,rfl⟩ rfl rfl rfl rfl rfl (by kernel_rfl) Tryz.func6 (by kernel_rfl)
  (of_decide_eq_true (by kernel_rfl)) (by unfold Func.isWrapper;first|(rw [if_pos (by decide +kernel)];kernel_rfl)|(rw [if_neg (by decide +kernel)];exact ⟨rfl,rfl⟩))
  (fun os started H enc _ F=>Gz os started H enc F)
end Go.Proofs.YtccekmeifanipaaGreat
