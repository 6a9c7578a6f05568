/- Parts of the proof: MWhole -/
import Derived.Test.YtccekmeifanipaaGreatR30
import Derived.Test.YtccekmeifanipaaGreatR33
import Derived.Test.YtccekmeifanipaaGreatR14
namespace Go.Proofs.YtccekmeifanipaaGreat
set_option linter.unusedVariables false
set_option linter.unusedSimpArgs false
set_option linter.unusedSectionVars false
open Go.RowKit
theorem Pt:Eo 56 9:=fun base b s c w h hM hc hb hl hw =>
 (mPlan base b s false c w hM hc hb hl.j hl.n hl.a hl.e hw).mono fun e w' h1=>Dw.plain (Fsm.Cf (c:=c.d) h) h1
theorem Bq {base t:Nat} {w:World} {s:Aa} {c:AP} {ix:Int} (term:Int) (ho:Az base w s) (hg:Fsm.EF t s.data) (hc:DZ w.heap.size w c) (hop:(Lit.int .i64 c.op).wf=true) (ht:t≤1048575) (hix:(t:Int)≤ix) (h1:1≤ix) :
  Calls Tryz.prog 15 #[.agg s.arr,.agg (c.ent ix term)] w fun e w'=>NF s c ix w e w':=by
 obtain ⟨a,b,c',d,e,f,g⟩:=CF hg (by omega)
 refine Qx Pt s c ix term w (ho.lay (by omega) (by omega) (by omega) (by omega) (by omega) (by omega) (by omega)) (fun y hy=>by obtain ⟨_,_,_,h⟩:=ho.xa y hy;exact h) hc hop ⟨by omega,by omega,by omega,by omega,by omega,by omega⟩ (by omega) hg.w hg.evs ?_ h1
 have h2:s.index=(t:Int):=hg.ix
 omega
end Go.Proofs.YtccekmeifanipaaGreat
