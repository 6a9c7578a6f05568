/- Parts of the proof: MWhole -/
import Derived.Test.YtccekmeifanipaaGreatT33
import Derived.Test.YtccekmeifanipaaGreatT35
import Derived.Test.YtccekmeifanipaaGreatT14
namespace Go.Proofs.YtccekmeifanipaaGreat
set_option linter.unusedVariables false
set_option linter.unusedSimpArgs false
set_option linter.unusedSectionVars false
open Go.RowKit
theorem QN:D9 56 9:=fun base b s c w h hM hc hb hl hw =>
 (mPlan base b s false c w hM hc hb hl.j hl.n hl.a hl.e hw).mono fun e w' h1=>Dj.plain (Fsm.Ca (c:=c.d) h) h1
theorem EB {base t:Nat} {w:World} {s:Aa} {c:Bl} {ix:Int} (term:Int) (ho:Aw base w s) (hg:Fsm.EU t s.data) (hc:Dx w.heap.size w c) (hop:(Lit.int .i64 c.op).wf=true) (ht:t≤1048575) (hix:(t:Int)≤ix) (h1:1≤ix) :
  Calls Tryz.prog 15 #[.agg s.arr,.agg (c.ent ix term)] w fun e w'=>OJ s c ix w e w':=by
 obtain ⟨a,b,c',d,e,f,g⟩:=Fs hg (by omega)
 refine Qt QN s c ix term w (ho.lay (by omega) (by omega) (by omega) (by omega) (by omega) (by omega) (by omega)) (fun y hy=>by obtain ⟨_,_,_,h⟩:=ho.xa y hy;exact h) hc hop ⟨by omega,by omega,by omega,by omega,by omega,by omega⟩ (by omega) hg.w hg.evs ?_ h1
 have h2:s.index=(t:Int):=hg.ix
 omega
end Go.Proofs.YtccekmeifanipaaGreat
