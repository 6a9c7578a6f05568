/- Parts of the proof: Lv11F -/
import Derived.Test.YtccekmeifanipaaGreatR14
import Derived.Test.YtccekmeifanipaaGreatR08
namespace Go.Proofs.YtccekmeifanipaaGreat
set_option linter.unusedVariables false
set_option linter.unusedSimpArgs false
set_option linter.unusedSectionVars false
open Go.RowKit
namespace Fsm
theorem O1 {t:Nat} {s u:Ab} {r:AR} (hg:Num (t*1099511627776) s) {ix:Int} {c:Bi} (hp:c.plan.places.length≤1048576) (ht:t≤1048576) (e:apply s ix c=(u,r)):Way s u∧EP s u:=by
 have h1:=Ou hg ix c (by have:=PQ hp;omega)
 rw [e] at h1
 exact h1
end Fsm
end Go.Proofs.YtccekmeifanipaaGreat
