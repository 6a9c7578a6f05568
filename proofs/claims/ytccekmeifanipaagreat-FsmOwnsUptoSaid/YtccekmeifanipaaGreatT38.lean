/- Parts of the proof: Behind Fenced -/
import Derived.Test.YtccekmeifanipaaGreatRows
import Derived.StillTailTactics
import Derived.Test.YtccekmeifanipaaGreatT37
import Derived.Test.YtccekmeifanipaaGreatT14
import Derived.Test.YtccekmeifanipaaGreatT04
import Derived.Test.YtccekmeifanipaaGreatT02
import Derived.Deep.CutRange
import Derived.Test.YtccekmeifanipaaGreatT30
import Derived.Test.YtccekmeifanipaaGreatT08
namespace Go.Proofs.YtccekmeifanipaaGreat
set_option linter.unusedVariables false
set_option linter.unusedSimpArgs false
set_option linter.unusedSectionVars false
section
open Go.RowKit
theorem Bl.Read.Al {w w' : World} {c:Bl} (h:c.Read w) (hx:Ext Nothing w w'):c.Read w':=⟨h.g.Al hx,h.gl,h.r.Al hx,h.rl,h.s.Al hx,h.sl,h.p.Al hx,h.pl,h.o25,h.o26,h.op,h.ok⟩
theorem Aw.under {base:Nat} {W W' : World} {s:Aa} {S:Nat→Prop} (h:Aw base W s) (hx:Ext S W W') (hS:∀ q,S q→q < base):Aw base W' s:=by
 have r:∀ {e sz n:Nat} {v:Value} {xs:List Value},W.ownsRow base e sz v n xs→W'.ownsRow base e sz v n xs:=fun ho=>Am ho hx (fun g hg hs=>by have h1:=BM ho hg;have h2:=hS g hs;omega)
 have g:∀ {v:Value} {ys:List JobV},BC base W v ys→BC base W' v ys:=fun hj=>⟨r hj.own,fun y hy=>by
  obtain ⟨A,n,c,h1,h2,h3,h4⟩:=hj.grp y hy
  exact ⟨A,n,c,h1,r h2,h3,h4⟩⟩
 exact ⟨g h.j,h.jl,g h.t,h.tl,r h.n,h.nl,r h.a,h.al,r h.e,h.el,r h.d,h.dl,r h.x,h.xl,h.xa,h.sep⟩
end
section
open Go.RowKit
theorem DU {base t:Nat} {w:World} {s:Aa} (ho:Aw base w s) (hg:Fsm.EU t s.data) (ht:t≤1048576):s.Lay w:=by
 obtain ⟨a,b,c',d,e,f,g⟩:=Fs hg ht
 exact ho.lay (by omega) (by omega) (by omega) (by omega) (by omega) (by omega) (by omega)
theorem IC {a b:Aa} (h:a.data=b.data):ME a b:=by
 have e:=h.symm
 simp only [Aa.data] at e
 injection e with e1 e2 e3 e4 e5 e6 e7 e8 e9
 exact ⟨e1,e2,e3,e4,e5,e6,e7,e8,e9⟩
end
end Go.Proofs.YtccekmeifanipaaGreat
