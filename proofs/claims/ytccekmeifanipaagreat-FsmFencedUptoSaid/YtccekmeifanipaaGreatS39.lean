/- Parts of the proof: Behind -/
import Derived.Test.YtccekmeifanipaaGreatS38
import Derived.Test.YtccekmeifanipaaGreatS14
import Derived.Test.YtccekmeifanipaaGreatS04
import Derived.Test.YtccekmeifanipaaGreatS03
namespace Go.Proofs.YtccekmeifanipaaGreat
set_option linter.unusedVariables false
set_option linter.unusedSimpArgs false
set_option linter.unusedSectionVars false
open Go.RowKit
theorem Be.Read.Am {w w' : World} {c:Be} (h:c.Read w) (hx:Ext Nothing w w'):c.Read w':=⟨h.g.Am hx,h.gl,h.r.Am hx,h.rl,h.s.Am hx,h.sl,h.p.Am hx,h.pl,h.o25,h.o26,h.op,h.ok⟩
abbrev Cz (op:Int) (n:NodD) (rs:List (Int × Int)) (RA:Option Addr) (rn rc:Nat):Be:=⟨op,0,0,⟨0,0,0,0,[],0,false⟩,none,0,0,n,rs,RA,rn,rc,0,0,0,[],none,0,0,[],none,0,0,false,.slice none 0 0,.slice none 0 0⟩
theorem F9 {w w' : World} (op:Int) (n:NodD) {rs:List (Int × Int)} {RA:Option Addr} {rn:Nat} (rc:Nat) (hs:Sl w 2 RA rn (rs.map Dg)) (hn:rn≤1048576) (hx:Ext Nothing w w'):DI w'.heap.size w' (Cz op n rs RA rn rc):=by
 have hr:=hs.Am hx
 refine ⟨Sl.nil _ _ _,by simp,by simp,hr,hn,fun b hb hne=>?_,Sl.nil _ _ _,by simp,by simp,Sl.nil _ _ _,by simp,by simp,rfl,rfl⟩
 rcases Nat.lt_or_ge b w'.heap.size with h1|h1
 ·exact h1
 exact absurd (hr.old (by decide) hb h1) (by simpa using hne)
theorem Ay.under {base:Nat} {W W' : World} {s:Aa} {S:Nat→Prop} (h:Ay base W s) (hx:Ext S W W') (hS:∀ q,S q→q < base):Ay base W' s:=by
 have r:∀ {e sz n:Nat} {v:Value} {xs:List Value},W.ownsRow base e sz v n xs→W'.ownsRow base e sz v n xs:=fun ho=>Ap ho hx (fun g hg hs=>by have h1:=BM ho hg;have h2:=hS g hs;omega)
 have g:∀ {v:Value} {ys:List JobV},BC base W v ys→BC base W' v ys:=fun hj=>⟨r hj.own,fun y hy=>by
  obtain ⟨A,n,c,h1,h2,h3,h4⟩:=hj.grp y hy
  exact ⟨A,n,c,h1,r h2,h3,h4⟩⟩
 exact ⟨g h.j,h.jl,g h.t,h.tl,r h.n,h.nl,r h.a,h.al,r h.e,h.el,r h.d,h.dl,r h.x,h.xl,h.xa,h.sep⟩
end Go.Proofs.YtccekmeifanipaaGreat
