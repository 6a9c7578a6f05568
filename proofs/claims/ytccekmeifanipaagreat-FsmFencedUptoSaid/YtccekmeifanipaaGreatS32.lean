/- Parts of the proof: MAll -/
import Derived.Test.YtccekmeifanipaaGreatS18
import Derived.Test.YtccekmeifanipaaGreatS26
import Derived.Test.YtccekmeifanipaaGreatS21
import Derived.Test.YtccekmeifanipaaGreatS27
import Derived.Test.YtccekmeifanipaaGreatS22
import Derived.Test.YtccekmeifanipaaGreatS24
import Derived.Test.YtccekmeifanipaaGreatS28
namespace Go.Proofs.YtccekmeifanipaaGreat
set_option linter.unusedVariables false
set_option linter.unusedSimpArgs false
set_option linter.unusedSectionVars false
open Go.RowKit
structure Dt (base b:Nat) (s:Aa) (c:Be) (w:World) (e:Ending) (w' : World):Prop where
 out:∃ s' cm' r rv,e=.returned (.agg #[.int .i64 r.code,.int .i64 r.value,rv])∧AB base w' b s' cm'∧Fsm.command s.data c.d=((if cm' then Fsm.came s'.data else s'.data),r)∧CO base w' rv r.allocs∧Step w w' b s s'
structure Lim (s:Aa):Prop where
 j:s.jobs.length≤1048575
 n:s.nodes.length≤1048575
 a:s.allocs.length≤1048576
 d:s.deploys.length≤1048575
 t:s.stable.length≤33554432
 e:s.evals.length≤16777216
def Ef (f:Nat) (op:Int):Prop:=∀ (base b:Nat) (s:Aa) (c:Be) (w:World),c.op=op→AB base w b s false→DI base w c→base≤w.heap.size→Lim s→Fsm.Wf s.data →
 Calls Tryz.prog f #[.pointer (some ⟨b,0,none⟩),.agg c.arr] w fun e w'=>Dt base b s c w e w'
namespace Fsm
theorem Ca {s:Ab} {c:BU} {op:Int} (h:c.op=op):command s c=(if op=1 ∨ op=2 then (s,⟨0,0,[]⟩) else
 if op=3 then BZ s c else if op=4 then cancel s c else if op=5 then register s c else
 if op=6 then DY s c else if op=7 then down s c else if op=8 then drain s c else
 if op=9 then plan s c else if op=10 then revert s c else no s 50):=by subst h;rfl
end Fsm
theorem Dt.plain {base b:Nat} {s:Aa} {c:Be} {w w' : World} {e:Ending} {f:Ab × AQ} (hf:Fsm.command s.data c.d=f) (h:∃ s' r,e=.returned (.agg (Aw r.code r.value))∧AB base w' b s' false∧f=(s'.data,r)∧r.allocs=[]∧Step w w' b s s'):Dt base b s c w e w':=by
 obtain ⟨s',r,rfl,hM,hd,ha,hs⟩:=h
 exact ⟨s',false,r,.slice none 0 0,rfl,hM,by rw [hf,hd];rfl,by rw [ha];exact CO.nil _ _,hs⟩
theorem Dt.came {base b:Nat} {s:Aa} {c:Be} {w w' : World} {e:Ending} {f:Ab × AQ} (hf:Fsm.command s.data c.d=f) (h:∃ s' cm' r,e=.returned (.agg (Aw r.code r.value))∧AB base w' b s' cm'∧f=((if cm' then Fsm.came s'.data else s'.data),r)∧r.allocs=[]∧Step w w' b s s'):Dt base b s c w e w':=by
 obtain ⟨s',cm',r,rfl,hM,hd,ha,hs⟩:=h
 exact ⟨s',cm',r,.slice none 0 0,rfl,hM,by rw [hf,hd],by rw [ha];exact CO.nil _ _,hs⟩
theorem Qx {op:Int} (ho:op=1 ∨ op=2):Ef 49 op:=fun base b s c w h hM hc hb hl hw =>
 (R3 base b s false c w hM).mono fun e w' ⟨h1,h2,h3⟩=>Dt.plain (Fsm.Ca (c:=c.d) h) ⟨s,⟨0,0,[]⟩,h1,h2,by rw [if_pos ho],rfl,h3⟩
theorem OV:Ef 50 3:=fun base b s c w h hM hc hb hl hw =>
 (Qe base b s false c w hM hc hb hl.j hl.a hl.d hl.t (by have:=hl.e;omega) hw).mono fun e w' h1=>Dt.plain (Fsm.Ca (c:=c.d) h) h1
theorem Oq:Ef 51 4:=fun base b s c w h hM hc hb hl hw =>
 (PV base b s false c w hM hb (by have:=hl.j;omega) (by have:=hl.d;omega) (by have:=hl.e;omega) hw).mono fun e w' h1=>Dt.plain (Fsm.Ca (c:=c.d) h) h1
theorem Mx:Ef 52 5:=fun base b s c w h hM hc hb hl hw =>
 (Nw base b s c w hM hb (by have:=hl.j;omega) hl.n hl.a hl.e hw).mono fun e w' h1=>Dt.came (Fsm.Ca (c:=c.d) h) h1
theorem Q5:Ef 53 6:=fun base b s c w h hM hc hb hl hw =>
 (RN base b s c w hM hc hb (by have:=hl.j;omega) (by have:=hl.n;omega) hl.a (by have:=hl.d;omega) hl.t hl.e hw).mono fun e w' ⟨s',cm',r,rv,h1,h2,h3,h4,h5⟩=>⟨s',cm',r,rv,h1,h2,(Fsm.Ca (c:=c.d) h).trans h3,h4,h5⟩
theorem QY:Ef 54 7:=fun base b s c w h hM hc hb hl hw =>
 (RY base b s false c w hM hb (by have:=hl.j;omega) (by have:=hl.n;omega) hl.a hl.e hw).mono fun e w' h1=>Dt.plain (Fsm.Ca (c:=c.d) h) h1
theorem P6:Ef 55 8:=fun base b s c w h hM hc hb hl hw =>
 (Q0 base b s c w hM hb (by have:=hl.j;omega) (by have:=hl.n;omega) hl.a hl.e hw).mono fun e w' h1=>Dt.came (Fsm.Ca (c:=c.d) h) h1
theorem Ot:Ef 57 10:=fun base b s c w h hM hc hb hl hw =>
 (Qp base b s false c w hM hb hl.j hl.a hl.d hl.t (by have:=hl.e;omega) hw).mono fun e w' h1=>Dt.plain (Fsm.Ca (c:=c.d) h) h1
theorem Rj (hplan:Ef 56 9) {op:Int} {f:Nat} (h:EE op H9=some f):Ef f op:=by
 simp only [H9,EE] at h
 repeat' split at h
 all_goals (first|(focus (cases h;done))|(rename_i h0;cases h;subst h0;first|exact Qx (.inl rfl)|exact Qx (.inr rfl)|exact OV|exact Oq|exact Mx|exact Q5|exact QY|exact P6|exact hplan|exact Ot))
theorem Ri {op:Int} (h:EE op H9=none) {s:Ab} {c:BU} (hc:c.op=op):Fsm.command s c=Fsm.no s 50:=by
 rw [Fsm.Ca hc]
 simp only [H9,EE] at h
 repeat' split at h
 all_goals (first|(focus (cases h;done))|skip)
 rw [if_neg (by omega),if_neg (by omega),if_neg (by omega),if_neg (by omega),if_neg (by omega),if_neg (by omega),if_neg (by omega),if_neg (by omega),if_neg (by omega)]
end Go.Proofs.YtccekmeifanipaaGreat
