/- Parts of the proof: MAll -/
import Derived.Test.YtccekmeifanipaaGreatR17
import Derived.Test.YtccekmeifanipaaGreatR25
import Derived.Test.YtccekmeifanipaaGreatR20
import Derived.Test.YtccekmeifanipaaGreatR26
import Derived.Test.YtccekmeifanipaaGreatR21
import Derived.Test.YtccekmeifanipaaGreatR23
import Derived.Test.YtccekmeifanipaaGreatR27
namespace Go.Proofs.YtccekmeifanipaaGreat
set_option linter.unusedVariables false
set_option linter.unusedSimpArgs false
set_option linter.unusedSectionVars false
open Go.RowKit
structure Dw (base b:Nat) (s:Aa) (c:AP) (w:World) (e:Ending) (w' : World):Prop where
 out:∃ s' cm' r rv,e=.returned (.agg #[.int .i64 r.code,.int .i64 r.value,rv])∧AF base w' b s' cm'∧Fsm.command s.data c.d=((if cm' then Fsm.came s'.data else s'.data),r)∧Dt base w' rv r.allocs∧Step w w' b s s'
structure Lim (s:Aa):Prop where
 j:s.jobs.length≤1048575
 n:s.nodes.length≤1048575
 a:s.allocs.length≤1048576
 d:s.deploys.length≤1048575
 t:s.stable.length≤33554432
 e:s.evals.length≤16777216
def Eo (f:Nat) (op:Int):Prop:=∀ (base b:Nat) (s:Aa) (c:AP) (w:World),c.op=op→AF base w b s false→DZ base w c→base≤w.heap.size→Lim s→Fsm.Wf s.data →
 Calls Tryz.prog f #[.pointer (some ⟨b,0,none⟩),.agg c.arr] w fun e w'=>Dw base b s c w e w'
namespace Fsm
theorem Cf {s:Ab} {c:Bi} {op:Int} (h:c.op=op):command s c=(if op=1 ∨ op=2 then (s,⟨0,0,[]⟩) else
 if op=3 then BK s c else if op=4 then cancel s c else if op=5 then register s c else
 if op=6 then Dv s c else if op=7 then down s c else if op=8 then drain s c else
 if op=9 then plan s c else if op=10 then revert s c else no s 50):=by subst h;rfl
end Fsm
theorem Dw.plain {base b:Nat} {s:Aa} {c:AP} {w w' : World} {e:Ending} {f:Ab × AR} (hf:Fsm.command s.data c.d=f) (h:∃ s' r,e=.returned (.agg (Ay r.code r.value))∧AF base w' b s' false∧f=(s'.data,r)∧r.allocs=[]∧Step w w' b s s'):Dw base b s c w e w':=by
 obtain ⟨s',r,rfl,hM,hd,ha,hs⟩:=h
 exact ⟨s',false,r,.slice none 0 0,rfl,hM,by rw [hf,hd];rfl,by rw [ha];exact Dt.nil _ _,hs⟩
theorem Dw.came {base b:Nat} {s:Aa} {c:AP} {w w' : World} {e:Ending} {f:Ab × AR} (hf:Fsm.command s.data c.d=f) (h:∃ s' cm' r,e=.returned (.agg (Ay r.code r.value))∧AF base w' b s' cm'∧f=((if cm' then Fsm.came s'.data else s'.data),r)∧r.allocs=[]∧Step w w' b s s'):Dw base b s c w e w':=by
 obtain ⟨s',cm',r,rfl,hM,hd,ha,hs⟩:=h
 exact ⟨s',cm',r,.slice none 0 0,rfl,hM,by rw [hf,hd],by rw [ha];exact Dt.nil _ _,hs⟩
theorem Rq {op:Int} (ho:op=1 ∨ op=2):Eo 49 op:=fun base b s c w h hM hc hb hl hw =>
 (SN base b s false c w hM).mono fun e w' ⟨h1,h2,h3⟩=>Dw.plain (Fsm.Cf (c:=c.d) h) ⟨s,⟨0,0,[]⟩,h1,h2,by rw [if_pos ho],rfl,h3⟩
theorem P9:Eo 50 3:=fun base b s c w h hM hc hb hl hw =>
 (QK base b s false c w hM hc hb hl.j hl.a hl.d hl.t (by have:=hl.e;omega) hw).mono fun e w' h1=>Dw.plain (Fsm.Cf (c:=c.d) h) h1
theorem Qz:Eo 51 4:=fun base b s c w h hM hc hb hl hw =>
 (QY base b s false c w hM hb (by have:=hl.j;omega) (by have:=hl.d;omega) (by have:=hl.e;omega) hw).mono fun e w' h1=>Dw.plain (Fsm.Cf (c:=c.d) h) h1
theorem Nf:Eo 52 5:=fun base b s c w h hM hc hb hl hw =>
 (Pi base b s c w hM hb (by have:=hl.j;omega) hl.n hl.a hl.e hw).mono fun e w' h1=>Dw.came (Fsm.Cf (c:=c.d) h) h1
theorem RY:Eo 53 6:=fun base b s c w h hM hc hb hl hw =>
 (Sr base b s c w hM hc hb (by have:=hl.j;omega) (by have:=hl.n;omega) hl.a (by have:=hl.d;omega) hl.t hl.e hw).mono fun e w' ⟨s',cm',r,rv,h1,h2,h3,h4,h5⟩=>⟨s',cm',r,rv,h1,h2,(Fsm.Cf (c:=c.d) h).trans h3,h4,h5⟩
theorem RL:Eo 54 7:=fun base b s c w h hM hc hb hl hw =>
 (Sa base b s false c w hM hb (by have:=hl.j;omega) (by have:=hl.n;omega) hl.a hl.e hw).mono fun e w' h1=>Dw.plain (Fsm.Cf (c:=c.d) h) h1
theorem Rj:Eo 55 8:=fun base b s c w h hM hc hb hl hw =>
 (RF base b s c w hM hb (by have:=hl.j;omega) (by have:=hl.n;omega) hl.a hl.e hw).mono fun e w' h1=>Dw.came (Fsm.Cf (c:=c.d) h) h1
theorem QC:Eo 57 10:=fun base b s c w h hM hc hb hl hw =>
 (Rb base b s false c w hM hb hl.j hl.a hl.d hl.t (by have:=hl.e;omega) hw).mono fun e w' h1=>Dw.plain (Fsm.Cf (c:=c.d) h) h1
theorem RV (hplan:Eo 56 9) {op:Int} {f:Nat} (h:EZ op IU=some f):Eo f op:=by
 simp only [IU,EZ] at h
 repeat' split at h
 all_goals (first|(focus (cases h;done))|(rename_i h0;cases h;subst h0;first|exact Rq (.inl rfl)|exact Rq (.inr rfl)|exact P9|exact Qz|exact Nf|exact RY|exact RL|exact Rj|exact hplan|exact QC))
theorem R8 {op:Int} (h:EZ op IU=none) {s:Ab} {c:Bi} (hc:c.op=op):Fsm.command s c=Fsm.no s 50:=by
 rw [Fsm.Cf hc]
 simp only [IU,EZ] at h
 repeat' split at h
 all_goals (first|(focus (cases h;done))|skip)
 rw [if_neg (by omega),if_neg (by omega),if_neg (by omega),if_neg (by omega),if_neg (by omega),if_neg (by omega),if_neg (by omega),if_neg (by omega),if_neg (by omega)]
end Go.Proofs.YtccekmeifanipaaGreat
