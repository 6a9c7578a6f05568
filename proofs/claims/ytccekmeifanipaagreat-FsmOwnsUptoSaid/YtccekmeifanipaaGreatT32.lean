/- Parts of the proof: MAll -/
import Derived.Test.YtccekmeifanipaaGreatT18
import Derived.Test.YtccekmeifanipaaGreatT26
import Derived.Test.YtccekmeifanipaaGreatT21
import Derived.Test.YtccekmeifanipaaGreatT27
import Derived.Test.YtccekmeifanipaaGreatT22
import Derived.Test.YtccekmeifanipaaGreatT24
import Derived.Test.YtccekmeifanipaaGreatT28
namespace Go.Proofs.YtccekmeifanipaaGreat
set_option linter.unusedVariables false
set_option linter.unusedSimpArgs false
set_option linter.unusedSectionVars false
open Go.RowKit
structure Dj (base b:Nat) (s:Aa) (c:Bl) (w:World) (e:Ending) (w' : World):Prop where
 out:∃ s' cm' r rv,e=.returned (.agg #[.int .i64 r.code,.int .i64 r.value,rv])∧Az base w' b s' cm'∧Fsm.command s.data c.d=((if cm' then Fsm.came s'.data else s'.data),r)∧CJ base w' rv r.allocs∧Step w w' b s s'
structure Lim (s:Aa):Prop where
 j:s.jobs.length≤1048575
 n:s.nodes.length≤1048575
 a:s.allocs.length≤1048576
 d:s.deploys.length≤1048575
 t:s.stable.length≤33554432
 e:s.evals.length≤16777216
def D9 (f:Nat) (op:Int):Prop:=∀ (base b:Nat) (s:Aa) (c:Bl) (w:World),c.op=op→Az base w b s false→Dx base w c→base≤w.heap.size→Lim s→Fsm.Wf s.data →
 Calls Tryz.prog f #[.pointer (some ⟨b,0,none⟩),.agg c.arr] w fun e w'=>Dj base b s c w e w'
namespace Fsm
theorem Ca {s:Ab} {c:BV} {op:Int} (h:c.op=op):command s c=(if op=1 ∨ op=2 then (s,⟨0,0,[]⟩) else
 if op=3 then BZ s c else if op=4 then cancel s c else if op=5 then register s c else
 if op=6 then Ec s c else if op=7 then down s c else if op=8 then drain s c else
 if op=9 then plan s c else if op=10 then revert s c else no s 50):=by subst h;rfl
end Fsm
theorem Dj.plain {base b:Nat} {s:Aa} {c:Bl} {w w' : World} {e:Ending} {f:Ab × AQ} (hf:Fsm.command s.data c.d=f) (h:∃ s' r,e=.returned (.agg (Au r.code r.value))∧Az base w' b s' false∧f=(s'.data,r)∧r.allocs=[]∧Step w w' b s s'):Dj base b s c w e w':=by
 obtain ⟨s',r,rfl,hM,hd,ha,hs⟩:=h
 exact ⟨s',false,r,.slice none 0 0,rfl,hM,by rw [hf,hd];rfl,by rw [ha];exact CJ.nil _ _,hs⟩
theorem Dj.came {base b:Nat} {s:Aa} {c:Bl} {w w' : World} {e:Ending} {f:Ab × AQ} (hf:Fsm.command s.data c.d=f) (h:∃ s' cm' r,e=.returned (.agg (Au r.code r.value))∧Az base w' b s' cm'∧f=((if cm' then Fsm.came s'.data else s'.data),r)∧r.allocs=[]∧Step w w' b s s'):Dj base b s c w e w':=by
 obtain ⟨s',cm',r,rfl,hM,hd,ha,hs⟩:=h
 exact ⟨s',cm',r,.slice none 0 0,rfl,hM,by rw [hf,hd],by rw [ha];exact CJ.nil _ _,hs⟩
theorem Qf {op:Int} (ho:op=1 ∨ op=2):D9 49 op:=fun base b s c w h hM hc hb hl hw =>
 (Rv base b s false c w hM).mono fun e w' ⟨h1,h2,h3⟩=>Dj.plain (Fsm.Ca (c:=c.d) h) ⟨s,⟨0,0,[]⟩,h1,h2,by rw [if_pos ho],rfl,h3⟩
theorem Ov:D9 50 3:=fun base b s c w h hM hc hb hl hw =>
 (PX base b s false c w hM hc hb hl.j hl.a hl.d hl.t (by have:=hl.e;omega) hw).mono fun e w' h1=>Dj.plain (Fsm.Ca (c:=c.d) h) h1
theorem Ow:D9 51 4:=fun base b s c w h hM hc hb hl hw =>
 (PR base b s false c w hM hb (by have:=hl.j;omega) (by have:=hl.d;omega) (by have:=hl.e;omega) hw).mono fun e w' h1=>Dj.plain (Fsm.Ca (c:=c.d) h) h1
theorem Mj:D9 52 5:=fun base b s c w h hM hc hb hl hw =>
 (NJ base b s c w hM hb (by have:=hl.j;omega) hl.n hl.a hl.e hw).mono fun e w' h1=>Dj.came (Fsm.Ca (c:=c.d) h) h1
theorem QP:D9 53 6:=fun base b s c w h hM hc hb hl hw =>
 (Re base b s c w hM hc hb (by have:=hl.j;omega) (by have:=hl.n;omega) hl.a (by have:=hl.d;omega) hl.t hl.e hw).mono fun e w' ⟨s',cm',r,rv,h1,h2,h3,h4,h5⟩=>⟨s',cm',r,rv,h1,h2,(Fsm.Ca (c:=c.d) h).trans h3,h4,h5⟩
theorem QJ:D9 54 7:=fun base b s c w h hM hc hb hl hw =>
 (Q6 base b s false c w hM hb (by have:=hl.j;omega) (by have:=hl.n;omega) hl.a hl.e hw).mono fun e w' h1=>Dj.plain (Fsm.Ca (c:=c.d) h) h1
theorem PM:D9 55 8:=fun base b s c w h hM hc hb hl hw =>
 (QH base b s c w hM hb (by have:=hl.j;omega) (by have:=hl.n;omega) hl.a hl.e hw).mono fun e w' h1=>Dj.came (Fsm.Ca (c:=c.d) h) h1
theorem Pb:D9 57 10:=fun base b s c w h hM hc hb hl hw =>
 (Pz base b s false c w hM hb hl.j hl.a hl.d hl.t (by have:=hl.e;omega) hw).mono fun e w' h1=>Dj.plain (Fsm.Ca (c:=c.d) h) h1
theorem QM (hplan:D9 56 9) {op:Int} {f:Nat} (h:Ey op Hm=some f):D9 f op:=by
 simp only [Hm,Ey] at h
 repeat' split at h
 all_goals (first|(focus (cases h;done))|(rename_i h0;cases h;subst h0;first|exact Qf (.inl rfl)|exact Qf (.inr rfl)|exact Ov|exact Ow|exact Mj|exact QP|exact QJ|exact PM|exact hplan|exact Pb))
theorem Qq {op:Int} (h:Ey op Hm=none) {s:Ab} {c:BV} (hc:c.op=op):Fsm.command s c=Fsm.no s 50:=by
 rw [Fsm.Ca hc]
 simp only [Hm,Ey] at h
 repeat' split at h
 all_goals (first|(focus (cases h;done))|skip)
 rw [if_neg (by omega),if_neg (by omega),if_neg (by omega),if_neg (by omega),if_neg (by omega),if_neg (by omega),if_neg (by omega),if_neg (by omega),if_neg (by omega)]
end Go.Proofs.YtccekmeifanipaaGreat
