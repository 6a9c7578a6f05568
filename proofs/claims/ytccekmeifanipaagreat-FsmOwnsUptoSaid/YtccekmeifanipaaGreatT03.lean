/- Parts of the proof: Spec Row Clone InsL InsEval -/
import Derived.Test.YtccekmeifanipaaGreatRows
import Derived.Deep.Cut
import Derived.Test.YtccekmeifanipaaGreatT02
import Derived.Shelf.Spec.SlicesInsert
import Derived.Lib.SliceRun
import Derived.Shelf.RegionOpenPlain
import Derived.StillTailTactics
import Derived.Lib.AppendZerosOnto
import Derived.Lib.Overlaps
import Derived.Laws.Externs
namespace Go.Proofs.YtccekmeifanipaaGreat
set_option linter.unusedVariables false
set_option linter.unusedSimpArgs false
set_option linter.unusedSectionVars false
section
open Go.RowKit
def inB (n a b:Int):Bool:=decide (a≤n) && decide (n≤b)
def D5 (r:Cg) (m:Int):Bool:=inB r.cpu 0 m && inB r.mem 0 m
def most:Int:=1152921504606846976
def Dc (a b:Cg):Option Cg:=if D5 a most && D5 b most && D5 ⟨a.cpu+b.cpu,a.mem+b.mem⟩ most then some ⟨a.cpu+b.cpu,a.mem+b.mem⟩ else none
def MN (o:Option Cg) (m:Cg):Bool:=match o with|some s=>decide (s.cpu≤m.cpu) && decide (s.mem≤m.mem)|none=>false
def GY (u a m:Cg):Bool:=MN (Dc u a) m
def Cg.v (r:Cg):Value:=.agg #[.int .i64 r.cpu,.int .i64 r.mem]
def Jd (o:Option Cg):Cg:=o.getD ⟨0,0⟩
theorem Bp (n a b:Int) (w:World):Calls Tryz.prog 85 #[.int .i64 n,.int .i64 a,.int .i64 b] w fun e w'=>e=.returned (.bool (inB n a b))∧w=w':=by
 by_cases h1:a≤n
 ·by_cases h2:n≤b
  ·have e:inB n a b=true:=by simp [inB,h1,h2]
   have H:=Lib.hid e
   clear e
   go_enter Tryz.func85,Tryz.ntmps85
   go_wp2
   go_ret
   exact ⟨by rw [H.out];rfl,rfl⟩
  have e:inB n a b=false:=by simp [inB,h2]
  have H:=Lib.hid e
  clear e
  go_enter Tryz.func85,Tryz.ntmps85
  go_wp2
  go_ret
  exact ⟨by rw [H.out];rfl,rfl⟩
 have e:inB n a b=false:=by simp [inB,h1]
 have H:=Lib.hid e
 clear e
 go_enter Tryz.func85,Tryz.ntmps85
 go_wp2
 go_ret
 exact ⟨by rw [H.out];rfl,rfl⟩
theorem MM (n m:Int) (bx:Nat) (w:World) (hb:Blk w bx 3 #[.int .i64 m]):Calls Tryz.prog 114 #[.int .i64 n,.pointer (some ⟨bx,0,none⟩)] w fun e w'=>e=.returned (.bool (inB n 0 m))∧w=w':=by
 have q:w.cell? ⟨bx,0,none⟩=some (.int .i64 m):=hb.cell 0
 go_enter Tryz.func114,Tryz.ntmps114
 go_wp2_with (go_at_call 85;refine (Bp _ _ _ _).mono ?_;rintro e w' ⟨rfl,rfl⟩)
 go_ret
 exact ⟨rfl,rfl⟩
theorem res_any (r:Cg) (m:Int) (w:World):Calls Tryz.prog 86 #[r.v,.int .i64 m] w fun e w'=>e=.returned (.bool (D5 r m))∧Ext Nothing w w':=by
 obtain ⟨c,d⟩:=r
 have hx:Ext Nothing w ((w.alloc (.cells #[.int .i64 c,.int .i64 d] 41)).alloc (.cells #[.int .i64 m] 3)):=((Ext.refl _ _).alloc _).alloc _
 have hb:Blk ((w.alloc (.cells #[.int .i64 c,.int .i64 d] 41)).alloc (.cells #[.int .i64 m] 3)) (w.heap.size+1) 3 #[.int .i64 m]:=Blk.new' _ _ _ (by simp)
 simp only [Cg.v]
 cases h1:inB c 0 m with
 | true =>
  have e:D5 ⟨c,d⟩ m=inB d 0 m:=by simp [D5,h1]
  have H:=Lib.hid e
  have H1:=Lib.hid h1
  clear e h1
  go_enter Tryz.func86,Tryz.ntmps86
  go_wp2_with (go_at_call 114;refine (MM _ m _ _ hb).mono ?_;rintro e w' ⟨rfl,rfl⟩;try rw [H1.out])
  go_ret
  exact ⟨by rw [H.out];rfl,hx⟩
 | false =>
  have e:D5 ⟨c,d⟩ m=false:=by simp [D5,h1]
  have H:=Lib.hid e
  have H1:=Lib.hid h1
  clear e h1
  go_enter Tryz.func86,Tryz.ntmps86
  go_wp2_with (go_at_call 114;refine (MM _ m _ _ hb).mono ?_;rintro e w' ⟨rfl,rfl⟩;try rw [H1.out])
  go_ret
  exact ⟨by rw [H.out];rfl,hx⟩
theorem Iu {r:Cg} {m:Int} (h:D5 r m=true):0≤r.cpu∧r.cpu≤m∧0≤r.mem∧r.mem≤m:=by
 simp [D5,inB] at h;omega
theorem J3:Bb Tryz.prog 41 2:=.of (by kernel_rfl)
theorem Cv (c d m:Int) (w:World):Calls Tryz.prog 86 #[.agg #[.int .i64 c,.int .i64 d],.int .i64 m] w fun e w'=>e=.returned (.bool (D5 ⟨c,d⟩ m))∧Ext Nothing w w':=res_any ⟨c,d⟩ m w
set_option maxHeartbeats 1000000 in
theorem Px (a b:Cg) (w:World):Calls Tryz.prog 149 #[a.v,b.v] w fun e w'=>e=.returned (.tuple #[(Jd (Dc a b)).v,.bool (Dc a b).isSome])∧Ext Nothing w w':=by
 obtain ⟨a1,a2⟩:=a
 obtain ⟨b1,b2⟩:=b
 simp only [Cg.v]
 have hx0:Ext Nothing w (((w.alloc (.cells #[.int .i64 a1,.int .i64 a2] 41)).alloc (.cells #[.int .i64 b1,.int .i64 b2] 41)).alloc (.cells #[.int .i64 0,.int .i64 0] 41)):=Ext.Ay
 have hA:Blk (((w.alloc (.cells #[.int .i64 a1,.int .i64 a2] 41)).alloc (.cells #[.int .i64 b1,.int .i64 b2] 41)).alloc (.cells #[.int .i64 0,.int .i64 0] 41)) w.heap.size 41 #[.int .i64 a1,.int .i64 a2]:=(Blk.new w _ _).e0 Ext.Ay
 have hB:Blk (((w.alloc (.cells #[.int .i64 a1,.int .i64 a2] 41)).alloc (.cells #[.int .i64 b1,.int .i64 b2] 41)).alloc (.cells #[.int .i64 0,.int .i64 0] 41)) (w.heap.size+1) 41 #[.int .i64 b1,.int .i64 b2]:=(Blk.new' (w.alloc (.cells #[.int .i64 a1,.int .i64 a2] 41)) _ _ (by simp)).e0 Ext.Ay
 have hC:Blk (((w.alloc (.cells #[.int .i64 a1,.int .i64 a2] 41)).alloc (.cells #[.int .i64 b1,.int .i64 b2] 41)).alloc (.cells #[.int .i64 0,.int .i64 0] 41)) (w.heap.size+1+1) 41 #[.int .i64 0,.int .i64 0]:=Blk.new' _ _ _ (by simp)
 cases h1:D5 ⟨a1,a2⟩ 1152921504606846976 with
 | false =>
  have e:Dc ⟨a1,a2⟩ ⟨b1,b2⟩=none:=by simp [Dc,most,h1]
  have H:=Lib.hid e
  have H1:=Lib.hid h1
  clear e h1
  go_enter Tryz.func149,Tryz.ntmps149
  go_upto_region 1 with (fail)
  generalize ((w.alloc (.cells #[.int .i64 a1,.int .i64 a2] 41)).alloc (.cells #[.int .i64 b1,.int .i64 b2] 41)).alloc (.cells #[.int .i64 0,.int .i64 0] 41)=W0 at hx0 hA hB hC ⊢
  have x0:W0.cell? ⟨w.heap.size,0,none⟩=some (.int .i64 a1):=hA.cell 0
  have x1:W0.cell? ⟨w.heap.size,1,none⟩=some (.int .i64 a2):=hA.cell 1
  go_wp2_with (go_at_call 86;refine (Cv _ _ _ _).mono ?_;rintro e wn ⟨rfl,hn⟩;(try rw [H1.out]);have hA1:Blk wn w.heap.size 41 #[.int .i64 a1,.int .i64 a2]:=hA.ext (S:=Nothing) (by (with_reducible repeat' first|assumption|exact Ext.refl _ _|refine Ext.alloc ?_ _|refine Ext.drew ?_|refine Ext.drewN ?_ _|refine xS ?_ (by simp only [World.size_alloc,World.size_setCell,World.size_drew] <;> omega) _|refine Ext.tr ?_ (by assumption))) (fun e=>e);have hB1:Blk wn (w.heap.size+1) 41 #[.int .i64 b1,.int .i64 b2]:=hB.ext (S:=Nothing) (by (with_reducible repeat' first|assumption|exact Ext.refl _ _|refine Ext.alloc ?_ _|refine Ext.drew ?_|refine Ext.drewN ?_ _|refine xS ?_ (by simp only [World.size_alloc,World.size_setCell,World.size_drew] <;> omega) _|refine Ext.tr ?_ (by assumption))) (fun e=>e);have hC1:Blk wn (w.heap.size+1+1) 41 #[.int .i64 0,.int .i64 0]:=hC.ext (S:=Nothing) (by (with_reducible repeat' first|assumption|exact Ext.refl _ _|refine Ext.alloc ?_ _|refine Ext.drew ?_|refine Ext.drewN ?_ _|refine xS ?_ (by simp only [World.size_alloc,World.size_setCell,World.size_drew] <;> omega) _|refine Ext.tr ?_ (by assumption))) (fun e=>e);have p0:wn.cell? ⟨w.heap.size,0,none⟩=some (.int .i64 a1):=hA1.cell 0;have p1:wn.cell? ⟨w.heap.size,1,none⟩=some (.int .i64 a2):=hA1.cell 1;have q0:wn.cell? ⟨w.heap.size+1,0,none⟩=some (.int .i64 b1):=hB1.cell 0;have q1:wn.cell? ⟨w.heap.size+1,1,none⟩=some (.int .i64 b2):=hB1.cell 1;have r0:wn.cell? ⟨w.heap.size+1+1,0,none⟩=some (.int .i64 0):=hC1.cell 0;have r1:wn.cell? ⟨w.heap.size+1+1,1,none⟩=some (.int .i64 0):=hC1.cell 1;have f0:wn.frozen? ⟨w.heap.size+1+1,0,none⟩=false:=hC1.frozen 0;have f1:wn.frozen? ⟨w.heap.size+1+1,1,none⟩=false:=hC1.frozen 1)
  refine bodyPost_ret (results_cell_tmp rfl J3 (g:=w.heap.size+1+1) rfl ((hC1.Bi 0 _).Bi 1 _) rfl) rfl ⟨by rw [H.out];rfl,?_⟩
  have:=hx0.size
  (with_reducible repeat' first|assumption|exact Ext.refl _ _|refine Ext.alloc ?_ _|refine Ext.drew ?_|refine Ext.drewN ?_ _|refine xS ?_ (by simp only [World.size_alloc,World.size_setCell,World.size_drew] <;> omega) _|refine Ext.tr ?_ (by assumption))
 | true =>
  cases h2:D5 ⟨b1,b2⟩ 1152921504606846976 with
  | false =>
   have e:Dc ⟨a1,a2⟩ ⟨b1,b2⟩=none:=by simp [Dc,most,h2]
   have H:=Lib.hid e
   have H1:=Lib.hid h1
   have H2:=Lib.hid h2
   clear e h1 h2
   go_enter Tryz.func149,Tryz.ntmps149
   go_upto_region 1 with (fail)
   generalize ((w.alloc (.cells #[.int .i64 a1,.int .i64 a2] 41)).alloc (.cells #[.int .i64 b1,.int .i64 b2] 41)).alloc (.cells #[.int .i64 0,.int .i64 0] 41)=W0 at hx0 hA hB hC ⊢
   have x0:W0.cell? ⟨w.heap.size,0,none⟩=some (.int .i64 a1):=hA.cell 0
   have x1:W0.cell? ⟨w.heap.size,1,none⟩=some (.int .i64 a2):=hA.cell 1
   go_wp2_with (go_at_call 86;refine (Cv _ _ _ _).mono ?_;rintro e wn ⟨rfl,hn⟩;(try rw [H1.out]);(try rw [H2.out]);have hA1:Blk wn w.heap.size 41 #[.int .i64 a1,.int .i64 a2]:=hA.ext (S:=Nothing) (by (with_reducible repeat' first|assumption|exact Ext.refl _ _|refine Ext.alloc ?_ _|refine Ext.drew ?_|refine Ext.drewN ?_ _|refine xS ?_ (by simp only [World.size_alloc,World.size_setCell,World.size_drew] <;> omega) _|refine Ext.tr ?_ (by assumption))) (fun e=>e);have hB1:Blk wn (w.heap.size+1) 41 #[.int .i64 b1,.int .i64 b2]:=hB.ext (S:=Nothing) (by (with_reducible repeat' first|assumption|exact Ext.refl _ _|refine Ext.alloc ?_ _|refine Ext.drew ?_|refine Ext.drewN ?_ _|refine xS ?_ (by simp only [World.size_alloc,World.size_setCell,World.size_drew] <;> omega) _|refine Ext.tr ?_ (by assumption))) (fun e=>e);have hC1:Blk wn (w.heap.size+1+1) 41 #[.int .i64 0,.int .i64 0]:=hC.ext (S:=Nothing) (by (with_reducible repeat' first|assumption|exact Ext.refl _ _|refine Ext.alloc ?_ _|refine Ext.drew ?_|refine Ext.drewN ?_ _|refine xS ?_ (by simp only [World.size_alloc,World.size_setCell,World.size_drew] <;> omega) _|refine Ext.tr ?_ (by assumption))) (fun e=>e);have p0:wn.cell? ⟨w.heap.size,0,none⟩=some (.int .i64 a1):=hA1.cell 0;have p1:wn.cell? ⟨w.heap.size,1,none⟩=some (.int .i64 a2):=hA1.cell 1;have q0:wn.cell? ⟨w.heap.size+1,0,none⟩=some (.int .i64 b1):=hB1.cell 0;have q1:wn.cell? ⟨w.heap.size+1,1,none⟩=some (.int .i64 b2):=hB1.cell 1;have r0:wn.cell? ⟨w.heap.size+1+1,0,none⟩=some (.int .i64 0):=hC1.cell 0;have r1:wn.cell? ⟨w.heap.size+1+1,1,none⟩=some (.int .i64 0):=hC1.cell 1;have f0:wn.frozen? ⟨w.heap.size+1+1,0,none⟩=false:=hC1.frozen 0;have f1:wn.frozen? ⟨w.heap.size+1+1,1,none⟩=false:=hC1.frozen 1)
   refine bodyPost_ret (results_cell_tmp rfl J3 (g:=w.heap.size+1+1) rfl ((hC1.Bi 0 _).Bi 1 _) rfl) rfl ⟨by rw [H.out];rfl,?_⟩
   have:=hx0.size
   (with_reducible repeat' first|assumption|exact Ext.refl _ _|refine Ext.alloc ?_ _|refine Ext.drew ?_|refine Ext.drewN ?_ _|refine xS ?_ (by simp only [World.size_alloc,World.size_setCell,World.size_drew] <;> omega) _|refine Ext.tr ?_ (by assumption))
  | true =>
   obtain ⟨k1,k2,k3,k4⟩:=Iu h1
   obtain ⟨l1,l2,l3,l4⟩:=Iu h2
   simp only at k1 k2 k3 k4 l1 l2 l3 l4
   cases h3:D5 ⟨a1+b1,a2+b2⟩ 1152921504606846976 with
   | false =>
    have e:Dc ⟨a1,a2⟩ ⟨b1,b2⟩=none:=by simp [Dc,most,h1,h2,h3]
    have H:=Lib.hid e
    have H1:=Lib.hid h1
    have H2:=Lib.hid h2
    have H3:=Lib.hid h3
    clear e h1 h2 h3
    go_enter Tryz.func149,Tryz.ntmps149
    go_upto_region 1 with (fail)
    generalize ((w.alloc (.cells #[.int .i64 a1,.int .i64 a2] 41)).alloc (.cells #[.int .i64 b1,.int .i64 b2] 41)).alloc (.cells #[.int .i64 0,.int .i64 0] 41)=W0 at hx0 hA hB hC ⊢
    have x0:W0.cell? ⟨w.heap.size,0,none⟩=some (.int .i64 a1):=hA.cell 0
    have x1:W0.cell? ⟨w.heap.size,1,none⟩=some (.int .i64 a2):=hA.cell 1
    go_upto_region 4 with (go_at_call 86;refine (Cv _ _ _ _).mono ?_;rintro e wn ⟨rfl,hn⟩;(try rw [H1.out]);(try rw [H2.out]);have hA1:Blk wn w.heap.size 41 #[.int .i64 a1,.int .i64 a2]:=hA.ext (S:=Nothing) (by (with_reducible repeat' first|assumption|exact Ext.refl _ _|refine Ext.alloc ?_ _|refine Ext.drew ?_|refine Ext.drewN ?_ _|refine xS ?_ (by simp only [World.size_alloc,World.size_setCell,World.size_drew] <;> omega) _|refine Ext.tr ?_ (by assumption))) (fun e=>e);have hB1:Blk wn (w.heap.size+1) 41 #[.int .i64 b1,.int .i64 b2]:=hB.ext (S:=Nothing) (by (with_reducible repeat' first|assumption|exact Ext.refl _ _|refine Ext.alloc ?_ _|refine Ext.drew ?_|refine Ext.drewN ?_ _|refine xS ?_ (by simp only [World.size_alloc,World.size_setCell,World.size_drew] <;> omega) _|refine Ext.tr ?_ (by assumption))) (fun e=>e);have hC1:Blk wn (w.heap.size+1+1) 41 #[.int .i64 0,.int .i64 0]:=hC.ext (S:=Nothing) (by (with_reducible repeat' first|assumption|exact Ext.refl _ _|refine Ext.alloc ?_ _|refine Ext.drew ?_|refine Ext.drewN ?_ _|refine xS ?_ (by simp only [World.size_alloc,World.size_setCell,World.size_drew] <;> omega) _|refine Ext.tr ?_ (by assumption))) (fun e=>e);have p0:wn.cell? ⟨w.heap.size,0,none⟩=some (.int .i64 a1):=hA1.cell 0;have p1:wn.cell? ⟨w.heap.size,1,none⟩=some (.int .i64 a2):=hA1.cell 1;have q0:wn.cell? ⟨w.heap.size+1,0,none⟩=some (.int .i64 b1):=hB1.cell 0;have q1:wn.cell? ⟨w.heap.size+1,1,none⟩=some (.int .i64 b2):=hB1.cell 1;have r0:wn.cell? ⟨w.heap.size+1+1,0,none⟩=some (.int .i64 0):=hC1.cell 0;have r1:wn.cell? ⟨w.heap.size+1+1,1,none⟩=some (.int .i64 0):=hC1.cell 1;have f0:wn.frozen? ⟨w.heap.size+1+1,0,none⟩=false:=hC1.frozen 0;have f1:wn.frozen? ⟨w.heap.size+1+1,1,none⟩=false:=hC1.frozen 1)
    have hD:Blk (wn.alloc (.cells #[.int .i64 (a1+b1),.int .i64 (a2+b2)] 41)) wn.heap.size 41 #[.int .i64 (a1+b1),.int .i64 (a2+b2)]:=Blk.new _ _ _
    have hn4:Ext Nothing wn (wn.alloc (.cells #[.int .i64 (a1+b1),.int .i64 (a2+b2)] 41)):=Ext.Ay
    generalize wn.alloc (.cells #[.int .i64 (a1+b1),.int .i64 (a2+b2)] 41)=W4 at hD hn4 ⊢
    have d0:W4.cell? ⟨wn.heap.size,0,none⟩=some (.int .i64 (a1+b1)):=hD.cell 0
    have d1:W4.cell? ⟨wn.heap.size,1,none⟩=some (.int .i64 (a2+b2)):=hD.cell 1
    go_wp2_with (go_at_call 86;refine (Cv _ _ _ _).mono ?_;rintro e w5 ⟨rfl,hn5⟩;rw [H3.out];have hD5:=hD.e0 hn5;have hC5:Blk w5 (w.heap.size+1+1) 41 #[.int .i64 0,.int .i64 0]:=hC.ext (S:=Nothing) (by (with_reducible repeat' first|assumption|exact Ext.refl _ _|refine Ext.alloc ?_ _|refine Ext.drew ?_|refine Ext.drewN ?_ _|refine xS ?_ (by simp only [World.size_alloc,World.size_setCell,World.size_drew] <;> omega) _|refine Ext.tr ?_ (by assumption))) (fun e=>e);have d0:w5.cell? ⟨wn.heap.size,0,none⟩=some (.int .i64 (a1+b1)):=hD5.cell 0;have d1:w5.cell? ⟨wn.heap.size,1,none⟩=some (.int .i64 (a2+b2)):=hD5.cell 1;have r0:w5.cell? ⟨w.heap.size+1+1,0,none⟩=some (.int .i64 0):=hC5.cell 0;have r1:w5.cell? ⟨w.heap.size+1+1,1,none⟩=some (.int .i64 0):=hC5.cell 1;have f0:w5.frozen? ⟨w.heap.size+1+1,0,none⟩=false:=hC5.frozen 0;have f1:w5.frozen? ⟨w.heap.size+1+1,1,none⟩=false:=hC5.frozen 1)
    refine bodyPost_ret (results_cell_tmp rfl J3 (g:=w.heap.size+1+1) rfl ((hC5.Bi 0 _).Bi 1 _) rfl) rfl ⟨by rw [H.out];rfl,?_⟩
    have:=hx0.size
    (with_reducible repeat' first|assumption|exact Ext.refl _ _|refine Ext.alloc ?_ _|refine Ext.drew ?_|refine Ext.drewN ?_ _|refine xS ?_ (by simp only [World.size_alloc,World.size_setCell,World.size_drew] <;> omega) _|refine Ext.tr ?_ (by assumption))
   | true =>
    have e:Dc ⟨a1,a2⟩ ⟨b1,b2⟩=some ⟨a1+b1,a2+b2⟩:=by simp [Dc,most,h1,h2,h3]
    have H:=Lib.hid e
    have H1:=Lib.hid h1
    have H2:=Lib.hid h2
    have H3:=Lib.hid h3
    clear e h1 h2 h3
    go_enter Tryz.func149,Tryz.ntmps149
    go_upto_region 1 with (fail)
    generalize ((w.alloc (.cells #[.int .i64 a1,.int .i64 a2] 41)).alloc (.cells #[.int .i64 b1,.int .i64 b2] 41)).alloc (.cells #[.int .i64 0,.int .i64 0] 41)=W0 at hx0 hA hB hC ⊢
    have x0:W0.cell? ⟨w.heap.size,0,none⟩=some (.int .i64 a1):=hA.cell 0
    have x1:W0.cell? ⟨w.heap.size,1,none⟩=some (.int .i64 a2):=hA.cell 1
    go_upto_region 4 with (go_at_call 86;refine (Cv _ _ _ _).mono ?_;rintro e wn ⟨rfl,hn⟩;(try rw [H1.out]);(try rw [H2.out]);have hA1:Blk wn w.heap.size 41 #[.int .i64 a1,.int .i64 a2]:=hA.ext (S:=Nothing) (by (with_reducible repeat' first|assumption|exact Ext.refl _ _|refine Ext.alloc ?_ _|refine Ext.drew ?_|refine Ext.drewN ?_ _|refine xS ?_ (by simp only [World.size_alloc,World.size_setCell,World.size_drew] <;> omega) _|refine Ext.tr ?_ (by assumption))) (fun e=>e);have hB1:Blk wn (w.heap.size+1) 41 #[.int .i64 b1,.int .i64 b2]:=hB.ext (S:=Nothing) (by (with_reducible repeat' first|assumption|exact Ext.refl _ _|refine Ext.alloc ?_ _|refine Ext.drew ?_|refine Ext.drewN ?_ _|refine xS ?_ (by simp only [World.size_alloc,World.size_setCell,World.size_drew] <;> omega) _|refine Ext.tr ?_ (by assumption))) (fun e=>e);have hC1:Blk wn (w.heap.size+1+1) 41 #[.int .i64 0,.int .i64 0]:=hC.ext (S:=Nothing) (by (with_reducible repeat' first|assumption|exact Ext.refl _ _|refine Ext.alloc ?_ _|refine Ext.drew ?_|refine Ext.drewN ?_ _|refine xS ?_ (by simp only [World.size_alloc,World.size_setCell,World.size_drew] <;> omega) _|refine Ext.tr ?_ (by assumption))) (fun e=>e);have p0:wn.cell? ⟨w.heap.size,0,none⟩=some (.int .i64 a1):=hA1.cell 0;have p1:wn.cell? ⟨w.heap.size,1,none⟩=some (.int .i64 a2):=hA1.cell 1;have q0:wn.cell? ⟨w.heap.size+1,0,none⟩=some (.int .i64 b1):=hB1.cell 0;have q1:wn.cell? ⟨w.heap.size+1,1,none⟩=some (.int .i64 b2):=hB1.cell 1;have r0:wn.cell? ⟨w.heap.size+1+1,0,none⟩=some (.int .i64 0):=hC1.cell 0;have r1:wn.cell? ⟨w.heap.size+1+1,1,none⟩=some (.int .i64 0):=hC1.cell 1;have f0:wn.frozen? ⟨w.heap.size+1+1,0,none⟩=false:=hC1.frozen 0;have f1:wn.frozen? ⟨w.heap.size+1+1,1,none⟩=false:=hC1.frozen 1)
    have hD:Blk (wn.alloc (.cells #[.int .i64 (a1+b1),.int .i64 (a2+b2)] 41)) wn.heap.size 41 #[.int .i64 (a1+b1),.int .i64 (a2+b2)]:=Blk.new _ _ _
    have hn4:Ext Nothing wn (wn.alloc (.cells #[.int .i64 (a1+b1),.int .i64 (a2+b2)] 41)):=Ext.Ay
    generalize wn.alloc (.cells #[.int .i64 (a1+b1),.int .i64 (a2+b2)] 41)=W4 at hD hn4 ⊢
    have d0:W4.cell? ⟨wn.heap.size,0,none⟩=some (.int .i64 (a1+b1)):=hD.cell 0
    have d1:W4.cell? ⟨wn.heap.size,1,none⟩=some (.int .i64 (a2+b2)):=hD.cell 1
    go_wp2_with (go_at_call 86;refine (Cv _ _ _ _).mono ?_;rintro e w5 ⟨rfl,hn5⟩;rw [H3.out];have hD5:=hD.e0 hn5;have hC5:Blk w5 (w.heap.size+1+1) 41 #[.int .i64 0,.int .i64 0]:=hC.ext (S:=Nothing) (by (with_reducible repeat' first|assumption|exact Ext.refl _ _|refine Ext.alloc ?_ _|refine Ext.drew ?_|refine Ext.drewN ?_ _|refine xS ?_ (by simp only [World.size_alloc,World.size_setCell,World.size_drew] <;> omega) _|refine Ext.tr ?_ (by assumption))) (fun e=>e);have d0:w5.cell? ⟨wn.heap.size,0,none⟩=some (.int .i64 (a1+b1)):=hD5.cell 0;have d1:w5.cell? ⟨wn.heap.size,1,none⟩=some (.int .i64 (a2+b2)):=hD5.cell 1;have r0:w5.cell? ⟨w.heap.size+1+1,0,none⟩=some (.int .i64 0):=hC5.cell 0;have r1:w5.cell? ⟨w.heap.size+1+1,1,none⟩=some (.int .i64 0):=hC5.cell 1;have f0:w5.frozen? ⟨w.heap.size+1+1,0,none⟩=false:=hC5.frozen 0;have f1:w5.frozen? ⟨w.heap.size+1+1,1,none⟩=false:=hC5.frozen 1)
    refine bodyPost_ret (results_cell_tmp rfl J3 (g:=w.heap.size+1+1) rfl ((hC5.Bi 0 _).Bi 1 _) rfl) rfl ⟨by rw [H.out];rfl,?_⟩
    have:=hx0.size
    (with_reducible repeat' first|assumption|exact Ext.refl _ _|refine Ext.alloc ?_ _|refine Ext.drew ?_|refine Ext.drewN ?_ _|refine xS ?_ (by simp only [World.size_alloc,World.size_setCell,World.size_drew] <;> omega) _|refine Ext.tr ?_ (by assumption))
end
section
open Go.RowKit
theorem Bh {P:Program} (w:World) (dT sT ty elem:TypeId) (sz b o dLen dCap:Nat) (a:Addr) (sLen sCap:Nat) (cs:List Value)
  (hu:P.underlying dT=some (.slice elem)) (hs:(P.info? elem).map (·.size)=some sz) (hn:cs.length=Nat.min sLen dLen*sz)
  (hsrc:∀ j v,cs[j]? = some v→w.cell? (a.add j)=some v) (hc:∀ j,j < cs.length→(w.cell? ⟨b,o+j,none⟩).isSome=true) (hf:∀ j,j < cs.length→w.frozen? ⟨b,o+j,none⟩=false) (h1:∀ v∈cs,v.oneCell' = true) :
  (Builtin.copy_ #[dT,sT] ty #[.slice (some ⟨b,o,none⟩) dLen dCap,.slice (some a) sLen sCap]).run P w=.ok (goInt (Nat.min sLen dLen)) (w.setCells b o cs):=by
 have hl:=run_loadCells_list (P:=P) w a cs hsrc
 have hst:=run_storeCells_cells (P:=P) b o cs 0 w (by simpa using hc) (by simpa using hf) h1
 cases hq:P.info? elem with
 | none=>simp [hq] at hs
 | some i =>
  have hi:i.size=sz:=by simpa [hq] using hs
  simp [Builtin.copy_,run_underlying hu,Builtin.lenOf,Builtin.firstCells,sizeOf,typeInfo,hq,hi,← hn,hl,hst]
theorem Blk.setCells {g:Nat} {t:TypeId}:∀ (vs:List Value) (o:Nat) (w:World) (cs:Array Value),Blk w g t cs→o+vs.length≤cs.size →
  ∃ cs',Blk (w.setCells g o vs) g t cs'∧cs'.toList=cs.toList.take o ++ vs ++ cs.toList.drop (o+vs.length)∧cs'.size=cs.size
 | [],o,w,cs,h,_=>⟨cs,h,by simp,rfl⟩
 | v :: r,o,w,cs,h,ho=>by
  simp only [List.length_cons] at ho
  obtain ⟨cs',h1,h2,h3⟩:=Blk.setCells r (o+1) (w.setCell ⟨g,o,none⟩ v) (cs.setIfInBounds o v) (h.Bi o v) (by simp;omega)
  refine ⟨cs',h1,?_,by rw [h3];simp⟩
  have hlt:o < cs.toList.length:=by simp;omega
  rw [h2,Array.toList_setIfInBounds,List.length_cons]
  have e1:(cs.toList.set o v).take (o+1)=cs.toList.take o ++ [v]:=by
   rw [List.set_eq_take_append_cons_drop,if_pos hlt]
   have hm:(cs.toList.take o).length=o:=by rw [List.length_take];omega
   rw [List.take_append,hm,List.take_of_length_le (by omega),show o+1 - o=1 by omega]
   simp
  have e2:(cs.toList.set o v).drop (o+1+r.length)=cs.toList.drop (o+(r.length+1)):=by
   rw [List.drop_set_of_lt (by omega),show o+1+r.length=o+(r.length+1) by omega]
  rw [e1,e2]
  simp [List.append_assoc]
theorem Ext.setCells {S:Nat→Prop} {w:World} {g:Nat}:∀ (vs:List Value) (o:Nat) {w' : World},Ext S w w'→(w.heap.size≤g ∨ S g)→Ext S w (w'.setCells g o vs)
 | [],o,w',h,_=>h
 | v :: r,o,w',h,hg=>Ext.setCells r (o+1) (h.setCell (p:=⟨g,o,none⟩) hg v) hg
end
section
open Go.RowKit
theorem EF:Bg Tryz.prog 24 43 8:=.of (by kernel_rfl)
theorem H7 (x:NodD):(NodD.cells x).length=8:=rfl
set_option maxHeartbeats 1000000 in
theorem Gv (A:Option Addr) (n cap:Nat) (l:List (NodD)) (w:World) (hl:Sl w 8 A n (l.map NodD.cells)) (hn:n≤67108864) :
  Calls Tryz.prog 44 #[.slice A n cap] w fun e w'=>∃ v',e=.returned v'∧w'.ownsRow w.heap.size 43 8 v' l.length (l.flatMap NodD.cells)∧Ext Nothing w w':=by
 have q22:∀ (w:World) (a:Option Addr) (n c n' c' : Nat),(binOp .eql 24 (.slice a n c) (.slice none n' c')).run Tryz.prog w=.ok (.bool a.isNone) w:=fun w a n c n' c'=>Lib.run_eql_slice_nil w _ _ a n c n' c' EF.under
 have hlen:=hl.len
 have hone:∀ y∈l.map NodD.cells,y.all Value.oneCell' = true:=fun y hy=>by
  obtain ⟨x,hx,rfl⟩:=List.mem_map.1 hy
  rfl
 have HL:=Lib.hid hlen
 have HO:=Lib.hid hone
 clear hone hlen
 cases A with
 | none =>
  go_enter Tryz.func44,Tryz.ntmps44
  go_wp2
  go_ret
  have h0:l=[]:=by
   cases l with
   | nil=>rfl
   | cons x r=>obtain ⟨_,_,h,_⟩:=hl.2 0 _ rfl;cases h
  subst h0
  exact ⟨_,rfl,World.ownsRow_nil _ _ _ _,Ext.refl _ _⟩
 | some ad =>
  go_enter Tryz.func44,Tryz.ntmps44
  go_wp2_with (at_builtin;refine CP rfl _ _ 24 rfl w.heap.size EF _ 0 [] rfl (World.ownsRow_made w #[] 0 (Nat.le_refl _) (Nat.zero_le _) (by simp)) ad n cap (l.map NodD.cells) rfl (hl.Al ((Ext.refl _ _).alloc _)) HO.out (by omega) (by simp) ?_)
  intro v' w1 hown hgrow
  go_wp2
  go_ret
  have h1:(l.map NodD.cells).flatten=l.flatMap NodD.cells:=rfl
  rw [h1,HL.out] at hown
  exact ⟨v',rfl,hown,Ext.grown (by (with_reducible repeat' first|assumption|exact Ext.refl _ _|refine Ext.alloc ?_ _|refine Ext.drew ?_|refine Ext.drewN ?_ _|refine xS ?_ (by simp only [World.size_alloc,World.size_setCell,World.size_drew] <;> omega) _|refine Ext.tr ?_ (by assumption))) hgrow (fun g e=>.inl (by simp [Value.ownBlock] at e;omega))⟩
theorem MZ:Bg Tryz.prog 25 55 11:=.of (by kernel_rfl)
set_option maxHeartbeats 1000000 in
theorem FN (A:Option Addr) (n cap:Nat) (l:List (Ac)) (w:World) (hl:Sl w 11 A n (l.map Ac.cells)) (hn:n≤67108864) :
  Calls Tryz.prog 45 #[.slice A n cap] w fun e w'=>∃ v',e=.returned v'∧w'.ownsRow w.heap.size 55 11 v' l.length (l.flatMap Ac.cells)∧Ext Nothing w w':=by
 have q22:∀ (w:World) (a:Option Addr) (n c n' c' : Nat),(binOp .eql 25 (.slice a n c) (.slice none n' c')).run Tryz.prog w=.ok (.bool a.isNone) w:=fun w a n c n' c'=>Lib.run_eql_slice_nil w _ _ a n c n' c' MZ.under
 have hlen:=hl.len
 have hone:∀ y∈l.map Ac.cells,y.all Value.oneCell' = true:=fun y hy=>by
  obtain ⟨x,hx,rfl⟩:=List.mem_map.1 hy
  rfl
 have HL:=Lib.hid hlen
 have HO:=Lib.hid hone
 clear hone hlen
 cases A with
 | none =>
  go_enter Tryz.func45,Tryz.ntmps45
  go_wp2
  go_ret
  have h0:l=[]:=by
   cases l with
   | nil=>rfl
   | cons x r=>obtain ⟨_,_,h,_⟩:=hl.2 0 _ rfl;cases h
  subst h0
  exact ⟨_,rfl,World.ownsRow_nil _ _ _ _,Ext.refl _ _⟩
 | some ad =>
  go_enter Tryz.func45,Tryz.ntmps45
  go_wp2_with (at_builtin;refine CP rfl _ _ 25 rfl w.heap.size MZ _ 0 [] rfl (World.ownsRow_made w #[] 0 (Nat.le_refl _) (Nat.zero_le _) (by simp)) ad n cap (l.map Ac.cells) rfl (hl.Al ((Ext.refl _ _).alloc _)) HO.out (by omega) (by simp) ?_)
  intro v' w1 hown hgrow
  go_wp2
  go_ret
  have h1:(l.map Ac.cells).flatten=l.flatMap Ac.cells:=rfl
  rw [h1,HL.out] at hown
  exact ⟨v',rfl,hown,Ext.grown (by (with_reducible repeat' first|assumption|exact Ext.refl _ _|refine Ext.alloc ?_ _|refine Ext.drew ?_|refine Ext.drewN ?_ _|refine xS ?_ (by simp only [World.size_alloc,World.size_setCell,World.size_drew] <;> omega) _|refine Ext.tr ?_ (by assumption))) hgrow (fun g e=>.inl (by simp [Value.ownBlock] at e;omega))⟩
theorem EE:Bg Tryz.prog 26 68 4:=.of (by kernel_rfl)
theorem H5 (x:EvalD):(EvalD.cells x).length=4:=rfl
set_option maxHeartbeats 1000000 in
theorem Gq (A:Option Addr) (n cap:Nat) (l:List (EvalD)) (w:World) (hl:Sl w 4 A n (l.map EvalD.cells)) (hn:n≤67108864) :
  Calls Tryz.prog 46 #[.slice A n cap] w fun e w'=>∃ v',e=.returned v'∧w'.ownsRow w.heap.size 68 4 v' l.length (l.flatMap EvalD.cells)∧Ext Nothing w w':=by
 have q22:∀ (w:World) (a:Option Addr) (n c n' c' : Nat),(binOp .eql 26 (.slice a n c) (.slice none n' c')).run Tryz.prog w=.ok (.bool a.isNone) w:=fun w a n c n' c'=>Lib.run_eql_slice_nil w _ _ a n c n' c' EE.under
 have hlen:=hl.len
 have hone:∀ y∈l.map EvalD.cells,y.all Value.oneCell' = true:=fun y hy=>by
  obtain ⟨x,hx,rfl⟩:=List.mem_map.1 hy
  rfl
 have HL:=Lib.hid hlen
 have HO:=Lib.hid hone
 clear hone hlen
 cases A with
 | none =>
  go_enter Tryz.func46,Tryz.ntmps46
  go_wp2
  go_ret
  have h0:l=[]:=by
   cases l with
   | nil=>rfl
   | cons x r=>obtain ⟨_,_,h,_⟩:=hl.2 0 _ rfl;cases h
  subst h0
  exact ⟨_,rfl,World.ownsRow_nil _ _ _ _,Ext.refl _ _⟩
 | some ad =>
  go_enter Tryz.func46,Tryz.ntmps46
  go_wp2_with (at_builtin;refine CP rfl _ _ 26 rfl w.heap.size EE _ 0 [] rfl (World.ownsRow_made w #[] 0 (Nat.le_refl _) (Nat.zero_le _) (by simp)) ad n cap (l.map EvalD.cells) rfl (hl.Al ((Ext.refl _ _).alloc _)) HO.out (by omega) (by simp) ?_)
  intro v' w1 hown hgrow
  go_wp2
  go_ret
  have h1:(l.map EvalD.cells).flatten=l.flatMap EvalD.cells:=rfl
  rw [h1,HL.out] at hown
  exact ⟨v',rfl,hown,Ext.grown (by (with_reducible repeat' first|assumption|exact Ext.refl _ _|refine Ext.alloc ?_ _|refine Ext.drew ?_|refine Ext.drewN ?_ _|refine xS ?_ (by simp only [World.size_alloc,World.size_setCell,World.size_drew] <;> omega) _|refine Ext.tr ?_ (by assumption))) hgrow (fun g e=>.inl (by simp [Value.ownBlock] at e;omega))⟩
theorem CW:Bg Tryz.prog 27 74 4:=.of (by kernel_rfl)
theorem Fv (x:DepD):(DepD.cells x).length=4:=rfl
set_option maxHeartbeats 1000000 in
theorem LJ (A:Option Addr) (n cap:Nat) (l:List (DepD)) (w:World) (hl:Sl w 4 A n (l.map DepD.cells)) (hn:n≤67108864) :
  Calls Tryz.prog 47 #[.slice A n cap] w fun e w'=>∃ v',e=.returned v'∧w'.ownsRow w.heap.size 74 4 v' l.length (l.flatMap DepD.cells)∧Ext Nothing w w':=by
 have q22:∀ (w:World) (a:Option Addr) (n c n' c' : Nat),(binOp .eql 27 (.slice a n c) (.slice none n' c')).run Tryz.prog w=.ok (.bool a.isNone) w:=fun w a n c n' c'=>Lib.run_eql_slice_nil w _ _ a n c n' c' CW.under
 have hlen:=hl.len
 have hone:∀ y∈l.map DepD.cells,y.all Value.oneCell' = true:=fun y hy=>by
  obtain ⟨x,hx,rfl⟩:=List.mem_map.1 hy
  rfl
 have HL:=Lib.hid hlen
 have HO:=Lib.hid hone
 clear hone hlen
 cases A with
 | none =>
  go_enter Tryz.func47,Tryz.ntmps47
  go_wp2
  go_ret
  have h0:l=[]:=by
   cases l with
   | nil=>rfl
   | cons x r=>obtain ⟨_,_,h,_⟩:=hl.2 0 _ rfl;cases h
  subst h0
  exact ⟨_,rfl,World.ownsRow_nil _ _ _ _,Ext.refl _ _⟩
 | some ad =>
  go_enter Tryz.func47,Tryz.ntmps47
  go_wp2_with (at_builtin;refine CP rfl _ _ 27 rfl w.heap.size CW _ 0 [] rfl (World.ownsRow_made w #[] 0 (Nat.le_refl _) (Nat.zero_le _) (by simp)) ad n cap (l.map DepD.cells) rfl (hl.Al ((Ext.refl _ _).alloc _)) HO.out (by omega) (by simp) ?_)
  intro v' w1 hown hgrow
  go_wp2
  go_ret
  have h1:(l.map DepD.cells).flatten=l.flatMap DepD.cells:=rfl
  rw [h1,HL.out] at hown
  exact ⟨v',rfl,hown,Ext.grown (by (with_reducible repeat' first|assumption|exact Ext.refl _ _|refine Ext.alloc ?_ _|refine Ext.drew ?_|refine Ext.drewN ?_ _|refine xS ?_ (by simp only [World.size_alloc,World.size_setCell,World.size_drew] <;> omega) _|refine Ext.tr ?_ (by assumption))) hgrow (fun g e=>.inl (by simp [Value.ownBlock] at e;omega))⟩
theorem Es:Bg Tryz.prog 28 89 5:=.of (by kernel_rfl)
theorem Hw (x:SeenV):(SeenV.cells x).length=5:=rfl
set_option maxHeartbeats 1000000 in
theorem NS (A:Option Addr) (n cap:Nat) (l:List (SeenV)) (w:World) (hl:Sl w 5 A n (l.map SeenV.cells)) (hn:n≤67108864) (hv:∀ x∈l,Value.oneCell' x.2=true) :
  Calls Tryz.prog 48 #[.slice A n cap] w fun e w'=>∃ v',e=.returned v'∧w'.ownsRow w.heap.size 89 5 v' l.length (l.flatMap SeenV.cells)∧Ext Nothing w w':=by
 have q22:∀ (w:World) (a:Option Addr) (n c n' c' : Nat),(binOp .eql 28 (.slice a n c) (.slice none n' c')).run Tryz.prog w=.ok (.bool a.isNone) w:=fun w a n c n' c'=>Lib.run_eql_slice_nil w _ _ a n c n' c' Es.under
 have hlen:=hl.len
 have hone:∀ y∈l.map SeenV.cells,y.all Value.oneCell' = true:=fun y hy=>by
  obtain ⟨x,hx,rfl⟩:=List.mem_map.1 hy
  have h:=hv x hx;simpa [SeenV.cells,Value.oneCell'] using h
 have HL:=Lib.hid hlen
 have HO:=Lib.hid hone
 clear hone hlen
 cases A with
 | none =>
  go_enter Tryz.func48,Tryz.ntmps48
  go_wp2
  go_ret
  have h0:l=[]:=by
   cases l with
   | nil=>rfl
   | cons x r=>obtain ⟨_,_,h,_⟩:=hl.2 0 _ rfl;cases h
  subst h0
  exact ⟨_,rfl,World.ownsRow_nil _ _ _ _,Ext.refl _ _⟩
 | some ad =>
  go_enter Tryz.func48,Tryz.ntmps48
  go_wp2_with (at_builtin;refine CP rfl _ _ 28 rfl w.heap.size Es _ 0 [] rfl (World.ownsRow_made w #[] 0 (Nat.le_refl _) (Nat.zero_le _) (by simp)) ad n cap (l.map SeenV.cells) rfl (hl.Al ((Ext.refl _ _).alloc _)) HO.out (by omega) (by simp) ?_)
  intro v' w1 hown hgrow
  go_wp2
  go_ret
  have h1:(l.map SeenV.cells).flatten=l.flatMap SeenV.cells:=rfl
  rw [h1,HL.out] at hown
  exact ⟨v',rfl,hown,Ext.grown (by (with_reducible repeat' first|assumption|exact Ext.refl _ _|refine Ext.alloc ?_ _|refine Ext.drew ?_|refine Ext.drewN ?_ _|refine xS ?_ (by simp only [World.size_alloc,World.size_setCell,World.size_drew] <;> omega) _|refine Ext.tr ?_ (by assumption))) hgrow (fun g e=>.inl (by simp [Value.ownBlock] at e;omega))⟩
theorem ML:Bg Tryz.prog 37 66 3:=.of (by kernel_rfl)
set_option maxHeartbeats 1000000 in
theorem FM (A:Option Addr) (n cap:Nat) (l:List (Ao)) (w:World) (hl:Sl w 3 A n (l.map Ao.cells)) (hn:n≤67108864) :
  Calls Tryz.prog 84 #[.slice A n cap] w fun e w'=>∃ v',e=.returned v'∧w'.ownsRow w.heap.size 66 3 v' l.length (l.flatMap Ao.cells)∧Ext Nothing w w':=by
 have q22:∀ (w:World) (a:Option Addr) (n c n' c' : Nat),(binOp .eql 37 (.slice a n c) (.slice none n' c')).run Tryz.prog w=.ok (.bool a.isNone) w:=fun w a n c n' c'=>Lib.run_eql_slice_nil w _ _ a n c n' c' ML.under
 have hlen:=hl.len
 have hone:∀ y∈l.map Ao.cells,y.all Value.oneCell' = true:=fun y hy=>by
  obtain ⟨x,hx,rfl⟩:=List.mem_map.1 hy
  rfl
 have HL:=Lib.hid hlen
 have HO:=Lib.hid hone
 clear hone hlen
 cases A with
 | none =>
  go_enter Tryz.func84,Tryz.ntmps84
  go_wp2
  go_ret
  have h0:l=[]:=by
   cases l with
   | nil=>rfl
   | cons x r=>obtain ⟨_,_,h,_⟩:=hl.2 0 _ rfl;cases h
  subst h0
  exact ⟨_,rfl,World.ownsRow_nil _ _ _ _,Ext.refl _ _⟩
 | some ad =>
  go_enter Tryz.func84,Tryz.ntmps84
  go_wp2_with (at_builtin;refine CP rfl _ _ 37 rfl w.heap.size ML _ 0 [] rfl (World.ownsRow_made w #[] 0 (Nat.le_refl _) (Nat.zero_le _) (by simp)) ad n cap (l.map Ao.cells) rfl (hl.Al ((Ext.refl _ _).alloc _)) HO.out (by omega) (by simp) ?_)
  intro v' w1 hown hgrow
  go_wp2
  go_ret
  have h1:(l.map Ao.cells).flatten=l.flatMap Ao.cells:=rfl
  rw [h1,HL.out] at hown
  exact ⟨v',rfl,hown,Ext.grown (by (with_reducible repeat' first|assumption|exact Ext.refl _ _|refine Ext.alloc ?_ _|refine Ext.drew ?_|refine Ext.drewN ?_ _|refine xS ?_ (by simp only [World.size_alloc,World.size_setCell,World.size_drew] <;> omega) _|refine Ext.tr ?_ (by assumption))) hgrow (fun g e=>.inl (by simp [Value.ownBlock] at e;omega))⟩
end
section
open Go.RowKit
theorem DW {cs a b X:List Value} {sz:Nat} (h:cs.take (a.length+b.length)=a ++ b) (hX:X.length=sz) (hl:a.length+sz+b.length≤cs.length) {c1 c2:List Value}
  (h1:c1=cs.take (a.length+sz) ++ b ++ cs.drop (a.length+sz+b.length)) (h2:c2=c1.take a.length ++ X ++ c1.drop (a.length+X.length)):c2.take (a.length+sz+b.length)=a ++ X ++ b:=by
 have ha:cs.take a.length=a:=by
  have:=congrArg (List.take a.length) h
  rw [List.take_take,Nat.min_eq_left (by omega)] at this
  simpa using this
 have e1:c1.take a.length=a:=by
  rw [h1,List.append_assoc,List.take_append_of_le_length (by rw [List.length_take];omega),List.take_take,Nat.min_eq_left (by omega),ha]
 have e2:c1.drop (a.length+X.length)=b ++ cs.drop (a.length+sz+b.length):=by
  rw [h1,List.append_assoc,hX,List.drop_append]
  have:(cs.take (a.length+sz)).length=a.length+sz:=by rw [List.length_take];omega
  rw [this,Nat.sub_self,List.drop_zero,List.drop_of_length_le (by omega),List.nil_append]
 rw [h2,e1,e2,← List.append_assoc,List.take_append_of_le_length (by simp;omega),List.take_of_length_le (by simp;omega)]
theorem Eh {R a b X:List Value} {sz:Nat} (h:R.take a.length=a) (hX:X.length=sz) (hl:a.length+sz+b.length≤R.length) {c1 c2:List Value}
  (h1:c1=R.take a.length ++ X ++ R.drop (a.length+X.length)) (h2:c2=c1.take (a.length+sz) ++ b ++ c1.drop (a.length+sz+b.length)):c2.take (a.length+sz+b.length)=a ++ X ++ b:=by
 have e1:c1.take (a.length+sz)=a ++ X:=by
  rw [h1,h,List.take_append_of_le_length (by simp;omega),List.take_of_length_le (by simp;omega)]
 rw [h2,e1,List.append_assoc,List.append_assoc,← List.append_assoc,← List.append_assoc,List.take_append_of_le_length (by simp;omega),List.take_of_length_le (by simp;omega)]
end
section
open Go.RowKit
theorem Hz (y:EvalD):∀ v∈EvalD.cells y,v.oneCell' = true:=by
 intro v hv
 simp only [EvalD.cells,List.mem_cons,List.not_mem_nil,or_false] at hv
 rcases hv with rfl|rfl|rfl|rfl <;> rfl
theorem Iy:(Tryz.prog.info? 68).map (·.size)=some 4:=by kernel_rfl
theorem QA (w:World) (b1 b2 o:Nat) (n1 c1 n2 c2:Nat) (cs1 cs2:Array Value) (h1:Blk w b1 68 cs1) (h2:Blk w b2 68 cs2) (hne:b1 ≠ b2) (hs:cs2.size ≠ 0) :
  (callFunc 139 #[.slice (some ⟨b1,0,none⟩) n1 c1,.slice (some ⟨b2,o,none⟩) n2 c2]).run Tryz.prog w=.ok (.value (.bool false)) w:=by
 have hz:∀ w,(Go.sizeOf 68).run Tryz.prog w=.ok 4 w:=fun w=>by kernel_rfl
 rw [run_callFunc_extern Tryz.func139 (by kernel_rfl) (by kernel_rfl) (by kernel_rfl) (e:=Extern.SlicesOverlaps.overlaps #[26,26] #[4]) (by kernel_rfl),
  Lib.run_overlaps_apart w 26 4 68 EE.under 4 hz ⟨b1,0,none⟩ ⟨b2,o,none⟩ n1 c1 n2 c2 hne 68 68 cs1.size cs2.size (by simp [World.shape?,show w.heap[b1]? = _ from h1]) (by simp [World.shape?,show w.heap[b2]? = _ from h2]) hs (h1.frozen _) (h1.frozen _)]
 rfl
set_option maxHeartbeats 4000000 in
set_option maxRecDepth 100000 in
theorem Ls (base g cap i bx:Nat) (l:List EvalD) (x:EvalD) (cs:Array Value) (w:World) (hg:Blk w g 68 cs) (hcs:cs.size=cap*4) (ht:cs.toList.take (l.length*4)=l.flatMap EvalD.cells)
  (hi:i < l.length) (hx:Blk w bx 68 (EvalD.cells x).toArray) (hne:bx ≠ g) (hcap:l.length+1≤cap) (hc63:cap≤9223372036854775807) (hl63:l.length≤67108862) :
  Calls Tryz.prog 118 #[.slice (some ⟨g,0,none⟩) l.length cap,.int .i64 i,.slice (some ⟨bx,0,none⟩) 1 1] w fun e w' =>
   e=.returned (.slice (some ⟨g,0,none⟩) (l.length+1) cap)∧(∃ cs',Blk w' g 68 cs'∧cs'.size=cap*4∧cs'.toList.take ((l.length+1)*4)=(l.take i ++ x :: l.drop i).flatMap EvalD.cells)∧Ext (fun b=>b=g) w w':=by
 obtain ⟨X,hXe⟩ : ∃ X,X=EvalD.cells x:=⟨_,rfl⟩
 have hXl:X.length=4:=by rw [hXe];exact H5 x
 have hXo:∀ v∈X,v.oneCell' = true:=by rw [hXe];exact Hz x
 rw [← hXe] at hx
 obtain ⟨n,hn⟩ : ∃ n,l.length=n:=⟨_,rfl⟩
 have HN:=Lib.hid hn
 rw [hn] at hi hcap ht ⊢
 have hc1:∀ (W:World),Blk W bx 68 X.toArray→Blk W g 68 cs→∀ o n2 c2,(callFunc 139 #[.slice (some ⟨bx,0,none⟩) 1 1,.slice (some ⟨g,o,none⟩) n2 c2]).run Tryz.prog W=.ok (.value (.bool false)) W :=
  fun W h1 h2 o n2 c2=>QA W bx g o 1 1 n2 c2 _ _ h1 h2 hne (by rw [hcs];omega)
 have hov:=hc1 w hx hg
 have hz2:¬ ((i:Int)=(n:Int)):=by omega
 have hw1:IntKind.i64.wrap ((i:Int)+1)=(i:Int)+1:=by rw [IntKind.wrap_i64];omega
 have hb1:(0:Int)≤(i:Int)+1:=by omega
 have htn:((i:Int)+1).toNat=i+1:=by omega
 have hb3:(i:Int)≤(n:Int)+1:=by omega
 have hin:i≤n:=by omega
 have hb2:¬ (cap=i+1):=by omega
 have hb4:¬ (cap=i):=by omega
 have mixed:Tryz.prog.follows Departure.mixedOrders=true:=by kernel_rfl
 have hone:∀ k:List EvalD,(∀ y∈k,y∈x :: l)→∀ v∈k.flatMap EvalD.cells,v.oneCell' = true:=fun k hk v hv=>by
  obtain ⟨y,hy1,hy⟩:=List.mem_flatMap.1 hv
  exact Hz y v hy
 have hfl:∀ l:List EvalD,(l.flatMap EvalD.cells).length=l.length*4:=BQ H5
 have hsplit:l.flatMap EvalD.cells=(l.take i).flatMap EvalD.cells ++ (l.drop i).flatMap EvalD.cells:=by rw [← List.flatMap_append,List.take_append_drop]
 have hla:((l.take i).flatMap EvalD.cells).length=i*4:=by rw [hfl,List.length_take];omega
 have hlb:((l.drop i).flatMap EvalD.cells).length=(n - i)*4:=by rw [hfl,List.length_drop];omega
 have hcell:∀ j u,((l.drop i).flatMap EvalD.cells)[j]? = some u→cs[i*4+j]? = some u:=fun j u hu=>by
  have hj:=(List.getElem?_eq_some_iff.1 hu).1
  have e1:(l.flatMap EvalD.cells)[i*4+j]? = some u:=by rw [hsplit,List.getElem?_append_right (by omega),hla,Nat.add_sub_cancel_left];exact hu
  rw [← ht,List.getElem?_take] at e1
  split at e1
  ·simpa using e1
  cases e1
 have hsz:(Tryz.prog.info? 68).map (·.size)=some 4:=Iy
 have hgd:Blk w.drew g 68 cs:=hg
 have hcp1:∀ ty dc sc,(Builtin.copy_ #[26,26] ty #[.slice (some ⟨g,(i+1)*4,none⟩) (n - i) dc,.slice (some ⟨g,i*4,none⟩) (n+1 - i) sc]).run Tryz.prog w.drew=.ok (goInt (Nat.min (n+1 - i) (n - i))) (w.drew.setCells g ((i+1)*4) ((l.drop i).flatMap EvalD.cells)):=fun ty dc sc =>
  Bh w.drew _ _ ty 68 4 g ((i+1)*4) (n - i) dc ⟨g,i*4,none⟩ (n+1 - i) sc _ EE.under hsz (by rw [hlb];simp only [Nat.min_def];split <;> omega)
   (fun j v hj=>by
    have hadd:(⟨g,i*4,none⟩ : Addr).add j=⟨g,i*4+j,none⟩:=by unfold Addr.add;split <;> simp_all
    rw [hadd,hgd.cell];exact hcell j v hj)
   (fun j hj=>by rw [hgd.cell,Array.getElem?_eq_getElem (by rw [hcs];rw [hlb] at hj;omega)];rfl) (fun j hj=>hgd.frozen _) (hone _ (fun y hy=>List.mem_cons_of_mem _ (List.mem_of_mem_drop hy)))
 obtain ⟨cs1,hB1,hl1,hz1⟩:=Blk.setCells ((l.drop i).flatMap EvalD.cells) ((i+1)*4) w.drew cs hgd (by rw [hlb,hcs];omega)
 have hX1:Ext (fun b=>b=g) w (w.drew.setCells g ((i+1)*4) ((l.drop i).flatMap EvalD.cells)):=Ext.setCells _ _ (Ext.refl _ _).drew (.inr rfl)
 obtain ⟨W1,hW1⟩ : ∃ W1,W1=w.drew.setCells g ((i+1)*4) ((l.drop i).flatMap EvalD.cells):=⟨_,rfl⟩
 rw [← hW1] at hcp1 hB1 hX1
 have hx1:Blk W1 bx 68 X.toArray:=hx.ext hX1 hne
 have hcp2:∀ ty dc,(Builtin.copy_ #[26,26] ty #[.slice (some ⟨g,i*4,none⟩) (n+1 - i) dc,.slice (some ⟨bx,0,none⟩) 1 1]).run Tryz.prog W1=.ok (goInt (Nat.min 1 (n+1 - i))) (W1.setCells g (i*4) (X)):=fun ty dc =>
  Bh W1 _ _ ty 68 4 g (i*4) (n+1 - i) dc ⟨bx,0,none⟩ 1 1 _ EE.under hsz (by rw [hXl];simp only [Nat.min_def];split <;> omega)
   (fun j v hj=>by
    have hadd:(⟨bx,0,none⟩ : Addr).add j=⟨bx,0+j,none⟩:=by unfold Addr.add;split <;> simp_all
    rw [hadd,hx1.cell,Nat.zero_add];simpa using hj)
   (fun j hj=>by rw [hB1.cell,Array.getElem?_eq_getElem (by rw [hz1,hcs];rw [hXl] at hj;omega)];rfl) (fun j hj=>hB1.frozen _) (fun v hv=>hXo v hv)
 obtain ⟨cs2,hB2,hl2,hz2'⟩:=Blk.setCells (X) (i*4) W1 cs1 hB1 (by rw [hXl,hz1,hcs];omega)
 have hX2:Ext (fun b=>b=g) w (W1.setCells g (i*4) (X)):=Ext.setCells _ _ hX1 (.inr rfl)
 have hfin:cs2.toList.take ((n+1)*4)=(l.take i ++ x :: l.drop i).flatMap EvalD.cells:=by
  have h0:=DW (cs:=cs.toList) (a:=(l.take i).flatMap EvalD.cells) (b:=(l.drop i).flatMap EvalD.cells) (X:=X) (sz:=4) (by rw [hla,hlb,← hsplit,← ht];congr 1;omega) hXl (by rw [hla,hlb,Array.length_toList,hcs];omega)
   (c1:=cs1.toList) (c2:=cs2.toList) (by rw [hl1,hla,show i*4+4=(i+1)*4 by omega]) (by rw [hl2,hla])
  rw [hla,hlb,show i*4+4+(n - i)*4=(n+1)*4 by omega] at h0
  rw [h0,List.flatMap_append,List.flatMap_cons,List.append_assoc,hXe]
 have hsz2:cs2.size=cap*4:=by rw [hz2',hz1,hcs]
 have HF:=Lib.hid hfin
 have HS2:=Lib.hid hsz2
 clear hW1 hl2 hz2' hfin hsz2
 have HT:=Lib.hid ht
 have HS:=Lib.hid hsplit
 have HL1:=Lib.hid hl1
 have HZ1:=Lib.hid hz1
 have HLA:=Lib.hid hla
 have HLB:=Lib.hid hlb
 have HC:=Lib.hid hcs
 have HSZ:=Lib.hid hsz
 clear hXo hXe hXl hc1 hn ht hcell hsplit hl1 hz1 hla hlb hone hcs hsz
 go_enter Tryz.func118,Tryz.ntmps118
 go_wp2_with (simp only [hov])
 go_region_law_o (refine step_copy_runI rfl _ _ 26 26 rfl _ _ (by simp [Act.eval,Act.put]) (by simp [Act.eval,Act.put]) (hcp1 _ _ _) ?_)
 go_wp2_with (at_builtin;refine wpList_copy_runI _ rfl _ _ 26 26 rfl _ _ rfl rfl (hcp2 _ _) ?_)
 go_ret
 exact ⟨rfl,⟨cs2,hB2,HS2.out,HF.out⟩,hX2⟩
set_option maxHeartbeats 4000000 in
set_option maxRecDepth 100000 in
theorem Lc (g cap i bx:Nat) (l:List EvalD) (x:EvalD) (cs:Array Value) (w:World) (hg:Blk w g 68 cs) (hcs:cs.size=cap*4) (ht:cs.toList.take (l.length*4)=l.flatMap EvalD.cells)
  (hi:i < l.length) (hx:Blk w bx 68 (EvalD.cells x).toArray) (hncap:l.length≤cap) (hcap:cap < l.length+1) (hc63:cap≤67108863) :
  Calls Tryz.prog 118 #[.slice (some ⟨g,0,none⟩) l.length cap,.int .i64 i,.slice (some ⟨bx,0,none⟩) 1 1] w fun e w' =>
   ∃ G,l.length+1≤G∧G≤maxLen∧e=.returned (.slice (some ⟨w.heap.size,0,none⟩) (l.length+1) G)∧(∃ cs',Blk w' w.heap.size 68 cs'∧cs'.size=G*4∧cs'.toList.take ((l.length+1)*4)=(l.take i ++ x :: l.drop i).flatMap EvalD.cells)∧Ext Nothing w w':=by
 obtain ⟨ht0,i0,z,hi0,hz0,hzs,hsz0,h0,hle,hby⟩:=EE
 obtain ⟨X,hXe⟩ : ∃ X,X=EvalD.cells x:=⟨_,rfl⟩
 have hXl:X.length=4:=by rw [hXe];exact H5 x
 have hXo:∀ v∈X,v.oneCell' = true:=by rw [hXe];exact Hz x
 rw [← hXe] at hx
 obtain ⟨n,hn⟩ : ∃ n,l.length=n:=⟨_,rfl⟩
 rw [hn] at hi hcap hncap ht ⊢
 have hz2:¬ ((i:Int)=(n:Int)):=by omega
 have hz3:(cap:Int) < (n:Int)+1:=by omega
 have hone:∀ k:List EvalD,(∀ y∈k,y∈x :: l)→∀ v∈k.flatMap EvalD.cells,v.oneCell' = true:=fun k hk v hv=>by
  obtain ⟨y,hy1,hy⟩:=List.mem_flatMap.1 hv
  exact Hz y v hy
 have hfl:∀ l:List EvalD,(l.flatMap EvalD.cells).length=l.length*4:=BQ H5
 have hsplit:l.flatMap EvalD.cells=(l.take i).flatMap EvalD.cells ++ (l.drop i).flatMap EvalD.cells:=by rw [← List.flatMap_append,List.take_append_drop]
 have hla:((l.take i).flatMap EvalD.cells).length=i*4:=by rw [hfl,List.length_take];omega
 have hlb:((l.drop i).flatMap EvalD.cells).length=(n - i)*4:=by rw [hfl,List.length_drop];omega
 have hcell:∀ j u,(l.flatMap EvalD.cells)[j]? = some u→cs[j]? = some u:=fun j u hu=>by
  rw [← ht,List.getElem?_take] at hu
  split at hu
  ·simpa using hu
  cases hu
 have hgw:=hg.lt
 have hkk:(n:Int)+1 - (i:Int)=((n+1 - i:Nat):Int):=by omega
 have hik:i+(n+1 - i)=n+1:=by omega
 have hold:(Builtin.firstCells i0.size i (.slice (some ⟨g,0,none⟩) i cap)).run Tryz.prog w.drew=.ok ((l.take i).flatMap EvalD.cells).toArray w.drew:=by
  rw [hsz0]
  exact run_firstCells_some w.drew 4 i ⟨g,0,none⟩ i cap _ (by rw [hla]) (fun j v hj=>by
   have hadd:(⟨g,0,none⟩ : Addr).add j=⟨g,0+j,none⟩:=by unfold Addr.add;split <;> simp_all
   have hgd:Blk w.drew g 68 cs:=hg
   rw [hadd,hgd.cell,Nat.zero_add]
   exact hcell j v (by rw [hsplit,List.getElem?_append_left (List.getElem?_eq_some_iff.1 hj).1];exact hj))
 obtain ⟨G,hG⟩ : ∃ G,G=grownCap w (n+1) cap 68:=⟨_,rfl⟩
 obtain ⟨ROW,hROW⟩ : ∃ ROW:Array Value,ROW=((l.take i).flatMap EvalD.cells).toArray ++ Builtin.zeroCells z.cells (n+1 - i) ++ Builtin.zeroCells z.cells (G - (n+1)):=⟨_,rfl⟩
 obtain ⟨W1,hW1⟩ : ∃ W1,W1=w.drew.alloc (.cells ROW 68):=⟨_,rfl⟩
 have hrz:∀ ty,(Builtin.append_ #[26,3] ty #[.slice (some ⟨g,0,none⟩) i cap,.int .i64 ((n:Int)+1 - (i:Int))]).run Tryz.prog w=.ok (.slice (some ⟨w.heap.size,0,none⟩) (n+1) G) W1:=fun ty=>by
  have h:=Lib.run_append_grow_zeros w 26 3 ty 68 i0 z .i64 .i64 ht0 (by kernel_rfl) hi0 hz0 (some ⟨g,0,none⟩) i cap _ hold (n+1 - i) (by omega) (by omega) (by omega) (by omega) (by have:=Nat.mul_le_mul (show n+1 - i≤67108864 by omega) hby;omega)
   (by rw [hik];exact growslice_fits hcap (by have:=Nat.mul_le_mul (show n+1≤67108864 by omega) hby;omega))
  rw [hik] at h
  rw [hkk,hW1,hROW,hG]
  exact h
 have hGn:n+1≤G:=by rw [hG];exact grownCap_ge w _ _ _
 have hGm:G≤maxLen:=by rw [hG];exact grownCap_le_maxLen w (n+1) cap 68 (by unfold maxLen;omega)
 have hG63:G≤9223372036854775807:=by unfold maxLen at hGm;omega
 have hzl:∀ k,(Builtin.zeroCells z.cells k).size=k*4:=fun k=>by simp [Builtin.zeroCells,hzs]
 have hRs:ROW.size=G*4:=by rw [hROW];simp only [Array.size_append,hzl,List.size_toArray,hla];omega
 have hRt:ROW.toList.take ((l.take i).flatMap EvalD.cells).length=(l.take i).flatMap EvalD.cells:=by
  rw [hROW];simp only [Array.toList_append,List.append_assoc];rw [List.take_append_of_le_length (Nat.le_refl _)];exact List.take_of_length_le (Nat.le_refl _)
 have hB1:Blk W1 w.heap.size 68 ROW:=by rw [hW1];exact Blk.new' _ _ _ rfl
 have hX1:Ext Nothing w W1:=by rw [hW1];exact ((Ext.refl _ _).drew).alloc _
 have hx1:Blk W1 bx 68 X.toArray:=hx.e0 hX1
 have hg1:Blk W1 g 68 cs:=hg.e0 hX1
 have hsz:(Tryz.prog.info? 68).map (·.size)=some 4:=Iy
 have hcpA:∀ ty dc,(Builtin.copy_ #[26,26] ty #[.slice (some ⟨w.heap.size,i*4,none⟩) (n+1 - i) dc,.slice (some ⟨bx,0,none⟩) 1 1]).run Tryz.prog W1=.ok (goInt (Nat.min 1 (n+1 - i))) (W1.setCells w.heap.size (i*4) (X)):=fun ty dc =>
  Bh W1 _ _ ty 68 4 w.heap.size (i*4) (n+1 - i) dc ⟨bx,0,none⟩ 1 1 _ ht0 hsz (by rw [hXl];simp only [Nat.min_def];split <;> omega)
   (fun j v hj=>by
    have hadd:(⟨bx,0,none⟩ : Addr).add j=⟨bx,0+j,none⟩:=by unfold Addr.add;split <;> simp_all
    rw [hadd,hx1.cell,Nat.zero_add];simpa using hj)
   (fun j hj=>by rw [hB1.cell,Array.getElem?_eq_getElem (by rw [hRs];rw [hXl] at hj;omega)];rfl) (fun j hj=>hB1.frozen _) (fun v hv=>hXo v hv)
 obtain ⟨cs1,hB2,hl1,hz1⟩:=Blk.setCells (X) (i*4) W1 ROW hB1 (by rw [hXl,hRs];omega)
 have hX2:Ext Nothing w (W1.setCells w.heap.size (i*4) (X)):=Ext.setCells _ _ hX1 (.inl (Nat.le_refl _))
 obtain ⟨W2,hW2⟩ : ∃ W2,W2=W1.setCells w.heap.size (i*4) (X):=⟨_,rfl⟩
 rw [← hW2] at hcpA hB2 hX2
 have hg2:Blk W2.drew g 68 cs:=(hg.e0 hX2:Blk W2 g _ cs)
 have hB2d:Blk W2.drew w.heap.size 68 cs1:=hB2
 have hcpB:∀ ty dc sc,(Builtin.copy_ #[26,26] ty #[.slice (some ⟨w.heap.size,(i+1)*4,none⟩) (n - i) dc,.slice (some ⟨g,i*4,none⟩) (n - i) sc]).run Tryz.prog W2.drew=.ok (goInt (Nat.min (n - i) (n - i))) (W2.drew.setCells w.heap.size ((i+1)*4) ((l.drop i).flatMap EvalD.cells)):=fun ty dc sc =>
  Bh W2.drew _ _ ty 68 4 w.heap.size ((i+1)*4) (n - i) dc ⟨g,i*4,none⟩ (n - i) sc _ ht0 hsz (by rw [hlb];simp only [Nat.min_def];split <;> omega)
   (fun j v hj=>by
    have hadd:(⟨g,i*4,none⟩ : Addr).add j=⟨g,i*4+j,none⟩:=by unfold Addr.add;split <;> simp_all
    rw [hadd,hg2.cell];exact hcell _ v (by rw [hsplit,List.getElem?_append_right (by omega),hla,Nat.add_sub_cancel_left];exact hj))
   (fun j hj=>by rw [hB2d.cell,Array.getElem?_eq_getElem (by rw [hz1,hRs];rw [hlb] at hj;omega)];rfl) (fun j hj=>hB2d.frozen _) (hone _ (fun y hy=>List.mem_cons_of_mem _ (List.mem_of_mem_drop hy)))
 obtain ⟨cs2,hB3,hl2,hz3'⟩:=Blk.setCells ((l.drop i).flatMap EvalD.cells) ((i+1)*4) W2.drew cs1 hB2d (by rw [hlb,hz1,hRs];omega)
 have hX3:Ext Nothing w (W2.drew.setCells w.heap.size ((i+1)*4) ((l.drop i).flatMap EvalD.cells)):=Ext.setCells _ _ hX2.drew (.inl (Nat.le_refl _))
 have hfin:cs2.toList.take ((n+1)*4)=(l.take i ++ x :: l.drop i).flatMap EvalD.cells:=by
  have h0:=Eh (R:=ROW.toList) (a:=(l.take i).flatMap EvalD.cells) (b:=(l.drop i).flatMap EvalD.cells) (X:=X) (sz:=4) hRt hXl (by rw [hla,hlb,Array.length_toList,hRs];omega)
   (c1:=cs1.toList) (c2:=cs2.toList) (by rw [hl1,hla]) (by rw [hl2,hla,show i*4+4=(i+1)*4 by omega])
  rw [hla,hlb,show i*4+4+(n - i)*4=(n+1)*4 by omega] at h0
  rw [h0,List.flatMap_append,List.flatMap_cons,List.append_assoc,hXe]
 have hsz2:cs2.size=G*4:=by rw [hz3',hz1,hRs]
 have HF:=Lib.hid hfin
 have HS2:=Lib.hid hsz2
 have HGm:=Lib.hid hGm
 have hw1:IntKind.i64.wrap ((i:Int)+1)=(i:Int)+1:=by rw [IntKind.wrap_i64];omega
 have hb1:(0:Int)≤(i:Int)+1:=by omega
 have hin:i≤n:=by omega
 have htn:((i:Int)+1).toNat=i+1:=by omega
 have hb3:(i:Int)≤(n:Int):=by omega
 have hGi:¬ (G=i):=by omega
 have hGim:¬ (G=i+1):=by omega
 have hci:¬ (cap=i):=by omega
 have mixed:Tryz.prog.follows Departure.mixedOrders=true:=by kernel_rfl
 clear hXo hXe hXl hW2 hl2 hz3' hfin hsz2 hz1 hl1 hRs hRt hW1 hROW hG hold hkk hik hcell hone hfl hsplit hla hlb hzl hcs ht hn hi0 hz0 hzs hsz0 h0 hle hby hsz hGm
 go_enter Tryz.func118,Tryz.ntmps118
 go_wp2_with (first
  | (at_builtin;refine Lib.wpList_append_run _ rfl _ _ _ _ rfl _ _ rfl rfl _ _ (hrz _) ?_)
  | (at_builtin;refine wpList_copy_runI _ rfl _ _ 26 26 rfl _ _ rfl rfl (hcpA _ _) ?_))
 go_region_law_o (refine step_copy_runI rfl _ _ 26 26 rfl _ _ (by simp [Act.eval,Act.put]) (by simp [Act.eval,Act.put]) (hcpB _ _ _) ?_)
 go_wp2
 go_ret
 exact ⟨G,hGn,HGm.out,rfl,⟨cs2,hB3,HS2.out,HF.out⟩,hX3⟩
end
end Go.Proofs.YtccekmeifanipaaGreat
