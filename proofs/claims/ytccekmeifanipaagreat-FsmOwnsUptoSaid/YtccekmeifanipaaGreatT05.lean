/- Parts of the proof: InsSeen -/
import Derived.Shelf.RegionOpenPlain
import Derived.StillTailTactics
import Derived.Lib.AppendZerosOnto
import Derived.Lib.Overlaps
import Derived.Laws.Externs
import Derived.Test.YtccekmeifanipaaGreatT03
namespace Go.Proofs.YtccekmeifanipaaGreat
set_option linter.unusedVariables false
set_option linter.unusedSimpArgs false
set_option linter.unusedSectionVars false
open Go.RowKit
theorem H8 (y:SeenV) (hy:y.2.oneCell' = true):∀ v∈SeenV.cells y,v.oneCell' = true:=by
 intro v hv
 simp only [SeenV.cells,List.mem_cons,List.not_mem_nil,or_false] at hv
 rcases hv with rfl|rfl|rfl|rfl|rfl <;> first|rfl|exact hy
theorem Ij:(Tryz.prog.info? 89).map (·.size)=some 5:=by kernel_rfl
theorem Qj (w:World) (b1 b2 o:Nat) (n1 c1 n2 c2:Nat) (cs1 cs2:Array Value) (h1:Blk w b1 89 cs1) (h2:Blk w b2 89 cs2) (hne:b1 ≠ b2) (hs:cs2.size ≠ 0) :
  (callFunc 82 #[.slice (some ⟨b1,0,none⟩) n1 c1,.slice (some ⟨b2,o,none⟩) n2 c2]).run Tryz.prog w=.ok (.value (.bool false)) w:=by
 have hz:∀ w,(Go.sizeOf 89).run Tryz.prog w=.ok 5 w:=fun w=>by kernel_rfl
 rw [run_callFunc_extern Tryz.func82 (by kernel_rfl) (by kernel_rfl) (by kernel_rfl) (e:=Extern.SlicesOverlaps.overlaps #[28,28] #[4]) (by kernel_rfl),
  Lib.run_overlaps_apart w 28 4 89 Es.under 5 hz ⟨b1,0,none⟩ ⟨b2,o,none⟩ n1 c1 n2 c2 hne 89 89 cs1.size cs2.size (by simp [World.shape?,show w.heap[b1]? = _ from h1]) (by simp [World.shape?,show w.heap[b2]? = _ from h2]) hs (h1.frozen _) (h1.frozen _)]
 rfl
set_option maxHeartbeats 4000000 in
set_option maxRecDepth 100000 in
theorem Lp (base g cap i bx:Nat) (l:List SeenV) (x:SeenV) (hv1:∀ y∈x :: l,y.2.oneCell' = true) (cs:Array Value) (w:World) (hg:Blk w g 89 cs) (hcs:cs.size=cap*5) (ht:cs.toList.take (l.length*5)=l.flatMap SeenV.cells)
  (hi:i < l.length) (hx:Blk w bx 89 (SeenV.cells x).toArray) (hne:bx ≠ g) (hcap:l.length+1≤cap) (hc63:cap≤9223372036854775807) (hl63:l.length≤67108862) :
  Calls Tryz.prog 58 #[.slice (some ⟨g,0,none⟩) l.length cap,.int .i64 i,.slice (some ⟨bx,0,none⟩) 1 1] w fun e w' =>
   e=.returned (.slice (some ⟨g,0,none⟩) (l.length+1) cap)∧(∃ cs',Blk w' g 89 cs'∧cs'.size=cap*5∧cs'.toList.take ((l.length+1)*5)=(l.take i ++ x :: l.drop i).flatMap SeenV.cells)∧Ext (fun b=>b=g) w w':=by
 obtain ⟨X,hXe⟩ : ∃ X,X=SeenV.cells x:=⟨_,rfl⟩
 have hXl:X.length=5:=by rw [hXe];exact Hw x
 have hXo:∀ v∈X,v.oneCell' = true:=by rw [hXe];exact H8 x (hv1 x (by simp))
 rw [← hXe] at hx
 obtain ⟨n,hn⟩ : ∃ n,l.length=n:=⟨_,rfl⟩
 have HN:=Lib.hid hn
 rw [hn] at hi hcap ht ⊢
 have hc1:∀ (W:World),Blk W bx 89 X.toArray→Blk W g 89 cs→∀ o n2 c2,(callFunc 82 #[.slice (some ⟨bx,0,none⟩) 1 1,.slice (some ⟨g,o,none⟩) n2 c2]).run Tryz.prog W=.ok (.value (.bool false)) W :=
  fun W h1 h2 o n2 c2=>Qj W bx g o 1 1 n2 c2 _ _ h1 h2 hne (by rw [hcs];omega)
 have hov:=hc1 w hx hg
 have hz2:¬ ((i:Int)=(n:Int)):=by omega
 have hw1:IntKind.i64.wrap ((i:Int)+1)=(i:Int)+1:=by rw [IntKind.wrap_i64];omega
 have hb1:(0:Int)≤(i:Int)+1:=by omega
 have htn:((i:Int)+1).toNat=i+1:=by omega
 have hb3:(i:Int)≤(n:Int)+1:=by omega
 have hin:i≤n:=by omega
 have hb2:¬ (cap=i+1):=by omega
 have hb4:¬ (cap=i):=by omega
 have mixed:Tryz.prog.follows Departure.mixedOrders=true:=by kernel_rfl
 have hone:∀ k:List SeenV,(∀ y∈k,y∈x :: l)→∀ v∈k.flatMap SeenV.cells,v.oneCell' = true:=fun k hk v hv=>by
  obtain ⟨y,hy1,hy⟩:=List.mem_flatMap.1 hv
  exact H8 y (hv1 y (hk y hy1)) v hy
 have hfl:∀ l:List SeenV,(l.flatMap SeenV.cells).length=l.length*5:=BQ Hw
 have hsplit:l.flatMap SeenV.cells=(l.take i).flatMap SeenV.cells ++ (l.drop i).flatMap SeenV.cells:=by rw [← List.flatMap_append,List.take_append_drop]
 have hla:((l.take i).flatMap SeenV.cells).length=i*5:=by rw [hfl,List.length_take];omega
 have hlb:((l.drop i).flatMap SeenV.cells).length=(n - i)*5:=by rw [hfl,List.length_drop];omega
 have hcell:∀ j u,((l.drop i).flatMap SeenV.cells)[j]? = some u→cs[i*5+j]? = some u:=fun j u hu=>by
  have hj:=(List.getElem?_eq_some_iff.1 hu).1
  have e1:(l.flatMap SeenV.cells)[i*5+j]? = some u:=by rw [hsplit,List.getElem?_append_right (by omega),hla,Nat.add_sub_cancel_left];exact hu
  rw [← ht,List.getElem?_take] at e1
  split at e1
  ·simpa using e1
  cases e1
 have hsz:(Tryz.prog.info? 89).map (·.size)=some 5:=Ij
 have hgd:Blk w.drew g 89 cs:=hg
 have hcp1:∀ ty dc sc,(Builtin.copy_ #[28,28] ty #[.slice (some ⟨g,(i+1)*5,none⟩) (n - i) dc,.slice (some ⟨g,i*5,none⟩) (n+1 - i) sc]).run Tryz.prog w.drew=.ok (goInt (Nat.min (n+1 - i) (n - i))) (w.drew.setCells g ((i+1)*5) ((l.drop i).flatMap SeenV.cells)):=fun ty dc sc =>
  Bh w.drew _ _ ty 89 5 g ((i+1)*5) (n - i) dc ⟨g,i*5,none⟩ (n+1 - i) sc _ Es.under hsz (by rw [hlb];simp only [Nat.min_def];split <;> omega)
   (fun j v hj=>by
    have hadd:(⟨g,i*5,none⟩ : Addr).add j=⟨g,i*5+j,none⟩:=by unfold Addr.add;split <;> simp_all
    rw [hadd,hgd.cell];exact hcell j v hj)
   (fun j hj=>by rw [hgd.cell,Array.getElem?_eq_getElem (by rw [hcs];rw [hlb] at hj;omega)];rfl) (fun j hj=>hgd.frozen _) (hone _ (fun y hy=>List.mem_cons_of_mem _ (List.mem_of_mem_drop hy)))
 obtain ⟨cs1,hB1,hl1,hz1⟩:=Blk.setCells ((l.drop i).flatMap SeenV.cells) ((i+1)*5) w.drew cs hgd (by rw [hlb,hcs];omega)
 have hX1:Ext (fun b=>b=g) w (w.drew.setCells g ((i+1)*5) ((l.drop i).flatMap SeenV.cells)):=Ext.setCells _ _ (Ext.refl _ _).drew (.inr rfl)
 obtain ⟨W1,hW1⟩ : ∃ W1,W1=w.drew.setCells g ((i+1)*5) ((l.drop i).flatMap SeenV.cells):=⟨_,rfl⟩
 rw [← hW1] at hcp1 hB1 hX1
 have hx1:Blk W1 bx 89 X.toArray:=hx.ext hX1 hne
 have hcp2:∀ ty dc,(Builtin.copy_ #[28,28] ty #[.slice (some ⟨g,i*5,none⟩) (n+1 - i) dc,.slice (some ⟨bx,0,none⟩) 1 1]).run Tryz.prog W1=.ok (goInt (Nat.min 1 (n+1 - i))) (W1.setCells g (i*5) (X)):=fun ty dc =>
  Bh W1 _ _ ty 89 5 g (i*5) (n+1 - i) dc ⟨bx,0,none⟩ 1 1 _ Es.under hsz (by rw [hXl];simp only [Nat.min_def];split <;> omega)
   (fun j v hj=>by
    have hadd:(⟨bx,0,none⟩ : Addr).add j=⟨bx,0+j,none⟩:=by unfold Addr.add;split <;> simp_all
    rw [hadd,hx1.cell,Nat.zero_add];simpa using hj)
   (fun j hj=>by rw [hB1.cell,Array.getElem?_eq_getElem (by rw [hz1,hcs];rw [hXl] at hj;omega)];rfl) (fun j hj=>hB1.frozen _) (fun v hv=>hXo v hv)
 obtain ⟨cs2,hB2,hl2,hz2'⟩:=Blk.setCells (X) (i*5) W1 cs1 hB1 (by rw [hXl,hz1,hcs];omega)
 have hX2:Ext (fun b=>b=g) w (W1.setCells g (i*5) (X)):=Ext.setCells _ _ hX1 (.inr rfl)
 have hfin:cs2.toList.take ((n+1)*5)=(l.take i ++ x :: l.drop i).flatMap SeenV.cells:=by
  have h0:=DW (cs:=cs.toList) (a:=(l.take i).flatMap SeenV.cells) (b:=(l.drop i).flatMap SeenV.cells) (X:=X) (sz:=5) (by rw [hla,hlb,← hsplit,← ht];congr 1;omega) hXl (by rw [hla,hlb,Array.length_toList,hcs];omega)
   (c1:=cs1.toList) (c2:=cs2.toList) (by rw [hl1,hla,show i*5+5=(i+1)*5 by omega]) (by rw [hl2,hla])
  rw [hla,hlb,show i*5+5+(n - i)*5=(n+1)*5 by omega] at h0
  rw [h0,List.flatMap_append,List.flatMap_cons,List.append_assoc,hXe]
 have hsz2:cs2.size=cap*5:=by rw [hz2',hz1,hcs]
 have HF:=Lib.hid hfin
 have HS2:=Lib.hid hsz2
 clear hW1 hl2 hz2' hfin hsz2
 have HT:=Lib.hid ht
 have HS:=Lib.hid hsplit
 have HL1:=Lib.hid hl1
 have HZ1:=Lib.hid hz1
 have HLA:=Lib.hid hla
 have HLB:=Lib.hid hlb
 have HC:=Lib.hid hcs
 have HSZ:=Lib.hid hsz
 clear hXo hXe hXl hc1 hn ht hcell hsplit hl1 hz1 hla hlb hone hcs hsz
 go_enter Tryz.func58,Tryz.ntmps58
 go_wp2_with (simp only [hov])
 go_region_law_o (refine step_copy_runI rfl _ _ 28 28 rfl _ _ (by simp [Act.eval,Act.put]) (by simp [Act.eval,Act.put]) (hcp1 _ _ _) ?_)
 go_wp2_with (at_builtin;refine wpList_copy_runI _ rfl _ _ 28 28 rfl _ _ rfl rfl (hcp2 _ _) ?_)
 go_ret
 exact ⟨rfl,⟨cs2,hB2,HS2.out,HF.out⟩,hX2⟩
set_option maxHeartbeats 4000000 in
set_option maxRecDepth 100000 in
theorem LH (g cap i bx:Nat) (l:List SeenV) (x:SeenV) (hv1:∀ y∈x :: l,y.2.oneCell' = true) (cs:Array Value) (w:World) (hg:Blk w g 89 cs) (hcs:cs.size=cap*5) (ht:cs.toList.take (l.length*5)=l.flatMap SeenV.cells)
  (hi:i < l.length) (hx:Blk w bx 89 (SeenV.cells x).toArray) (hncap:l.length≤cap) (hcap:cap < l.length+1) (hc63:cap≤67108863) :
  Calls Tryz.prog 58 #[.slice (some ⟨g,0,none⟩) l.length cap,.int .i64 i,.slice (some ⟨bx,0,none⟩) 1 1] w fun e w' =>
   ∃ G,l.length+1≤G∧G≤maxLen∧e=.returned (.slice (some ⟨w.heap.size,0,none⟩) (l.length+1) G)∧(∃ cs',Blk w' w.heap.size 89 cs'∧cs'.size=G*5∧cs'.toList.take ((l.length+1)*5)=(l.take i ++ x :: l.drop i).flatMap SeenV.cells)∧Ext Nothing w w':=by
 obtain ⟨ht0,i0,z,hi0,hz0,hzs,hsz0,h0,hle,hby⟩:=Es
 obtain ⟨X,hXe⟩ : ∃ X,X=SeenV.cells x:=⟨_,rfl⟩
 have hXl:X.length=5:=by rw [hXe];exact Hw x
 have hXo:∀ v∈X,v.oneCell' = true:=by rw [hXe];exact H8 x (hv1 x (by simp))
 rw [← hXe] at hx
 obtain ⟨n,hn⟩ : ∃ n,l.length=n:=⟨_,rfl⟩
 rw [hn] at hi hcap hncap ht ⊢
 have hz2:¬ ((i:Int)=(n:Int)):=by omega
 have hz3:(cap:Int) < (n:Int)+1:=by omega
 have hone:∀ k:List SeenV,(∀ y∈k,y∈x :: l)→∀ v∈k.flatMap SeenV.cells,v.oneCell' = true:=fun k hk v hv=>by
  obtain ⟨y,hy1,hy⟩:=List.mem_flatMap.1 hv
  exact H8 y (hv1 y (hk y hy1)) v hy
 have hfl:∀ l:List SeenV,(l.flatMap SeenV.cells).length=l.length*5:=BQ Hw
 have hsplit:l.flatMap SeenV.cells=(l.take i).flatMap SeenV.cells ++ (l.drop i).flatMap SeenV.cells:=by rw [← List.flatMap_append,List.take_append_drop]
 have hla:((l.take i).flatMap SeenV.cells).length=i*5:=by rw [hfl,List.length_take];omega
 have hlb:((l.drop i).flatMap SeenV.cells).length=(n - i)*5:=by rw [hfl,List.length_drop];omega
 have hcell:∀ j u,(l.flatMap SeenV.cells)[j]? = some u→cs[j]? = some u:=fun j u hu=>by
  rw [← ht,List.getElem?_take] at hu
  split at hu
  ·simpa using hu
  cases hu
 have hgw:=hg.lt
 have hkk:(n:Int)+1 - (i:Int)=((n+1 - i:Nat):Int):=by omega
 have hik:i+(n+1 - i)=n+1:=by omega
 have hold:(Builtin.firstCells i0.size i (.slice (some ⟨g,0,none⟩) i cap)).run Tryz.prog w.drew=.ok ((l.take i).flatMap SeenV.cells).toArray w.drew:=by
  rw [hsz0]
  exact run_firstCells_some w.drew 5 i ⟨g,0,none⟩ i cap _ (by rw [hla]) (fun j v hj=>by
   have hadd:(⟨g,0,none⟩ : Addr).add j=⟨g,0+j,none⟩:=by unfold Addr.add;split <;> simp_all
   have hgd:Blk w.drew g 89 cs:=hg
   rw [hadd,hgd.cell,Nat.zero_add]
   exact hcell j v (by rw [hsplit,List.getElem?_append_left (List.getElem?_eq_some_iff.1 hj).1];exact hj))
 obtain ⟨G,hG⟩ : ∃ G,G=grownCap w (n+1) cap 89:=⟨_,rfl⟩
 obtain ⟨ROW,hROW⟩ : ∃ ROW:Array Value,ROW=((l.take i).flatMap SeenV.cells).toArray ++ Builtin.zeroCells z.cells (n+1 - i) ++ Builtin.zeroCells z.cells (G - (n+1)):=⟨_,rfl⟩
 obtain ⟨W1,hW1⟩ : ∃ W1,W1=w.drew.alloc (.cells ROW 89):=⟨_,rfl⟩
 have hrz:∀ ty,(Builtin.append_ #[28,3] ty #[.slice (some ⟨g,0,none⟩) i cap,.int .i64 ((n:Int)+1 - (i:Int))]).run Tryz.prog w=.ok (.slice (some ⟨w.heap.size,0,none⟩) (n+1) G) W1:=fun ty=>by
  have h:=Lib.run_append_grow_zeros w 28 3 ty 89 i0 z .i64 .i64 ht0 (by kernel_rfl) hi0 hz0 (some ⟨g,0,none⟩) i cap _ hold (n+1 - i) (by omega) (by omega) (by omega) (by omega) (by have:=Nat.mul_le_mul (show n+1 - i≤67108864 by omega) hby;omega)
   (by rw [hik];exact growslice_fits hcap (by have:=Nat.mul_le_mul (show n+1≤67108864 by omega) hby;omega))
  rw [hik] at h
  rw [hkk,hW1,hROW,hG]
  exact h
 have hGn:n+1≤G:=by rw [hG];exact grownCap_ge w _ _ _
 have hGm:G≤maxLen:=by rw [hG];exact grownCap_le_maxLen w (n+1) cap 89 (by unfold maxLen;omega)
 have hG63:G≤9223372036854775807:=by unfold maxLen at hGm;omega
 have hzl:∀ k,(Builtin.zeroCells z.cells k).size=k*5:=fun k=>by simp [Builtin.zeroCells,hzs]
 have hRs:ROW.size=G*5:=by rw [hROW];simp only [Array.size_append,hzl,List.size_toArray,hla];omega
 have hRt:ROW.toList.take ((l.take i).flatMap SeenV.cells).length=(l.take i).flatMap SeenV.cells:=by
  rw [hROW];simp only [Array.toList_append,List.append_assoc];rw [List.take_append_of_le_length (Nat.le_refl _)];exact List.take_of_length_le (Nat.le_refl _)
 have hB1:Blk W1 w.heap.size 89 ROW:=by rw [hW1];exact Blk.new' _ _ _ rfl
 have hX1:Ext Nothing w W1:=by rw [hW1];exact ((Ext.refl _ _).drew).alloc _
 have hx1:Blk W1 bx 89 X.toArray:=hx.e0 hX1
 have hg1:Blk W1 g 89 cs:=hg.e0 hX1
 have hsz:(Tryz.prog.info? 89).map (·.size)=some 5:=Ij
 have hcpA:∀ ty dc,(Builtin.copy_ #[28,28] ty #[.slice (some ⟨w.heap.size,i*5,none⟩) (n+1 - i) dc,.slice (some ⟨bx,0,none⟩) 1 1]).run Tryz.prog W1=.ok (goInt (Nat.min 1 (n+1 - i))) (W1.setCells w.heap.size (i*5) (X)):=fun ty dc =>
  Bh W1 _ _ ty 89 5 w.heap.size (i*5) (n+1 - i) dc ⟨bx,0,none⟩ 1 1 _ ht0 hsz (by rw [hXl];simp only [Nat.min_def];split <;> omega)
   (fun j v hj=>by
    have hadd:(⟨bx,0,none⟩ : Addr).add j=⟨bx,0+j,none⟩:=by unfold Addr.add;split <;> simp_all
    rw [hadd,hx1.cell,Nat.zero_add];simpa using hj)
   (fun j hj=>by rw [hB1.cell,Array.getElem?_eq_getElem (by rw [hRs];rw [hXl] at hj;omega)];rfl) (fun j hj=>hB1.frozen _) (fun v hv=>hXo v hv)
 obtain ⟨cs1,hB2,hl1,hz1⟩:=Blk.setCells (X) (i*5) W1 ROW hB1 (by rw [hXl,hRs];omega)
 have hX2:Ext Nothing w (W1.setCells w.heap.size (i*5) (X)):=Ext.setCells _ _ hX1 (.inl (Nat.le_refl _))
 obtain ⟨W2,hW2⟩ : ∃ W2,W2=W1.setCells w.heap.size (i*5) (X):=⟨_,rfl⟩
 rw [← hW2] at hcpA hB2 hX2
 have hg2:Blk W2.drew g 89 cs:=(hg.e0 hX2:Blk W2 g _ cs)
 have hB2d:Blk W2.drew w.heap.size 89 cs1:=hB2
 have hcpB:∀ ty dc sc,(Builtin.copy_ #[28,28] ty #[.slice (some ⟨w.heap.size,(i+1)*5,none⟩) (n - i) dc,.slice (some ⟨g,i*5,none⟩) (n - i) sc]).run Tryz.prog W2.drew=.ok (goInt (Nat.min (n - i) (n - i))) (W2.drew.setCells w.heap.size ((i+1)*5) ((l.drop i).flatMap SeenV.cells)):=fun ty dc sc =>
  Bh W2.drew _ _ ty 89 5 w.heap.size ((i+1)*5) (n - i) dc ⟨g,i*5,none⟩ (n - i) sc _ ht0 hsz (by rw [hlb];simp only [Nat.min_def];split <;> omega)
   (fun j v hj=>by
    have hadd:(⟨g,i*5,none⟩ : Addr).add j=⟨g,i*5+j,none⟩:=by unfold Addr.add;split <;> simp_all
    rw [hadd,hg2.cell];exact hcell _ v (by rw [hsplit,List.getElem?_append_right (by omega),hla,Nat.add_sub_cancel_left];exact hj))
   (fun j hj=>by rw [hB2d.cell,Array.getElem?_eq_getElem (by rw [hz1,hRs];rw [hlb] at hj;omega)];rfl) (fun j hj=>hB2d.frozen _) (hone _ (fun y hy=>List.mem_cons_of_mem _ (List.mem_of_mem_drop hy)))
 obtain ⟨cs2,hB3,hl2,hz3'⟩:=Blk.setCells ((l.drop i).flatMap SeenV.cells) ((i+1)*5) W2.drew cs1 hB2d (by rw [hlb,hz1,hRs];omega)
 have hX3:Ext Nothing w (W2.drew.setCells w.heap.size ((i+1)*5) ((l.drop i).flatMap SeenV.cells)):=Ext.setCells _ _ hX2.drew (.inl (Nat.le_refl _))
 have hfin:cs2.toList.take ((n+1)*5)=(l.take i ++ x :: l.drop i).flatMap SeenV.cells:=by
  have h0:=Eh (R:=ROW.toList) (a:=(l.take i).flatMap SeenV.cells) (b:=(l.drop i).flatMap SeenV.cells) (X:=X) (sz:=5) hRt hXl (by rw [hla,hlb,Array.length_toList,hRs];omega)
   (c1:=cs1.toList) (c2:=cs2.toList) (by rw [hl1,hla]) (by rw [hl2,hla,show i*5+5=(i+1)*5 by omega])
  rw [hla,hlb,show i*5+5+(n - i)*5=(n+1)*5 by omega] at h0
  rw [h0,List.flatMap_append,List.flatMap_cons,List.append_assoc,hXe]
 have hsz2:cs2.size=G*5:=by rw [hz3',hz1,hRs]
 have HF:=Lib.hid hfin
 have HS2:=Lib.hid hsz2
 have HGm:=Lib.hid hGm
 have hw1:IntKind.i64.wrap ((i:Int)+1)=(i:Int)+1:=by rw [IntKind.wrap_i64];omega
 have hb1:(0:Int)≤(i:Int)+1:=by omega
 have hin:i≤n:=by omega
 have htn:((i:Int)+1).toNat=i+1:=by omega
 have hb3:(i:Int)≤(n:Int):=by omega
 have hGi:¬ (G=i):=by omega
 have hGim:¬ (G=i+1):=by omega
 have hci:¬ (cap=i):=by omega
 have mixed:Tryz.prog.follows Departure.mixedOrders=true:=by kernel_rfl
 clear hXo hXe hXl hW2 hl2 hz3' hfin hsz2 hz1 hl1 hRs hRt hW1 hROW hG hold hkk hik hcell hone hfl hsplit hla hlb hzl hcs ht hn hi0 hz0 hzs hsz0 h0 hle hby hsz hGm
 go_enter Tryz.func58,Tryz.ntmps58
 go_wp2_with (first
  | (at_builtin;refine Lib.wpList_append_run _ rfl _ _ _ _ rfl _ _ rfl rfl _ _ (hrz _) ?_)
  | (at_builtin;refine wpList_copy_runI _ rfl _ _ 28 28 rfl _ _ rfl rfl (hcpA _ _) ?_))
 go_region_law_o (refine step_copy_runI rfl _ _ 28 28 rfl _ _ (by simp [Act.eval,Act.put]) (by simp [Act.eval,Act.put]) (hcpB _ _ _) ?_)
 go_wp2
 go_ret
 exact ⟨G,hGn,HGm.out,rfl,⟨cs2,hB3,HS2.out,HF.out⟩,hX3⟩
end Go.Proofs.YtccekmeifanipaaGreat
