/- Parts of the proof: InsDeploy InsJob InsNode Quiet -/
import Derived.Shelf.RegionOpenPlain
import Derived.StillTailTactics
import Derived.Lib.AppendZerosOnto
import Derived.Lib.Overlaps
import Derived.Laws.Externs
import Derived.Test.YtccekmeifanipaaGreatT03
import Derived.BigQuiet
import Derived.Deep.Quiet
import Derived.Test.YtccekmeifanipaaGreatT01
namespace Go.Proofs.YtccekmeifanipaaGreat
set_option linter.unusedVariables false
set_option linter.unusedSimpArgs false
set_option linter.unusedSectionVars false
section
open Go.RowKit
theorem Fg (y:DepD):∀ v∈DepD.cells y,v.oneCell' = true:=by
 intro v hv
 simp only [DepD.cells,List.mem_cons,List.not_mem_nil,or_false] at hv
 rcases hv with rfl|rfl|rfl|rfl <;> rfl
theorem Gi:(Tryz.prog.info? 74).map (·.size)=some 4:=by kernel_rfl
theorem OV (w:World) (b1 b2 o:Nat) (n1 c1 n2 c2:Nat) (cs1 cs2:Array Value) (h1:Blk w b1 74 cs1) (h2:Blk w b2 74 cs2) (hne:b1 ≠ b2) (hs:cs2.size ≠ 0) :
  (callFunc 151 #[.slice (some ⟨b1,0,none⟩) n1 c1,.slice (some ⟨b2,o,none⟩) n2 c2]).run Tryz.prog w=.ok (.value (.bool false)) w:=by
 have hz:∀ w,(Go.sizeOf 74).run Tryz.prog w=.ok 4 w:=fun w=>by kernel_rfl
 rw [run_callFunc_extern Tryz.func151 (by kernel_rfl) (by kernel_rfl) (by kernel_rfl) (e:=Extern.SlicesOverlaps.overlaps #[27,27] #[4]) (by kernel_rfl),
  Lib.run_overlaps_apart w 27 4 74 CW.under 4 hz ⟨b1,0,none⟩ ⟨b2,o,none⟩ n1 c1 n2 c2 hne 74 74 cs1.size cs2.size (by simp [World.shape?,show w.heap[b1]? = _ from h1]) (by simp [World.shape?,show w.heap[b2]? = _ from h2]) hs (h1.frozen _) (h1.frozen _)]
 rfl
set_option maxHeartbeats 4000000 in
set_option maxRecDepth 100000 in
theorem Jg (base g cap i bx:Nat) (l:List DepD) (x:DepD) (cs:Array Value) (w:World) (hg:Blk w g 74 cs) (hcs:cs.size=cap*4) (ht:cs.toList.take (l.length*4)=l.flatMap DepD.cells)
  (hi:i < l.length) (hx:Blk w bx 74 (DepD.cells x).toArray) (hne:bx ≠ g) (hcap:l.length+1≤cap) (hc63:cap≤9223372036854775807) (hl63:l.length≤67108862) :
  Calls Tryz.prog 138 #[.slice (some ⟨g,0,none⟩) l.length cap,.int .i64 i,.slice (some ⟨bx,0,none⟩) 1 1] w fun e w' =>
   e=.returned (.slice (some ⟨g,0,none⟩) (l.length+1) cap)∧(∃ cs',Blk w' g 74 cs'∧cs'.size=cap*4∧cs'.toList.take ((l.length+1)*4)=(l.take i ++ x :: l.drop i).flatMap DepD.cells)∧Ext (fun b=>b=g) w w':=by
 obtain ⟨X,hXe⟩ : ∃ X,X=DepD.cells x:=⟨_,rfl⟩
 have hXl:X.length=4:=by rw [hXe];exact Fv x
 have hXo:∀ v∈X,v.oneCell' = true:=by rw [hXe];exact Fg x
 rw [← hXe] at hx
 obtain ⟨n,hn⟩ : ∃ n,l.length=n:=⟨_,rfl⟩
 have HN:=Lib.hid hn
 rw [hn] at hi hcap ht ⊢
 have hc1:∀ (W:World),Blk W bx 74 X.toArray→Blk W g 74 cs→∀ o n2 c2,(callFunc 151 #[.slice (some ⟨bx,0,none⟩) 1 1,.slice (some ⟨g,o,none⟩) n2 c2]).run Tryz.prog W=.ok (.value (.bool false)) W :=
  fun W h1 h2 o n2 c2=>OV W bx g o 1 1 n2 c2 _ _ h1 h2 hne (by rw [hcs];omega)
 have hov:=hc1 w hx hg
 have hz2:¬ ((i:Int)=(n:Int)):=by omega
 have hw1:IntKind.i64.wrap ((i:Int)+1)=(i:Int)+1:=by rw [IntKind.wrap_i64];omega
 have hb1:(0:Int)≤(i:Int)+1:=by omega
 have htn:((i:Int)+1).toNat=i+1:=by omega
 have hb3:(i:Int)≤(n:Int)+1:=by omega
 have hin:i≤n:=by omega
 have hb2:¬ (cap=i+1):=by omega
 have hb4:¬ (cap=i):=by omega
 have mixed:Tryz.prog.follows Departure.mixedOrders=true:=by kernel_rfl
 have hone:∀ k:List DepD,(∀ y∈k,y∈x :: l)→∀ v∈k.flatMap DepD.cells,v.oneCell' = true:=fun k hk v hv=>by
  obtain ⟨y,hy1,hy⟩:=List.mem_flatMap.1 hv
  exact Fg y v hy
 have hfl:∀ l:List DepD,(l.flatMap DepD.cells).length=l.length*4:=BQ Fv
 have hsplit:l.flatMap DepD.cells=(l.take i).flatMap DepD.cells ++ (l.drop i).flatMap DepD.cells:=by rw [← List.flatMap_append,List.take_append_drop]
 have hla:((l.take i).flatMap DepD.cells).length=i*4:=by rw [hfl,List.length_take];omega
 have hlb:((l.drop i).flatMap DepD.cells).length=(n - i)*4:=by rw [hfl,List.length_drop];omega
 have hcell:∀ j u,((l.drop i).flatMap DepD.cells)[j]? = some u→cs[i*4+j]? = some u:=fun j u hu=>by
  have hj:=(List.getElem?_eq_some_iff.1 hu).1
  have e1:(l.flatMap DepD.cells)[i*4+j]? = some u:=by rw [hsplit,List.getElem?_append_right (by omega),hla,Nat.add_sub_cancel_left];exact hu
  rw [← ht,List.getElem?_take] at e1
  split at e1
  ·simpa using e1
  cases e1
 have hsz:(Tryz.prog.info? 74).map (·.size)=some 4:=Gi
 have hgd:Blk w.drew g 74 cs:=hg
 have hcp1:∀ ty dc sc,(Builtin.copy_ #[27,27] ty #[.slice (some ⟨g,(i+1)*4,none⟩) (n - i) dc,.slice (some ⟨g,i*4,none⟩) (n+1 - i) sc]).run Tryz.prog w.drew=.ok (goInt (Nat.min (n+1 - i) (n - i))) (w.drew.setCells g ((i+1)*4) ((l.drop i).flatMap DepD.cells)):=fun ty dc sc =>
  Bh w.drew _ _ ty 74 4 g ((i+1)*4) (n - i) dc ⟨g,i*4,none⟩ (n+1 - i) sc _ CW.under hsz (by rw [hlb];simp only [Nat.min_def];split <;> omega)
   (fun j v hj=>by
    have hadd:(⟨g,i*4,none⟩ : Addr).add j=⟨g,i*4+j,none⟩:=by unfold Addr.add;split <;> simp_all
    rw [hadd,hgd.cell];exact hcell j v hj)
   (fun j hj=>by rw [hgd.cell,Array.getElem?_eq_getElem (by rw [hcs];rw [hlb] at hj;omega)];rfl) (fun j hj=>hgd.frozen _) (hone _ (fun y hy=>List.mem_cons_of_mem _ (List.mem_of_mem_drop hy)))
 obtain ⟨cs1,hB1,hl1,hz1⟩:=Blk.setCells ((l.drop i).flatMap DepD.cells) ((i+1)*4) w.drew cs hgd (by rw [hlb,hcs];omega)
 have hX1:Ext (fun b=>b=g) w (w.drew.setCells g ((i+1)*4) ((l.drop i).flatMap DepD.cells)):=Ext.setCells _ _ (Ext.refl _ _).drew (.inr rfl)
 obtain ⟨W1,hW1⟩ : ∃ W1,W1=w.drew.setCells g ((i+1)*4) ((l.drop i).flatMap DepD.cells):=⟨_,rfl⟩
 rw [← hW1] at hcp1 hB1 hX1
 have hx1:Blk W1 bx 74 X.toArray:=hx.ext hX1 hne
 have hcp2:∀ ty dc,(Builtin.copy_ #[27,27] ty #[.slice (some ⟨g,i*4,none⟩) (n+1 - i) dc,.slice (some ⟨bx,0,none⟩) 1 1]).run Tryz.prog W1=.ok (goInt (Nat.min 1 (n+1 - i))) (W1.setCells g (i*4) (X)):=fun ty dc =>
  Bh W1 _ _ ty 74 4 g (i*4) (n+1 - i) dc ⟨bx,0,none⟩ 1 1 _ CW.under hsz (by rw [hXl];simp only [Nat.min_def];split <;> omega)
   (fun j v hj=>by
    have hadd:(⟨bx,0,none⟩ : Addr).add j=⟨bx,0+j,none⟩:=by unfold Addr.add;split <;> simp_all
    rw [hadd,hx1.cell,Nat.zero_add];simpa using hj)
   (fun j hj=>by rw [hB1.cell,Array.getElem?_eq_getElem (by rw [hz1,hcs];rw [hXl] at hj;omega)];rfl) (fun j hj=>hB1.frozen _) (fun v hv=>hXo v hv)
 obtain ⟨cs2,hB2,hl2,hz2'⟩:=Blk.setCells (X) (i*4) W1 cs1 hB1 (by rw [hXl,hz1,hcs];omega)
 have hX2:Ext (fun b=>b=g) w (W1.setCells g (i*4) (X)):=Ext.setCells _ _ hX1 (.inr rfl)
 have hfin:cs2.toList.take ((n+1)*4)=(l.take i ++ x :: l.drop i).flatMap DepD.cells:=by
  have h0:=DW (cs:=cs.toList) (a:=(l.take i).flatMap DepD.cells) (b:=(l.drop i).flatMap DepD.cells) (X:=X) (sz:=4) (by rw [hla,hlb,← hsplit,← ht];congr 1;omega) hXl (by rw [hla,hlb,Array.length_toList,hcs];omega)
   (c1:=cs1.toList) (c2:=cs2.toList) (by rw [hl1,hla,show i*4+4=(i+1)*4 by omega]) (by rw [hl2,hla])
  rw [hla,hlb,show i*4+4+(n - i)*4=(n+1)*4 by omega] at h0
  rw [h0,List.flatMap_append,List.flatMap_cons,List.append_assoc,hXe]
 have hsz2:cs2.size=cap*4:=by rw [hz2',hz1,hcs]
 have HF:=Lib.hid hfin
 have HS2:=Lib.hid hsz2
 clear hW1 hl2 hz2' hfin hsz2
 have HT:=Lib.hid ht
 have HS:=Lib.hid hsplit
 have HL1:=Lib.hid hl1
 have HZ1:=Lib.hid hz1
 have HLA:=Lib.hid hla
 have HLB:=Lib.hid hlb
 have HC:=Lib.hid hcs
 have HSZ:=Lib.hid hsz
 clear hXo hXe hXl hc1 hn ht hcell hsplit hl1 hz1 hla hlb hone hcs hsz
 go_enter Tryz.func138,Tryz.ntmps138
 go_wp2_with (simp only [hov])
 go_region_law_o (refine step_copy_runI rfl _ _ 27 27 rfl _ _ (by simp [Act.eval,Act.put]) (by simp [Act.eval,Act.put]) (hcp1 _ _ _) ?_)
 go_wp2_with (at_builtin;refine wpList_copy_runI _ rfl _ _ 27 27 rfl _ _ rfl rfl (hcp2 _ _) ?_)
 go_ret
 exact ⟨rfl,⟨cs2,hB2,HS2.out,HF.out⟩,hX2⟩
set_option maxHeartbeats 4000000 in
set_option maxRecDepth 100000 in
theorem Jq (g cap i bx:Nat) (l:List DepD) (x:DepD) (cs:Array Value) (w:World) (hg:Blk w g 74 cs) (hcs:cs.size=cap*4) (ht:cs.toList.take (l.length*4)=l.flatMap DepD.cells)
  (hi:i < l.length) (hx:Blk w bx 74 (DepD.cells x).toArray) (hncap:l.length≤cap) (hcap:cap < l.length+1) (hc63:cap≤67108863) :
  Calls Tryz.prog 138 #[.slice (some ⟨g,0,none⟩) l.length cap,.int .i64 i,.slice (some ⟨bx,0,none⟩) 1 1] w fun e w' =>
   ∃ G,l.length+1≤G∧G≤maxLen∧e=.returned (.slice (some ⟨w.heap.size,0,none⟩) (l.length+1) G)∧(∃ cs',Blk w' w.heap.size 74 cs'∧cs'.size=G*4∧cs'.toList.take ((l.length+1)*4)=(l.take i ++ x :: l.drop i).flatMap DepD.cells)∧Ext Nothing w w':=by
 obtain ⟨ht0,i0,z,hi0,hz0,hzs,hsz0,h0,hle,hby⟩:=CW
 obtain ⟨X,hXe⟩ : ∃ X,X=DepD.cells x:=⟨_,rfl⟩
 have hXl:X.length=4:=by rw [hXe];exact Fv x
 have hXo:∀ v∈X,v.oneCell' = true:=by rw [hXe];exact Fg x
 rw [← hXe] at hx
 obtain ⟨n,hn⟩ : ∃ n,l.length=n:=⟨_,rfl⟩
 rw [hn] at hi hcap hncap ht ⊢
 have hz2:¬ ((i:Int)=(n:Int)):=by omega
 have hz3:(cap:Int) < (n:Int)+1:=by omega
 have hone:∀ k:List DepD,(∀ y∈k,y∈x :: l)→∀ v∈k.flatMap DepD.cells,v.oneCell' = true:=fun k hk v hv=>by
  obtain ⟨y,hy1,hy⟩:=List.mem_flatMap.1 hv
  exact Fg y v hy
 have hfl:∀ l:List DepD,(l.flatMap DepD.cells).length=l.length*4:=BQ Fv
 have hsplit:l.flatMap DepD.cells=(l.take i).flatMap DepD.cells ++ (l.drop i).flatMap DepD.cells:=by rw [← List.flatMap_append,List.take_append_drop]
 have hla:((l.take i).flatMap DepD.cells).length=i*4:=by rw [hfl,List.length_take];omega
 have hlb:((l.drop i).flatMap DepD.cells).length=(n - i)*4:=by rw [hfl,List.length_drop];omega
 have hcell:∀ j u,(l.flatMap DepD.cells)[j]? = some u→cs[j]? = some u:=fun j u hu=>by
  rw [← ht,List.getElem?_take] at hu
  split at hu
  ·simpa using hu
  cases hu
 have hgw:=hg.lt
 have hkk:(n:Int)+1 - (i:Int)=((n+1 - i:Nat):Int):=by omega
 have hik:i+(n+1 - i)=n+1:=by omega
 have hold:(Builtin.firstCells i0.size i (.slice (some ⟨g,0,none⟩) i cap)).run Tryz.prog w.drew=.ok ((l.take i).flatMap DepD.cells).toArray w.drew:=by
  rw [hsz0]
  exact run_firstCells_some w.drew 4 i ⟨g,0,none⟩ i cap _ (by rw [hla]) (fun j v hj=>by
   have hadd:(⟨g,0,none⟩ : Addr).add j=⟨g,0+j,none⟩:=by unfold Addr.add;split <;> simp_all
   have hgd:Blk w.drew g 74 cs:=hg
   rw [hadd,hgd.cell,Nat.zero_add]
   exact hcell j v (by rw [hsplit,List.getElem?_append_left (List.getElem?_eq_some_iff.1 hj).1];exact hj))
 obtain ⟨G,hG⟩ : ∃ G,G=grownCap w (n+1) cap 74:=⟨_,rfl⟩
 obtain ⟨ROW,hROW⟩ : ∃ ROW:Array Value,ROW=((l.take i).flatMap DepD.cells).toArray ++ Builtin.zeroCells z.cells (n+1 - i) ++ Builtin.zeroCells z.cells (G - (n+1)):=⟨_,rfl⟩
 obtain ⟨W1,hW1⟩ : ∃ W1,W1=w.drew.alloc (.cells ROW 74):=⟨_,rfl⟩
 have hrz:∀ ty,(Builtin.append_ #[27,3] ty #[.slice (some ⟨g,0,none⟩) i cap,.int .i64 ((n:Int)+1 - (i:Int))]).run Tryz.prog w=.ok (.slice (some ⟨w.heap.size,0,none⟩) (n+1) G) W1:=fun ty=>by
  have h:=Lib.run_append_grow_zeros w 27 3 ty 74 i0 z .i64 .i64 ht0 (by kernel_rfl) hi0 hz0 (some ⟨g,0,none⟩) i cap _ hold (n+1 - i) (by omega) (by omega) (by omega) (by omega) (by have:=Nat.mul_le_mul (show n+1 - i≤67108864 by omega) hby;omega)
   (by rw [hik];exact growslice_fits hcap (by have:=Nat.mul_le_mul (show n+1≤67108864 by omega) hby;omega))
  rw [hik] at h
  rw [hkk,hW1,hROW,hG]
  exact h
 have hGn:n+1≤G:=by rw [hG];exact grownCap_ge w _ _ _
 have hGm:G≤maxLen:=by rw [hG];exact grownCap_le_maxLen w (n+1) cap 74 (by unfold maxLen;omega)
 have hG63:G≤9223372036854775807:=by unfold maxLen at hGm;omega
 have hzl:∀ k,(Builtin.zeroCells z.cells k).size=k*4:=fun k=>by simp [Builtin.zeroCells,hzs]
 have hRs:ROW.size=G*4:=by rw [hROW];simp only [Array.size_append,hzl,List.size_toArray,hla];omega
 have hRt:ROW.toList.take ((l.take i).flatMap DepD.cells).length=(l.take i).flatMap DepD.cells:=by
  rw [hROW];simp only [Array.toList_append,List.append_assoc];rw [List.take_append_of_le_length (Nat.le_refl _)];exact List.take_of_length_le (Nat.le_refl _)
 have hB1:Blk W1 w.heap.size 74 ROW:=by rw [hW1];exact Blk.new' _ _ _ rfl
 have hX1:Ext Nothing w W1:=by rw [hW1];exact ((Ext.refl _ _).drew).alloc _
 have hx1:Blk W1 bx 74 X.toArray:=hx.e0 hX1
 have hg1:Blk W1 g 74 cs:=hg.e0 hX1
 have hsz:(Tryz.prog.info? 74).map (·.size)=some 4:=Gi
 have hcpA:∀ ty dc,(Builtin.copy_ #[27,27] ty #[.slice (some ⟨w.heap.size,i*4,none⟩) (n+1 - i) dc,.slice (some ⟨bx,0,none⟩) 1 1]).run Tryz.prog W1=.ok (goInt (Nat.min 1 (n+1 - i))) (W1.setCells w.heap.size (i*4) (X)):=fun ty dc =>
  Bh W1 _ _ ty 74 4 w.heap.size (i*4) (n+1 - i) dc ⟨bx,0,none⟩ 1 1 _ ht0 hsz (by rw [hXl];simp only [Nat.min_def];split <;> omega)
   (fun j v hj=>by
    have hadd:(⟨bx,0,none⟩ : Addr).add j=⟨bx,0+j,none⟩:=by unfold Addr.add;split <;> simp_all
    rw [hadd,hx1.cell,Nat.zero_add];simpa using hj)
   (fun j hj=>by rw [hB1.cell,Array.getElem?_eq_getElem (by rw [hRs];rw [hXl] at hj;omega)];rfl) (fun j hj=>hB1.frozen _) (fun v hv=>hXo v hv)
 obtain ⟨cs1,hB2,hl1,hz1⟩:=Blk.setCells (X) (i*4) W1 ROW hB1 (by rw [hXl,hRs];omega)
 have hX2:Ext Nothing w (W1.setCells w.heap.size (i*4) (X)):=Ext.setCells _ _ hX1 (.inl (Nat.le_refl _))
 obtain ⟨W2,hW2⟩ : ∃ W2,W2=W1.setCells w.heap.size (i*4) (X):=⟨_,rfl⟩
 rw [← hW2] at hcpA hB2 hX2
 have hg2:Blk W2.drew g 74 cs:=(hg.e0 hX2:Blk W2 g _ cs)
 have hB2d:Blk W2.drew w.heap.size 74 cs1:=hB2
 have hcpB:∀ ty dc sc,(Builtin.copy_ #[27,27] ty #[.slice (some ⟨w.heap.size,(i+1)*4,none⟩) (n - i) dc,.slice (some ⟨g,i*4,none⟩) (n - i) sc]).run Tryz.prog W2.drew=.ok (goInt (Nat.min (n - i) (n - i))) (W2.drew.setCells w.heap.size ((i+1)*4) ((l.drop i).flatMap DepD.cells)):=fun ty dc sc =>
  Bh W2.drew _ _ ty 74 4 w.heap.size ((i+1)*4) (n - i) dc ⟨g,i*4,none⟩ (n - i) sc _ ht0 hsz (by rw [hlb];simp only [Nat.min_def];split <;> omega)
   (fun j v hj=>by
    have hadd:(⟨g,i*4,none⟩ : Addr).add j=⟨g,i*4+j,none⟩:=by unfold Addr.add;split <;> simp_all
    rw [hadd,hg2.cell];exact hcell _ v (by rw [hsplit,List.getElem?_append_right (by omega),hla,Nat.add_sub_cancel_left];exact hj))
   (fun j hj=>by rw [hB2d.cell,Array.getElem?_eq_getElem (by rw [hz1,hRs];rw [hlb] at hj;omega)];rfl) (fun j hj=>hB2d.frozen _) (hone _ (fun y hy=>List.mem_cons_of_mem _ (List.mem_of_mem_drop hy)))
 obtain ⟨cs2,hB3,hl2,hz3'⟩:=Blk.setCells ((l.drop i).flatMap DepD.cells) ((i+1)*4) W2.drew cs1 hB2d (by rw [hlb,hz1,hRs];omega)
 have hX3:Ext Nothing w (W2.drew.setCells w.heap.size ((i+1)*4) ((l.drop i).flatMap DepD.cells)):=Ext.setCells _ _ hX2.drew (.inl (Nat.le_refl _))
 have hfin:cs2.toList.take ((n+1)*4)=(l.take i ++ x :: l.drop i).flatMap DepD.cells:=by
  have h0:=Eh (R:=ROW.toList) (a:=(l.take i).flatMap DepD.cells) (b:=(l.drop i).flatMap DepD.cells) (X:=X) (sz:=4) hRt hXl (by rw [hla,hlb,Array.length_toList,hRs];omega)
   (c1:=cs1.toList) (c2:=cs2.toList) (by rw [hl1,hla]) (by rw [hl2,hla,show i*4+4=(i+1)*4 by omega])
  rw [hla,hlb,show i*4+4+(n - i)*4=(n+1)*4 by omega] at h0
  rw [h0,List.flatMap_append,List.flatMap_cons,List.append_assoc,hXe]
 have hsz2:cs2.size=G*4:=by rw [hz3',hz1,hRs]
 have HF:=Lib.hid hfin
 have HS2:=Lib.hid hsz2
 have HGm:=Lib.hid hGm
 have hw1:IntKind.i64.wrap ((i:Int)+1)=(i:Int)+1:=by rw [IntKind.wrap_i64];omega
 have hb1:(0:Int)≤(i:Int)+1:=by omega
 have hin:i≤n:=by omega
 have htn:((i:Int)+1).toNat=i+1:=by omega
 have hb3:(i:Int)≤(n:Int):=by omega
 have hGi:¬ (G=i):=by omega
 have hGim:¬ (G=i+1):=by omega
 have hci:¬ (cap=i):=by omega
 have mixed:Tryz.prog.follows Departure.mixedOrders=true:=by kernel_rfl
 clear hXo hXe hXl hW2 hl2 hz3' hfin hsz2 hz1 hl1 hRs hRt hW1 hROW hG hold hkk hik hcell hone hfl hsplit hla hlb hzl hcs ht hn hi0 hz0 hzs hsz0 h0 hle hby hsz hGm
 go_enter Tryz.func138,Tryz.ntmps138
 go_wp2_with (first
  | (at_builtin;refine Lib.wpList_append_run _ rfl _ _ _ _ rfl _ _ rfl rfl _ _ (hrz _) ?_)
  | (at_builtin;refine wpList_copy_runI _ rfl _ _ 27 27 rfl _ _ rfl rfl (hcpA _ _) ?_))
 go_region_law_o (refine step_copy_runI rfl _ _ 27 27 rfl _ _ (by simp [Act.eval,Act.put]) (by simp [Act.eval,Act.put]) (hcpB _ _ _) ?_)
 go_wp2
 go_ret
 exact ⟨G,hGn,HGm.out,rfl,⟨cs2,hB3,HS2.out,HF.out⟩,hX3⟩
end
section
open Go.RowKit
theorem FJ:Bg Tryz.prog 23 39 7:=.of (by kernel_rfl)
theorem Kg (x:JobV):(JobV.cells x).length=7:=rfl
theorem Ky (y:JobV) (hy:y.2.oneCell' = true):∀ v∈JobV.cells y,v.oneCell' = true:=by
 intro v hv
 simp only [JobV.cells,List.mem_cons,List.not_mem_nil,or_false] at hv
 rcases hv with rfl|rfl|rfl|rfl|rfl|rfl|rfl <;> first|rfl|exact hy
theorem JX:(Tryz.prog.info? 39).map (·.size)=some 7:=by kernel_rfl
theorem Rq (w:World) (b1 b2 o:Nat) (n1 c1 n2 c2:Nat) (cs1 cs2:Array Value) (h1:Blk w b1 39 cs1) (h2:Blk w b2 39 cs2) (hne:b1 ≠ b2) (hs:cs2.size ≠ 0) :
  (callFunc 136 #[.slice (some ⟨b1,0,none⟩) n1 c1,.slice (some ⟨b2,o,none⟩) n2 c2]).run Tryz.prog w=.ok (.value (.bool false)) w:=by
 have hz:∀ w,(Go.sizeOf 39).run Tryz.prog w=.ok 7 w:=fun w=>by kernel_rfl
 rw [run_callFunc_extern Tryz.func136 (by kernel_rfl) (by kernel_rfl) (by kernel_rfl) (e:=Extern.SlicesOverlaps.overlaps #[23,23] #[4]) (by kernel_rfl),
  Lib.run_overlaps_apart w 23 4 39 FJ.under 7 hz ⟨b1,0,none⟩ ⟨b2,o,none⟩ n1 c1 n2 c2 hne 39 39 cs1.size cs2.size (by simp [World.shape?,show w.heap[b1]? = _ from h1]) (by simp [World.shape?,show w.heap[b2]? = _ from h2]) hs (h1.frozen _) (h1.frozen _)]
 rfl
set_option maxHeartbeats 4000000 in
set_option maxRecDepth 100000 in
theorem Ig (base g cap i bx:Nat) (l:List JobV) (x:JobV) (hv1:∀ y∈x :: l,y.2.oneCell' = true) (cs:Array Value) (w:World) (hg:Blk w g 39 cs) (hcs:cs.size=cap*7) (ht:cs.toList.take (l.length*7)=l.flatMap JobV.cells)
  (hi:i < l.length) (hx:Blk w bx 39 (JobV.cells x).toArray) (hne:bx ≠ g) (hcap:l.length+1≤cap) (hc63:cap≤9223372036854775807) (hl63:l.length≤67108862) :
  Calls Tryz.prog 115 #[.slice (some ⟨g,0,none⟩) l.length cap,.int .i64 i,.slice (some ⟨bx,0,none⟩) 1 1] w fun e w' =>
   e=.returned (.slice (some ⟨g,0,none⟩) (l.length+1) cap)∧(∃ cs',Blk w' g 39 cs'∧cs'.size=cap*7∧cs'.toList.take ((l.length+1)*7)=(l.take i ++ x :: l.drop i).flatMap JobV.cells)∧Ext (fun b=>b=g) w w':=by
 obtain ⟨X,hXe⟩ : ∃ X,X=JobV.cells x:=⟨_,rfl⟩
 have hXl:X.length=7:=by rw [hXe];exact Kg x
 have hXo:∀ v∈X,v.oneCell' = true:=by rw [hXe];exact Ky x (hv1 x (by simp))
 rw [← hXe] at hx
 obtain ⟨n,hn⟩ : ∃ n,l.length=n:=⟨_,rfl⟩
 have HN:=Lib.hid hn
 rw [hn] at hi hcap ht ⊢
 have hc1:∀ (W:World),Blk W bx 39 X.toArray→Blk W g 39 cs→∀ o n2 c2,(callFunc 136 #[.slice (some ⟨bx,0,none⟩) 1 1,.slice (some ⟨g,o,none⟩) n2 c2]).run Tryz.prog W=.ok (.value (.bool false)) W :=
  fun W h1 h2 o n2 c2=>Rq W bx g o 1 1 n2 c2 _ _ h1 h2 hne (by rw [hcs];omega)
 have hov:=hc1 w hx hg
 have hz2:¬ ((i:Int)=(n:Int)):=by omega
 have hw1:IntKind.i64.wrap ((i:Int)+1)=(i:Int)+1:=by rw [IntKind.wrap_i64];omega
 have hb1:(0:Int)≤(i:Int)+1:=by omega
 have htn:((i:Int)+1).toNat=i+1:=by omega
 have hb3:(i:Int)≤(n:Int)+1:=by omega
 have hin:i≤n:=by omega
 have hb2:¬ (cap=i+1):=by omega
 have hb4:¬ (cap=i):=by omega
 have mixed:Tryz.prog.follows Departure.mixedOrders=true:=by kernel_rfl
 have hone:∀ k:List JobV,(∀ y∈k,y∈x :: l)→∀ v∈k.flatMap JobV.cells,v.oneCell' = true:=fun k hk v hv=>by
  obtain ⟨y,hy1,hy⟩:=List.mem_flatMap.1 hv
  exact Ky y (hv1 y (hk y hy1)) v hy
 have hfl:∀ l:List JobV,(l.flatMap JobV.cells).length=l.length*7:=BQ Kg
 have hsplit:l.flatMap JobV.cells=(l.take i).flatMap JobV.cells ++ (l.drop i).flatMap JobV.cells:=by rw [← List.flatMap_append,List.take_append_drop]
 have hla:((l.take i).flatMap JobV.cells).length=i*7:=by rw [hfl,List.length_take];omega
 have hlb:((l.drop i).flatMap JobV.cells).length=(n - i)*7:=by rw [hfl,List.length_drop];omega
 have hcell:∀ j u,((l.drop i).flatMap JobV.cells)[j]? = some u→cs[i*7+j]? = some u:=fun j u hu=>by
  have hj:=(List.getElem?_eq_some_iff.1 hu).1
  have e1:(l.flatMap JobV.cells)[i*7+j]? = some u:=by rw [hsplit,List.getElem?_append_right (by omega),hla,Nat.add_sub_cancel_left];exact hu
  rw [← ht,List.getElem?_take] at e1
  split at e1
  ·simpa using e1
  cases e1
 have hsz:(Tryz.prog.info? 39).map (·.size)=some 7:=JX
 have hgd:Blk w.drew g 39 cs:=hg
 have hcp1:∀ ty dc sc,(Builtin.copy_ #[23,23] ty #[.slice (some ⟨g,(i+1)*7,none⟩) (n - i) dc,.slice (some ⟨g,i*7,none⟩) (n+1 - i) sc]).run Tryz.prog w.drew=.ok (goInt (Nat.min (n+1 - i) (n - i))) (w.drew.setCells g ((i+1)*7) ((l.drop i).flatMap JobV.cells)):=fun ty dc sc =>
  Bh w.drew _ _ ty 39 7 g ((i+1)*7) (n - i) dc ⟨g,i*7,none⟩ (n+1 - i) sc _ FJ.under hsz (by rw [hlb];simp only [Nat.min_def];split <;> omega)
   (fun j v hj=>by
    have hadd:(⟨g,i*7,none⟩ : Addr).add j=⟨g,i*7+j,none⟩:=by unfold Addr.add;split <;> simp_all
    rw [hadd,hgd.cell];exact hcell j v hj)
   (fun j hj=>by rw [hgd.cell,Array.getElem?_eq_getElem (by rw [hcs];rw [hlb] at hj;omega)];rfl) (fun j hj=>hgd.frozen _) (hone _ (fun y hy=>List.mem_cons_of_mem _ (List.mem_of_mem_drop hy)))
 obtain ⟨cs1,hB1,hl1,hz1⟩:=Blk.setCells ((l.drop i).flatMap JobV.cells) ((i+1)*7) w.drew cs hgd (by rw [hlb,hcs];omega)
 have hX1:Ext (fun b=>b=g) w (w.drew.setCells g ((i+1)*7) ((l.drop i).flatMap JobV.cells)):=Ext.setCells _ _ (Ext.refl _ _).drew (.inr rfl)
 obtain ⟨W1,hW1⟩ : ∃ W1,W1=w.drew.setCells g ((i+1)*7) ((l.drop i).flatMap JobV.cells):=⟨_,rfl⟩
 rw [← hW1] at hcp1 hB1 hX1
 have hx1:Blk W1 bx 39 X.toArray:=hx.ext hX1 hne
 have hcp2:∀ ty dc,(Builtin.copy_ #[23,23] ty #[.slice (some ⟨g,i*7,none⟩) (n+1 - i) dc,.slice (some ⟨bx,0,none⟩) 1 1]).run Tryz.prog W1=.ok (goInt (Nat.min 1 (n+1 - i))) (W1.setCells g (i*7) (X)):=fun ty dc =>
  Bh W1 _ _ ty 39 7 g (i*7) (n+1 - i) dc ⟨bx,0,none⟩ 1 1 _ FJ.under hsz (by rw [hXl];simp only [Nat.min_def];split <;> omega)
   (fun j v hj=>by
    have hadd:(⟨bx,0,none⟩ : Addr).add j=⟨bx,0+j,none⟩:=by unfold Addr.add;split <;> simp_all
    rw [hadd,hx1.cell,Nat.zero_add];simpa using hj)
   (fun j hj=>by rw [hB1.cell,Array.getElem?_eq_getElem (by rw [hz1,hcs];rw [hXl] at hj;omega)];rfl) (fun j hj=>hB1.frozen _) (fun v hv=>hXo v hv)
 obtain ⟨cs2,hB2,hl2,hz2'⟩:=Blk.setCells (X) (i*7) W1 cs1 hB1 (by rw [hXl,hz1,hcs];omega)
 have hX2:Ext (fun b=>b=g) w (W1.setCells g (i*7) (X)):=Ext.setCells _ _ hX1 (.inr rfl)
 have hfin:cs2.toList.take ((n+1)*7)=(l.take i ++ x :: l.drop i).flatMap JobV.cells:=by
  have h0:=DW (cs:=cs.toList) (a:=(l.take i).flatMap JobV.cells) (b:=(l.drop i).flatMap JobV.cells) (X:=X) (sz:=7) (by rw [hla,hlb,← hsplit,← ht];congr 1;omega) hXl (by rw [hla,hlb,Array.length_toList,hcs];omega)
   (c1:=cs1.toList) (c2:=cs2.toList) (by rw [hl1,hla,show i*7+7=(i+1)*7 by omega]) (by rw [hl2,hla])
  rw [hla,hlb,show i*7+7+(n - i)*7=(n+1)*7 by omega] at h0
  rw [h0,List.flatMap_append,List.flatMap_cons,List.append_assoc,hXe]
 have hsz2:cs2.size=cap*7:=by rw [hz2',hz1,hcs]
 have HF:=Lib.hid hfin
 have HS2:=Lib.hid hsz2
 clear hW1 hl2 hz2' hfin hsz2
 have HT:=Lib.hid ht
 have HS:=Lib.hid hsplit
 have HL1:=Lib.hid hl1
 have HZ1:=Lib.hid hz1
 have HLA:=Lib.hid hla
 have HLB:=Lib.hid hlb
 have HC:=Lib.hid hcs
 have HSZ:=Lib.hid hsz
 clear hXo hXe hXl hc1 hn ht hcell hsplit hl1 hz1 hla hlb hone hcs hsz
 go_enter Tryz.func115,Tryz.ntmps115
 go_wp2_with (simp only [hov])
 go_region_law_o (refine step_copy_runI rfl _ _ 23 23 rfl _ _ (by simp [Act.eval,Act.put]) (by simp [Act.eval,Act.put]) (hcp1 _ _ _) ?_)
 go_wp2_with (at_builtin;refine wpList_copy_runI _ rfl _ _ 23 23 rfl _ _ rfl rfl (hcp2 _ _) ?_)
 go_ret
 exact ⟨rfl,⟨cs2,hB2,HS2.out,HF.out⟩,hX2⟩
set_option maxHeartbeats 4000000 in
set_option maxRecDepth 100000 in
theorem IB (g cap i bx:Nat) (l:List JobV) (x:JobV) (hv1:∀ y∈x :: l,y.2.oneCell' = true) (cs:Array Value) (w:World) (hg:Blk w g 39 cs) (hcs:cs.size=cap*7) (ht:cs.toList.take (l.length*7)=l.flatMap JobV.cells)
  (hi:i < l.length) (hx:Blk w bx 39 (JobV.cells x).toArray) (hncap:l.length≤cap) (hcap:cap < l.length+1) (hc63:cap≤67108863) :
  Calls Tryz.prog 115 #[.slice (some ⟨g,0,none⟩) l.length cap,.int .i64 i,.slice (some ⟨bx,0,none⟩) 1 1] w fun e w' =>
   ∃ G,l.length+1≤G∧G≤maxLen∧e=.returned (.slice (some ⟨w.heap.size,0,none⟩) (l.length+1) G)∧(∃ cs',Blk w' w.heap.size 39 cs'∧cs'.size=G*7∧cs'.toList.take ((l.length+1)*7)=(l.take i ++ x :: l.drop i).flatMap JobV.cells)∧Ext Nothing w w':=by
 obtain ⟨ht0,i0,z,hi0,hz0,hzs,hsz0,h0,hle,hby⟩:=FJ
 obtain ⟨X,hXe⟩ : ∃ X,X=JobV.cells x:=⟨_,rfl⟩
 have hXl:X.length=7:=by rw [hXe];exact Kg x
 have hXo:∀ v∈X,v.oneCell' = true:=by rw [hXe];exact Ky x (hv1 x (by simp))
 rw [← hXe] at hx
 obtain ⟨n,hn⟩ : ∃ n,l.length=n:=⟨_,rfl⟩
 rw [hn] at hi hcap hncap ht ⊢
 have hz2:¬ ((i:Int)=(n:Int)):=by omega
 have hz3:(cap:Int) < (n:Int)+1:=by omega
 have hone:∀ k:List JobV,(∀ y∈k,y∈x :: l)→∀ v∈k.flatMap JobV.cells,v.oneCell' = true:=fun k hk v hv=>by
  obtain ⟨y,hy1,hy⟩:=List.mem_flatMap.1 hv
  exact Ky y (hv1 y (hk y hy1)) v hy
 have hfl:∀ l:List JobV,(l.flatMap JobV.cells).length=l.length*7:=BQ Kg
 have hsplit:l.flatMap JobV.cells=(l.take i).flatMap JobV.cells ++ (l.drop i).flatMap JobV.cells:=by rw [← List.flatMap_append,List.take_append_drop]
 have hla:((l.take i).flatMap JobV.cells).length=i*7:=by rw [hfl,List.length_take];omega
 have hlb:((l.drop i).flatMap JobV.cells).length=(n - i)*7:=by rw [hfl,List.length_drop];omega
 have hcell:∀ j u,(l.flatMap JobV.cells)[j]? = some u→cs[j]? = some u:=fun j u hu=>by
  rw [← ht,List.getElem?_take] at hu
  split at hu
  ·simpa using hu
  cases hu
 have hgw:=hg.lt
 have hkk:(n:Int)+1 - (i:Int)=((n+1 - i:Nat):Int):=by omega
 have hik:i+(n+1 - i)=n+1:=by omega
 have hold:(Builtin.firstCells i0.size i (.slice (some ⟨g,0,none⟩) i cap)).run Tryz.prog w.drew=.ok ((l.take i).flatMap JobV.cells).toArray w.drew:=by
  rw [hsz0]
  exact run_firstCells_some w.drew 7 i ⟨g,0,none⟩ i cap _ (by rw [hla]) (fun j v hj=>by
   have hadd:(⟨g,0,none⟩ : Addr).add j=⟨g,0+j,none⟩:=by unfold Addr.add;split <;> simp_all
   have hgd:Blk w.drew g 39 cs:=hg
   rw [hadd,hgd.cell,Nat.zero_add]
   exact hcell j v (by rw [hsplit,List.getElem?_append_left (List.getElem?_eq_some_iff.1 hj).1];exact hj))
 obtain ⟨G,hG⟩ : ∃ G,G=grownCap w (n+1) cap 39:=⟨_,rfl⟩
 obtain ⟨ROW,hROW⟩ : ∃ ROW:Array Value,ROW=((l.take i).flatMap JobV.cells).toArray ++ Builtin.zeroCells z.cells (n+1 - i) ++ Builtin.zeroCells z.cells (G - (n+1)):=⟨_,rfl⟩
 obtain ⟨W1,hW1⟩ : ∃ W1,W1=w.drew.alloc (.cells ROW 39):=⟨_,rfl⟩
 have hrz:∀ ty,(Builtin.append_ #[23,3] ty #[.slice (some ⟨g,0,none⟩) i cap,.int .i64 ((n:Int)+1 - (i:Int))]).run Tryz.prog w=.ok (.slice (some ⟨w.heap.size,0,none⟩) (n+1) G) W1:=fun ty=>by
  have h:=Lib.run_append_grow_zeros w 23 3 ty 39 i0 z .i64 .i64 ht0 (by kernel_rfl) hi0 hz0 (some ⟨g,0,none⟩) i cap _ hold (n+1 - i) (by omega) (by omega) (by omega) (by omega) (by have:=Nat.mul_le_mul (show n+1 - i≤67108864 by omega) hby;omega)
   (by rw [hik];exact growslice_fits hcap (by have:=Nat.mul_le_mul (show n+1≤67108864 by omega) hby;omega))
  rw [hik] at h
  rw [hkk,hW1,hROW,hG]
  exact h
 have hGn:n+1≤G:=by rw [hG];exact grownCap_ge w _ _ _
 have hGm:G≤maxLen:=by rw [hG];exact grownCap_le_maxLen w (n+1) cap 39 (by unfold maxLen;omega)
 have hG63:G≤9223372036854775807:=by unfold maxLen at hGm;omega
 have hzl:∀ k,(Builtin.zeroCells z.cells k).size=k*7:=fun k=>by simp [Builtin.zeroCells,hzs]
 have hRs:ROW.size=G*7:=by rw [hROW];simp only [Array.size_append,hzl,List.size_toArray,hla];omega
 have hRt:ROW.toList.take ((l.take i).flatMap JobV.cells).length=(l.take i).flatMap JobV.cells:=by
  rw [hROW];simp only [Array.toList_append,List.append_assoc];rw [List.take_append_of_le_length (Nat.le_refl _)];exact List.take_of_length_le (Nat.le_refl _)
 have hB1:Blk W1 w.heap.size 39 ROW:=by rw [hW1];exact Blk.new' _ _ _ rfl
 have hX1:Ext Nothing w W1:=by rw [hW1];exact ((Ext.refl _ _).drew).alloc _
 have hx1:Blk W1 bx 39 X.toArray:=hx.e0 hX1
 have hg1:Blk W1 g 39 cs:=hg.e0 hX1
 have hsz:(Tryz.prog.info? 39).map (·.size)=some 7:=JX
 have hcpA:∀ ty dc,(Builtin.copy_ #[23,23] ty #[.slice (some ⟨w.heap.size,i*7,none⟩) (n+1 - i) dc,.slice (some ⟨bx,0,none⟩) 1 1]).run Tryz.prog W1=.ok (goInt (Nat.min 1 (n+1 - i))) (W1.setCells w.heap.size (i*7) (X)):=fun ty dc =>
  Bh W1 _ _ ty 39 7 w.heap.size (i*7) (n+1 - i) dc ⟨bx,0,none⟩ 1 1 _ ht0 hsz (by rw [hXl];simp only [Nat.min_def];split <;> omega)
   (fun j v hj=>by
    have hadd:(⟨bx,0,none⟩ : Addr).add j=⟨bx,0+j,none⟩:=by unfold Addr.add;split <;> simp_all
    rw [hadd,hx1.cell,Nat.zero_add];simpa using hj)
   (fun j hj=>by rw [hB1.cell,Array.getElem?_eq_getElem (by rw [hRs];rw [hXl] at hj;omega)];rfl) (fun j hj=>hB1.frozen _) (fun v hv=>hXo v hv)
 obtain ⟨cs1,hB2,hl1,hz1⟩:=Blk.setCells (X) (i*7) W1 ROW hB1 (by rw [hXl,hRs];omega)
 have hX2:Ext Nothing w (W1.setCells w.heap.size (i*7) (X)):=Ext.setCells _ _ hX1 (.inl (Nat.le_refl _))
 obtain ⟨W2,hW2⟩ : ∃ W2,W2=W1.setCells w.heap.size (i*7) (X):=⟨_,rfl⟩
 rw [← hW2] at hcpA hB2 hX2
 have hg2:Blk W2.drew g 39 cs:=(hg.e0 hX2:Blk W2 g _ cs)
 have hB2d:Blk W2.drew w.heap.size 39 cs1:=hB2
 have hcpB:∀ ty dc sc,(Builtin.copy_ #[23,23] ty #[.slice (some ⟨w.heap.size,(i+1)*7,none⟩) (n - i) dc,.slice (some ⟨g,i*7,none⟩) (n - i) sc]).run Tryz.prog W2.drew=.ok (goInt (Nat.min (n - i) (n - i))) (W2.drew.setCells w.heap.size ((i+1)*7) ((l.drop i).flatMap JobV.cells)):=fun ty dc sc =>
  Bh W2.drew _ _ ty 39 7 w.heap.size ((i+1)*7) (n - i) dc ⟨g,i*7,none⟩ (n - i) sc _ ht0 hsz (by rw [hlb];simp only [Nat.min_def];split <;> omega)
   (fun j v hj=>by
    have hadd:(⟨g,i*7,none⟩ : Addr).add j=⟨g,i*7+j,none⟩:=by unfold Addr.add;split <;> simp_all
    rw [hadd,hg2.cell];exact hcell _ v (by rw [hsplit,List.getElem?_append_right (by omega),hla,Nat.add_sub_cancel_left];exact hj))
   (fun j hj=>by rw [hB2d.cell,Array.getElem?_eq_getElem (by rw [hz1,hRs];rw [hlb] at hj;omega)];rfl) (fun j hj=>hB2d.frozen _) (hone _ (fun y hy=>List.mem_cons_of_mem _ (List.mem_of_mem_drop hy)))
 obtain ⟨cs2,hB3,hl2,hz3'⟩:=Blk.setCells ((l.drop i).flatMap JobV.cells) ((i+1)*7) W2.drew cs1 hB2d (by rw [hlb,hz1,hRs];omega)
 have hX3:Ext Nothing w (W2.drew.setCells w.heap.size ((i+1)*7) ((l.drop i).flatMap JobV.cells)):=Ext.setCells _ _ hX2.drew (.inl (Nat.le_refl _))
 have hfin:cs2.toList.take ((n+1)*7)=(l.take i ++ x :: l.drop i).flatMap JobV.cells:=by
  have h0:=Eh (R:=ROW.toList) (a:=(l.take i).flatMap JobV.cells) (b:=(l.drop i).flatMap JobV.cells) (X:=X) (sz:=7) hRt hXl (by rw [hla,hlb,Array.length_toList,hRs];omega)
   (c1:=cs1.toList) (c2:=cs2.toList) (by rw [hl1,hla]) (by rw [hl2,hla,show i*7+7=(i+1)*7 by omega])
  rw [hla,hlb,show i*7+7+(n - i)*7=(n+1)*7 by omega] at h0
  rw [h0,List.flatMap_append,List.flatMap_cons,List.append_assoc,hXe]
 have hsz2:cs2.size=G*7:=by rw [hz3',hz1,hRs]
 have HF:=Lib.hid hfin
 have HS2:=Lib.hid hsz2
 have HGm:=Lib.hid hGm
 have hw1:IntKind.i64.wrap ((i:Int)+1)=(i:Int)+1:=by rw [IntKind.wrap_i64];omega
 have hb1:(0:Int)≤(i:Int)+1:=by omega
 have hin:i≤n:=by omega
 have htn:((i:Int)+1).toNat=i+1:=by omega
 have hb3:(i:Int)≤(n:Int):=by omega
 have hGi:¬ (G=i):=by omega
 have hGim:¬ (G=i+1):=by omega
 have hci:¬ (cap=i):=by omega
 have mixed:Tryz.prog.follows Departure.mixedOrders=true:=by kernel_rfl
 clear hXo hXe hXl hW2 hl2 hz3' hfin hsz2 hz1 hl1 hRs hRt hW1 hROW hG hold hkk hik hcell hone hfl hsplit hla hlb hzl hcs ht hn hi0 hz0 hzs hsz0 h0 hle hby hsz hGm
 go_enter Tryz.func115,Tryz.ntmps115
 go_wp2_with (first
  | (at_builtin;refine Lib.wpList_append_run _ rfl _ _ _ _ rfl _ _ rfl rfl _ _ (hrz _) ?_)
  | (at_builtin;refine wpList_copy_runI _ rfl _ _ 23 23 rfl _ _ rfl rfl (hcpA _ _) ?_))
 go_region_law_o (refine step_copy_runI rfl _ _ 23 23 rfl _ _ (by simp [Act.eval,Act.put]) (by simp [Act.eval,Act.put]) (hcpB _ _ _) ?_)
 go_wp2
 go_ret
 exact ⟨G,hGn,HGm.out,rfl,⟨cs2,hB3,HS2.out,HF.out⟩,hX3⟩
end
section
open Go.RowKit
theorem Ht (y:NodD):∀ v∈NodD.cells y,v.oneCell' = true:=by
 intro v hv
 simp only [NodD.cells,List.mem_cons,List.not_mem_nil,or_false] at hv
 rcases hv with rfl|rfl|rfl|rfl|rfl|rfl|rfl|rfl <;> rfl
theorem Iz:(Tryz.prog.info? 43).map (·.size)=some 8:=by kernel_rfl
theorem QS (w:World) (b1 b2 o:Nat) (n1 c1 n2 c2:Nat) (cs1 cs2:Array Value) (h1:Blk w b1 43 cs1) (h2:Blk w b2 43 cs2) (hne:b1 ≠ b2) (hs:cs2.size ≠ 0) :
  (callFunc 119 #[.slice (some ⟨b1,0,none⟩) n1 c1,.slice (some ⟨b2,o,none⟩) n2 c2]).run Tryz.prog w=.ok (.value (.bool false)) w:=by
 have hz:∀ w,(Go.sizeOf 43).run Tryz.prog w=.ok 8 w:=fun w=>by kernel_rfl
 rw [run_callFunc_extern Tryz.func119 (by kernel_rfl) (by kernel_rfl) (by kernel_rfl) (e:=Extern.SlicesOverlaps.overlaps #[24,24] #[4]) (by kernel_rfl),
  Lib.run_overlaps_apart w 24 4 43 EF.under 8 hz ⟨b1,0,none⟩ ⟨b2,o,none⟩ n1 c1 n2 c2 hne 43 43 cs1.size cs2.size (by simp [World.shape?,show w.heap[b1]? = _ from h1]) (by simp [World.shape?,show w.heap[b2]? = _ from h2]) hs (h1.frozen _) (h1.frozen _)]
 rfl
set_option maxHeartbeats 4000000 in
set_option maxRecDepth 100000 in
theorem KE (base g cap i bx:Nat) (l:List NodD) (x:NodD) (cs:Array Value) (w:World) (hg:Blk w g 43 cs) (hcs:cs.size=cap*8) (ht:cs.toList.take (l.length*8)=l.flatMap NodD.cells)
  (hi:i < l.length) (hx:Blk w bx 43 (NodD.cells x).toArray) (hne:bx ≠ g) (hcap:l.length+1≤cap) (hc63:cap≤9223372036854775807) (hl63:l.length≤67108862) :
  Calls Tryz.prog 98 #[.slice (some ⟨g,0,none⟩) l.length cap,.int .i64 i,.slice (some ⟨bx,0,none⟩) 1 1] w fun e w' =>
   e=.returned (.slice (some ⟨g,0,none⟩) (l.length+1) cap)∧(∃ cs',Blk w' g 43 cs'∧cs'.size=cap*8∧cs'.toList.take ((l.length+1)*8)=(l.take i ++ x :: l.drop i).flatMap NodD.cells)∧Ext (fun b=>b=g) w w':=by
 obtain ⟨X,hXe⟩ : ∃ X,X=NodD.cells x:=⟨_,rfl⟩
 have hXl:X.length=8:=by rw [hXe];exact H7 x
 have hXo:∀ v∈X,v.oneCell' = true:=by rw [hXe];exact Ht x
 rw [← hXe] at hx
 obtain ⟨n,hn⟩ : ∃ n,l.length=n:=⟨_,rfl⟩
 have HN:=Lib.hid hn
 rw [hn] at hi hcap ht ⊢
 have hc1:∀ (W:World),Blk W bx 43 X.toArray→Blk W g 43 cs→∀ o n2 c2,(callFunc 119 #[.slice (some ⟨bx,0,none⟩) 1 1,.slice (some ⟨g,o,none⟩) n2 c2]).run Tryz.prog W=.ok (.value (.bool false)) W :=
  fun W h1 h2 o n2 c2=>QS W bx g o 1 1 n2 c2 _ _ h1 h2 hne (by rw [hcs];omega)
 have hov:=hc1 w hx hg
 have hz2:¬ ((i:Int)=(n:Int)):=by omega
 have hw1:IntKind.i64.wrap ((i:Int)+1)=(i:Int)+1:=by rw [IntKind.wrap_i64];omega
 have hb1:(0:Int)≤(i:Int)+1:=by omega
 have htn:((i:Int)+1).toNat=i+1:=by omega
 have hb3:(i:Int)≤(n:Int)+1:=by omega
 have hin:i≤n:=by omega
 have hb2:¬ (cap=i+1):=by omega
 have hb4:¬ (cap=i):=by omega
 have mixed:Tryz.prog.follows Departure.mixedOrders=true:=by kernel_rfl
 have hone:∀ k:List NodD,(∀ y∈k,y∈x :: l)→∀ v∈k.flatMap NodD.cells,v.oneCell' = true:=fun k hk v hv=>by
  obtain ⟨y,hy1,hy⟩:=List.mem_flatMap.1 hv
  exact Ht y v hy
 have hfl:∀ l:List NodD,(l.flatMap NodD.cells).length=l.length*8:=BQ H7
 have hsplit:l.flatMap NodD.cells=(l.take i).flatMap NodD.cells ++ (l.drop i).flatMap NodD.cells:=by rw [← List.flatMap_append,List.take_append_drop]
 have hla:((l.take i).flatMap NodD.cells).length=i*8:=by rw [hfl,List.length_take];omega
 have hlb:((l.drop i).flatMap NodD.cells).length=(n - i)*8:=by rw [hfl,List.length_drop];omega
 have hcell:∀ j u,((l.drop i).flatMap NodD.cells)[j]? = some u→cs[i*8+j]? = some u:=fun j u hu=>by
  have hj:=(List.getElem?_eq_some_iff.1 hu).1
  have e1:(l.flatMap NodD.cells)[i*8+j]? = some u:=by rw [hsplit,List.getElem?_append_right (by omega),hla,Nat.add_sub_cancel_left];exact hu
  rw [← ht,List.getElem?_take] at e1
  split at e1
  ·simpa using e1
  cases e1
 have hsz:(Tryz.prog.info? 43).map (·.size)=some 8:=Iz
 have hgd:Blk w.drew g 43 cs:=hg
 have hcp1:∀ ty dc sc,(Builtin.copy_ #[24,24] ty #[.slice (some ⟨g,(i+1)*8,none⟩) (n - i) dc,.slice (some ⟨g,i*8,none⟩) (n+1 - i) sc]).run Tryz.prog w.drew=.ok (goInt (Nat.min (n+1 - i) (n - i))) (w.drew.setCells g ((i+1)*8) ((l.drop i).flatMap NodD.cells)):=fun ty dc sc =>
  Bh w.drew _ _ ty 43 8 g ((i+1)*8) (n - i) dc ⟨g,i*8,none⟩ (n+1 - i) sc _ EF.under hsz (by rw [hlb];simp only [Nat.min_def];split <;> omega)
   (fun j v hj=>by
    have hadd:(⟨g,i*8,none⟩ : Addr).add j=⟨g,i*8+j,none⟩:=by unfold Addr.add;split <;> simp_all
    rw [hadd,hgd.cell];exact hcell j v hj)
   (fun j hj=>by rw [hgd.cell,Array.getElem?_eq_getElem (by rw [hcs];rw [hlb] at hj;omega)];rfl) (fun j hj=>hgd.frozen _) (hone _ (fun y hy=>List.mem_cons_of_mem _ (List.mem_of_mem_drop hy)))
 obtain ⟨cs1,hB1,hl1,hz1⟩:=Blk.setCells ((l.drop i).flatMap NodD.cells) ((i+1)*8) w.drew cs hgd (by rw [hlb,hcs];omega)
 have hX1:Ext (fun b=>b=g) w (w.drew.setCells g ((i+1)*8) ((l.drop i).flatMap NodD.cells)):=Ext.setCells _ _ (Ext.refl _ _).drew (.inr rfl)
 obtain ⟨W1,hW1⟩ : ∃ W1,W1=w.drew.setCells g ((i+1)*8) ((l.drop i).flatMap NodD.cells):=⟨_,rfl⟩
 rw [← hW1] at hcp1 hB1 hX1
 have hx1:Blk W1 bx 43 X.toArray:=hx.ext hX1 hne
 have hcp2:∀ ty dc,(Builtin.copy_ #[24,24] ty #[.slice (some ⟨g,i*8,none⟩) (n+1 - i) dc,.slice (some ⟨bx,0,none⟩) 1 1]).run Tryz.prog W1=.ok (goInt (Nat.min 1 (n+1 - i))) (W1.setCells g (i*8) (X)):=fun ty dc =>
  Bh W1 _ _ ty 43 8 g (i*8) (n+1 - i) dc ⟨bx,0,none⟩ 1 1 _ EF.under hsz (by rw [hXl];simp only [Nat.min_def];split <;> omega)
   (fun j v hj=>by
    have hadd:(⟨bx,0,none⟩ : Addr).add j=⟨bx,0+j,none⟩:=by unfold Addr.add;split <;> simp_all
    rw [hadd,hx1.cell,Nat.zero_add];simpa using hj)
   (fun j hj=>by rw [hB1.cell,Array.getElem?_eq_getElem (by rw [hz1,hcs];rw [hXl] at hj;omega)];rfl) (fun j hj=>hB1.frozen _) (fun v hv=>hXo v hv)
 obtain ⟨cs2,hB2,hl2,hz2'⟩:=Blk.setCells (X) (i*8) W1 cs1 hB1 (by rw [hXl,hz1,hcs];omega)
 have hX2:Ext (fun b=>b=g) w (W1.setCells g (i*8) (X)):=Ext.setCells _ _ hX1 (.inr rfl)
 have hfin:cs2.toList.take ((n+1)*8)=(l.take i ++ x :: l.drop i).flatMap NodD.cells:=by
  have h0:=DW (cs:=cs.toList) (a:=(l.take i).flatMap NodD.cells) (b:=(l.drop i).flatMap NodD.cells) (X:=X) (sz:=8) (by rw [hla,hlb,← hsplit,← ht];congr 1;omega) hXl (by rw [hla,hlb,Array.length_toList,hcs];omega)
   (c1:=cs1.toList) (c2:=cs2.toList) (by rw [hl1,hla,show i*8+8=(i+1)*8 by omega]) (by rw [hl2,hla])
  rw [hla,hlb,show i*8+8+(n - i)*8=(n+1)*8 by omega] at h0
  rw [h0,List.flatMap_append,List.flatMap_cons,List.append_assoc,hXe]
 have hsz2:cs2.size=cap*8:=by rw [hz2',hz1,hcs]
 have HF:=Lib.hid hfin
 have HS2:=Lib.hid hsz2
 clear hW1 hl2 hz2' hfin hsz2
 have HT:=Lib.hid ht
 have HS:=Lib.hid hsplit
 have HL1:=Lib.hid hl1
 have HZ1:=Lib.hid hz1
 have HLA:=Lib.hid hla
 have HLB:=Lib.hid hlb
 have HC:=Lib.hid hcs
 have HSZ:=Lib.hid hsz
 clear hXo hXe hXl hc1 hn ht hcell hsplit hl1 hz1 hla hlb hone hcs hsz
 go_enter Tryz.func98,Tryz.ntmps98
 go_wp2_with (simp only [hov])
 go_region_law_o (refine step_copy_runI rfl _ _ 24 24 rfl _ _ (by simp [Act.eval,Act.put]) (by simp [Act.eval,Act.put]) (hcp1 _ _ _) ?_)
 go_wp2_with (at_builtin;refine wpList_copy_runI _ rfl _ _ 24 24 rfl _ _ rfl rfl (hcp2 _ _) ?_)
 go_ret
 exact ⟨rfl,⟨cs2,hB2,HS2.out,HF.out⟩,hX2⟩
set_option maxHeartbeats 4000000 in
set_option maxRecDepth 100000 in
theorem KP (g cap i bx:Nat) (l:List NodD) (x:NodD) (cs:Array Value) (w:World) (hg:Blk w g 43 cs) (hcs:cs.size=cap*8) (ht:cs.toList.take (l.length*8)=l.flatMap NodD.cells)
  (hi:i < l.length) (hx:Blk w bx 43 (NodD.cells x).toArray) (hncap:l.length≤cap) (hcap:cap < l.length+1) (hc63:cap≤67108863) :
  Calls Tryz.prog 98 #[.slice (some ⟨g,0,none⟩) l.length cap,.int .i64 i,.slice (some ⟨bx,0,none⟩) 1 1] w fun e w' =>
   ∃ G,l.length+1≤G∧G≤maxLen∧e=.returned (.slice (some ⟨w.heap.size,0,none⟩) (l.length+1) G)∧(∃ cs',Blk w' w.heap.size 43 cs'∧cs'.size=G*8∧cs'.toList.take ((l.length+1)*8)=(l.take i ++ x :: l.drop i).flatMap NodD.cells)∧Ext Nothing w w':=by
 obtain ⟨ht0,i0,z,hi0,hz0,hzs,hsz0,h0,hle,hby⟩:=EF
 obtain ⟨X,hXe⟩ : ∃ X,X=NodD.cells x:=⟨_,rfl⟩
 have hXl:X.length=8:=by rw [hXe];exact H7 x
 have hXo:∀ v∈X,v.oneCell' = true:=by rw [hXe];exact Ht x
 rw [← hXe] at hx
 obtain ⟨n,hn⟩ : ∃ n,l.length=n:=⟨_,rfl⟩
 rw [hn] at hi hcap hncap ht ⊢
 have hz2:¬ ((i:Int)=(n:Int)):=by omega
 have hz3:(cap:Int) < (n:Int)+1:=by omega
 have hone:∀ k:List NodD,(∀ y∈k,y∈x :: l)→∀ v∈k.flatMap NodD.cells,v.oneCell' = true:=fun k hk v hv=>by
  obtain ⟨y,hy1,hy⟩:=List.mem_flatMap.1 hv
  exact Ht y v hy
 have hfl:∀ l:List NodD,(l.flatMap NodD.cells).length=l.length*8:=BQ H7
 have hsplit:l.flatMap NodD.cells=(l.take i).flatMap NodD.cells ++ (l.drop i).flatMap NodD.cells:=by rw [← List.flatMap_append,List.take_append_drop]
 have hla:((l.take i).flatMap NodD.cells).length=i*8:=by rw [hfl,List.length_take];omega
 have hlb:((l.drop i).flatMap NodD.cells).length=(n - i)*8:=by rw [hfl,List.length_drop];omega
 have hcell:∀ j u,(l.flatMap NodD.cells)[j]? = some u→cs[j]? = some u:=fun j u hu=>by
  rw [← ht,List.getElem?_take] at hu
  split at hu
  ·simpa using hu
  cases hu
 have hgw:=hg.lt
 have hkk:(n:Int)+1 - (i:Int)=((n+1 - i:Nat):Int):=by omega
 have hik:i+(n+1 - i)=n+1:=by omega
 have hold:(Builtin.firstCells i0.size i (.slice (some ⟨g,0,none⟩) i cap)).run Tryz.prog w.drew=.ok ((l.take i).flatMap NodD.cells).toArray w.drew:=by
  rw [hsz0]
  exact run_firstCells_some w.drew 8 i ⟨g,0,none⟩ i cap _ (by rw [hla]) (fun j v hj=>by
   have hadd:(⟨g,0,none⟩ : Addr).add j=⟨g,0+j,none⟩:=by unfold Addr.add;split <;> simp_all
   have hgd:Blk w.drew g 43 cs:=hg
   rw [hadd,hgd.cell,Nat.zero_add]
   exact hcell j v (by rw [hsplit,List.getElem?_append_left (List.getElem?_eq_some_iff.1 hj).1];exact hj))
 obtain ⟨G,hG⟩ : ∃ G,G=grownCap w (n+1) cap 43:=⟨_,rfl⟩
 obtain ⟨ROW,hROW⟩ : ∃ ROW:Array Value,ROW=((l.take i).flatMap NodD.cells).toArray ++ Builtin.zeroCells z.cells (n+1 - i) ++ Builtin.zeroCells z.cells (G - (n+1)):=⟨_,rfl⟩
 obtain ⟨W1,hW1⟩ : ∃ W1,W1=w.drew.alloc (.cells ROW 43):=⟨_,rfl⟩
 have hrz:∀ ty,(Builtin.append_ #[24,3] ty #[.slice (some ⟨g,0,none⟩) i cap,.int .i64 ((n:Int)+1 - (i:Int))]).run Tryz.prog w=.ok (.slice (some ⟨w.heap.size,0,none⟩) (n+1) G) W1:=fun ty=>by
  have h:=Lib.run_append_grow_zeros w 24 3 ty 43 i0 z .i64 .i64 ht0 (by kernel_rfl) hi0 hz0 (some ⟨g,0,none⟩) i cap _ hold (n+1 - i) (by omega) (by omega) (by omega) (by omega) (by have:=Nat.mul_le_mul (show n+1 - i≤67108864 by omega) hby;omega)
   (by rw [hik];exact growslice_fits hcap (by have:=Nat.mul_le_mul (show n+1≤67108864 by omega) hby;omega))
  rw [hik] at h
  rw [hkk,hW1,hROW,hG]
  exact h
 have hGn:n+1≤G:=by rw [hG];exact grownCap_ge w _ _ _
 have hGm:G≤maxLen:=by rw [hG];exact grownCap_le_maxLen w (n+1) cap 43 (by unfold maxLen;omega)
 have hG63:G≤9223372036854775807:=by unfold maxLen at hGm;omega
 have hzl:∀ k,(Builtin.zeroCells z.cells k).size=k*8:=fun k=>by simp [Builtin.zeroCells,hzs]
 have hRs:ROW.size=G*8:=by rw [hROW];simp only [Array.size_append,hzl,List.size_toArray,hla];omega
 have hRt:ROW.toList.take ((l.take i).flatMap NodD.cells).length=(l.take i).flatMap NodD.cells:=by
  rw [hROW];simp only [Array.toList_append,List.append_assoc];rw [List.take_append_of_le_length (Nat.le_refl _)];exact List.take_of_length_le (Nat.le_refl _)
 have hB1:Blk W1 w.heap.size 43 ROW:=by rw [hW1];exact Blk.new' _ _ _ rfl
 have hX1:Ext Nothing w W1:=by rw [hW1];exact ((Ext.refl _ _).drew).alloc _
 have hx1:Blk W1 bx 43 X.toArray:=hx.e0 hX1
 have hg1:Blk W1 g 43 cs:=hg.e0 hX1
 have hsz:(Tryz.prog.info? 43).map (·.size)=some 8:=Iz
 have hcpA:∀ ty dc,(Builtin.copy_ #[24,24] ty #[.slice (some ⟨w.heap.size,i*8,none⟩) (n+1 - i) dc,.slice (some ⟨bx,0,none⟩) 1 1]).run Tryz.prog W1=.ok (goInt (Nat.min 1 (n+1 - i))) (W1.setCells w.heap.size (i*8) (X)):=fun ty dc =>
  Bh W1 _ _ ty 43 8 w.heap.size (i*8) (n+1 - i) dc ⟨bx,0,none⟩ 1 1 _ ht0 hsz (by rw [hXl];simp only [Nat.min_def];split <;> omega)
   (fun j v hj=>by
    have hadd:(⟨bx,0,none⟩ : Addr).add j=⟨bx,0+j,none⟩:=by unfold Addr.add;split <;> simp_all
    rw [hadd,hx1.cell,Nat.zero_add];simpa using hj)
   (fun j hj=>by rw [hB1.cell,Array.getElem?_eq_getElem (by rw [hRs];rw [hXl] at hj;omega)];rfl) (fun j hj=>hB1.frozen _) (fun v hv=>hXo v hv)
 obtain ⟨cs1,hB2,hl1,hz1⟩:=Blk.setCells (X) (i*8) W1 ROW hB1 (by rw [hXl,hRs];omega)
 have hX2:Ext Nothing w (W1.setCells w.heap.size (i*8) (X)):=Ext.setCells _ _ hX1 (.inl (Nat.le_refl _))
 obtain ⟨W2,hW2⟩ : ∃ W2,W2=W1.setCells w.heap.size (i*8) (X):=⟨_,rfl⟩
 rw [← hW2] at hcpA hB2 hX2
 have hg2:Blk W2.drew g 43 cs:=(hg.e0 hX2:Blk W2 g _ cs)
 have hB2d:Blk W2.drew w.heap.size 43 cs1:=hB2
 have hcpB:∀ ty dc sc,(Builtin.copy_ #[24,24] ty #[.slice (some ⟨w.heap.size,(i+1)*8,none⟩) (n - i) dc,.slice (some ⟨g,i*8,none⟩) (n - i) sc]).run Tryz.prog W2.drew=.ok (goInt (Nat.min (n - i) (n - i))) (W2.drew.setCells w.heap.size ((i+1)*8) ((l.drop i).flatMap NodD.cells)):=fun ty dc sc =>
  Bh W2.drew _ _ ty 43 8 w.heap.size ((i+1)*8) (n - i) dc ⟨g,i*8,none⟩ (n - i) sc _ ht0 hsz (by rw [hlb];simp only [Nat.min_def];split <;> omega)
   (fun j v hj=>by
    have hadd:(⟨g,i*8,none⟩ : Addr).add j=⟨g,i*8+j,none⟩:=by unfold Addr.add;split <;> simp_all
    rw [hadd,hg2.cell];exact hcell _ v (by rw [hsplit,List.getElem?_append_right (by omega),hla,Nat.add_sub_cancel_left];exact hj))
   (fun j hj=>by rw [hB2d.cell,Array.getElem?_eq_getElem (by rw [hz1,hRs];rw [hlb] at hj;omega)];rfl) (fun j hj=>hB2d.frozen _) (hone _ (fun y hy=>List.mem_cons_of_mem _ (List.mem_of_mem_drop hy)))
 obtain ⟨cs2,hB3,hl2,hz3'⟩:=Blk.setCells ((l.drop i).flatMap NodD.cells) ((i+1)*8) W2.drew cs1 hB2d (by rw [hlb,hz1,hRs];omega)
 have hX3:Ext Nothing w (W2.drew.setCells w.heap.size ((i+1)*8) ((l.drop i).flatMap NodD.cells)):=Ext.setCells _ _ hX2.drew (.inl (Nat.le_refl _))
 have hfin:cs2.toList.take ((n+1)*8)=(l.take i ++ x :: l.drop i).flatMap NodD.cells:=by
  have h0:=Eh (R:=ROW.toList) (a:=(l.take i).flatMap NodD.cells) (b:=(l.drop i).flatMap NodD.cells) (X:=X) (sz:=8) hRt hXl (by rw [hla,hlb,Array.length_toList,hRs];omega)
   (c1:=cs1.toList) (c2:=cs2.toList) (by rw [hl1,hla]) (by rw [hl2,hla,show i*8+8=(i+1)*8 by omega])
  rw [hla,hlb,show i*8+8+(n - i)*8=(n+1)*8 by omega] at h0
  rw [h0,List.flatMap_append,List.flatMap_cons,List.append_assoc,hXe]
 have hsz2:cs2.size=G*8:=by rw [hz3',hz1,hRs]
 have HF:=Lib.hid hfin
 have HS2:=Lib.hid hsz2
 have HGm:=Lib.hid hGm
 have hw1:IntKind.i64.wrap ((i:Int)+1)=(i:Int)+1:=by rw [IntKind.wrap_i64];omega
 have hb1:(0:Int)≤(i:Int)+1:=by omega
 have hin:i≤n:=by omega
 have htn:((i:Int)+1).toNat=i+1:=by omega
 have hb3:(i:Int)≤(n:Int):=by omega
 have hGi:¬ (G=i):=by omega
 have hGim:¬ (G=i+1):=by omega
 have hci:¬ (cap=i):=by omega
 have mixed:Tryz.prog.follows Departure.mixedOrders=true:=by kernel_rfl
 clear hXo hXe hXl hW2 hl2 hz3' hfin hsz2 hz1 hl1 hRs hRt hW1 hROW hG hold hkk hik hcell hone hfl hsplit hla hlb hzl hcs ht hn hi0 hz0 hzs hsz0 h0 hle hby hsz hGm
 go_enter Tryz.func98,Tryz.ntmps98
 go_wp2_with (first
  | (at_builtin;refine Lib.wpList_append_run _ rfl _ _ _ _ rfl _ _ rfl rfl _ _ (hrz _) ?_)
  | (at_builtin;refine wpList_copy_runI _ rfl _ _ 24 24 rfl _ _ rfl rfl (hcpA _ _) ?_))
 go_region_law_o (refine step_copy_runI rfl _ _ 24 24 rfl _ _ (by simp [Act.eval,Act.put]) (by simp [Act.eval,Act.put]) (hcpB _ _ _) ?_)
 go_wp2
 go_ret
 exact ⟨G,hGn,HGm.out,rfl,⟨cs2,hB3,HS2.out,HF.out⟩,hX3⟩
end
section
open Go.RowKit
structure Later (w:World) where
 W:World
 ext:Ext Nothing w W
instance (w:World):Nonempty (Later w):=⟨⟨w,Ext.refl _ _⟩⟩
section
variable {P:Program} {K:Act→Prop} {a:Act} {o:Oper} {w:World}
def isLoad (o:Oper):Bool:=match o.op with|.load ..=>true|_=>false
def QI (o:Oper):Bool:=match o.op with|.call c=>(match c.callee with|.value ..=>true|_=>false)|_=>false
def Qp (a:Act) (o:Oper):Value:=match o.op with|.load _ x=>a.eval x|_=>undef
theorem Bw {C:World→Prop} (h:isLoad o=true) (hh:o.quiet P a C K):o.quiet P a C K:=hh
theorem BH {C:World→Prop} (h:QI o=true) (hh:o.quiet P a C K):o.quiet P a C K:=hh
theorem Ah (p:Addr) (v:Value) (hx:Qp a o=.pointer (some p)) (hr:∀ W,Ext Nothing w W→(execOp a.eval o).run P W=.ok (.value v) W) (hk:K (a.put o.dst v)):o.quiet P a (fun w'=>∃ x:Later w,w' = x.W) K :=
 ⟨v,fun W hW=>by obtain ⟨x,rfl⟩:=hW;unfold Oper.quietAt;rw [hr x.W x.ext];exact ⟨rfl,rfl⟩,hk⟩
theorem Ar (f:FuncId) (args:Array Value) (v:Value) (hr:∀ W,Ext Nothing w W→(execOp a.eval o).run P W=.ok (.enter f args) W) (hc:∀ W,Ext Nothing w W→Calls P f args W fun e w'=>e=.returned v∧Ext Nothing W w') (hk:K (a.put o.dst v)):o.quiet P a (fun w'=>∃ x:Later w,w' = x.W) K :=
 ⟨v,fun W hW=>by obtain ⟨x,rfl⟩:=hW;unfold Oper.quietAt;rw [hr x.W x.ext];exact ⟨rfl,(hc x.W x.ext).mono fun e w' h=>⟨h.1,⟨w',x.ext.tr h.2⟩,rfl⟩⟩,hk⟩
theorem AY {id:Nat} {Q:Exit→Act→World→Prop} {l:List Oper} (hm:P.follows .mixedOrders=true) (hB:Region.lexB .any l.toArray=true)
  (h:wpQuiet P l.toArray (fun w'=>∃ x:Later w,w' = x.W) (fun a'=>∀ w',Ext Nothing w w'→Q .normal a' w') l a):(Code.region id l.toArray true).wp P Q a w:=by
 refine wp_region_quiet (C:=fun w'=>∃ x:Later w,w' = x.W) hm hB ⟨⟨_,(Ext.refl _ _).drewN 1⟩,rfl⟩ ?_
 have e:(fun a'=>∀ w',Ext Nothing w w'→Q .normal a' w')=(fun a' : Act=>∀ w',(∃ x:Later w,w' = x.W)→Q .normal a' w'):=by
  funext a'
  exact propext ⟨fun h w' hw=>by obtain ⟨x,rfl⟩:=hw;exact h x.W x.ext,fun h w' hw=>h w' ⟨⟨w',hw⟩,rfl⟩⟩
 rw [← e]
 simpa using h
end
end
end Go.Proofs.YtccekmeifanipaaGreat
