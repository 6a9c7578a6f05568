/- Parts of the proof: At -/
import Derived.Test.YtccekmeifanipaaGreatRows
import Derived.StillTailTactics
import Derived.Test.YtccekmeifanipaaGreatT02
namespace Go.Proofs.YtccekmeifanipaaGreat
set_option linter.unusedVariables false
set_option linter.unusedSimpArgs false
set_option linter.unusedSectionVars false
open Go.RowKit
theorem STJob:Bb Tryz.prog 39 7:=.of (by kernel_rfl)
theorem Bz:Bb Tryz.prog 43 8:=.of (by kernel_rfl)
theorem Ba:Bb Tryz.prog 55 11:=.of (by kernel_rfl)
theorem Dt:Bb Tryz.prog 68 4:=.of (by kernel_rfl)
theorem Cb:Bb Tryz.prog 74 4:=.of (by kernel_rfl)
theorem Aj:Bb Tryz.prog 30 9:=.of (by kernel_rfl)
theorem Qh (x:JobV) (bx:Nat) (k:Int) (w:World) (hb:Blk w bx 3 #[.int .i64 k]) :
  Calls Tryz.prog 88 #[.agg (JobV.cells x).toArray,.pointer (some ⟨bx,0,none⟩)] w fun e w'=>e=.returned (.bool (x.1.id == k))∧Ext Nothing w w':=by
 obtain ⟨⟨x0,x1,x2,x3,xg,x5,x6⟩,xv⟩:=x
 have hx0:Ext Nothing w (w.alloc (.cells #[.int .i64 x0,.int .i64 x1,.int .i64 x2,.int .i64 x3,xv,.int .i64 x5,.bool x6] 39)):=(Ext.refl _ _).alloc _
 have q1:(w.alloc (.cells #[.int .i64 x0,.int .i64 x1,.int .i64 x2,.int .i64 x3,xv,.int .i64 x5,.bool x6] 39)).cell? ⟨bx,0,none⟩=some (.int .i64 k):=hx0.cell (hb.cell 0) (fun e=>e)
 simp only [JobV.cells]
 go_enter Tryz.func88,Tryz.ntmps88
 go_wp2
 go_ret
 exact ⟨rfl,hx0⟩
set_option maxHeartbeats 1000000 in
theorem Ro (A:Option Addr) (n cap:Nat) (l:List (JobV)) (bx:Nat) (k:Int) (w:World) (hl:Sl w 7 A n (l.map JobV.cells)) (hb:Blk w bx 3 #[.int .i64 k]) (hn:n≤67108864) :
  Calls Tryz.prog 87 #[.slice A n cap,.func (.func 88) #[] #[.pointer (some ⟨bx,0,none⟩)]] w fun e w'=>e=.returned (.int .i64 (CO (fun x=>x.1.id == k) l))∧Ext Nothing w w':=by
 have hlen:=Lib.hid hl.len
 go_enter Tryz.func87,Tryz.ntmps87
 go_wp2
 go_loopw [8] (fun i wr=>∃ j:Nat,j≤n∧i=.int .i64 j∧(∀ i < j,∀ y,l[i]? = some y→(y.1.id == k)=false)∧Ext Nothing w wr) (fun i _=>n - (intOf i).toNat)
 case atStart=>exact ⟨0,Nat.zero_le _,rfl,fun j hj=>absurd hj (by omega),Ext.refl _ _⟩
 case round =>
  obtain ⟨j,hj,rfl,hno,hx⟩:=hrel
  by_cases hlt:j < n
  ·obtain ⟨hjn,b,off,rfl,hce⟩:=hl.get hx hlt
   have hy:l[j]? = some l[j]:=List.getElem?_eq_getElem hjn
   generalize l[j]=x at hce hy
   cases hp:(x.1.id == k) with
   | true =>
    have hr:=Lib.hid (Dz (p:=fun x:JobV=>x.1.id == k) hno hy hp)
    have hp':=Lib.hid hp
    clear hno hy hp
    go_wp2_with (first|(refine Ad rfl 39 _ rfl STJob b (off+j*7) rfl (JobV.cells x).toArray (by exact hce) rfl ?_)|(go_at_call 88;refine (Qh x bx k _ (hb.e0 hx)).mono ?_;rintro e w' ⟨rfl,hx1⟩;rw [hp'.out]))
    go_ret
    exact ⟨by rw [hr.out];rfl,hx.tr hx1⟩
   | false =>
    have hno' : ∀ i < j+1,∀ y,l[i]? = some y→(y.1.id == k)=false:=fun i hi y hy'=>by
     by_cases h:i=j
     ·subst h;rw [hy] at hy';cases hy';exact hp
     exact hno i (by omega) y hy'
    have HN:=Lib.hid hno'
    have hp':=Lib.hid hp
    clear hno hno' hy hp
    go_wp2_with (first|(refine Ad rfl 39 _ rfl STJob b (off+j*7) rfl (JobV.cells x).toArray (by exact hce) rfl ?_)|(go_at_call 88;refine (Qh x bx k _ (hb.e0 hx)).mono ?_;rintro e w' ⟨rfl,hx1⟩;rw [hp'.out]))
    go_roundw
    case rel=>exact ⟨j+1,by omega,by go_num,HN.out,hx.tr hx1⟩
    case measure=>simp [intOf];omega
  have hr:=Lib.hid (CZ (p:=fun x:JobV=>x.1.id == k) (l:=l) (fun i hi y hy=>hno i (by have:=hlen.out;omega) y hy))
  clear hno
  go_wp2
  go_ret
  exact ⟨by rw [hr.out];rfl,hx⟩
theorem Bu (A:Option Addr) (n cap:Nat) (l:List (JobV)) (k:Int) (w:World) (hl:Sl w 7 A n (l.map JobV.cells)) (hn:n≤67108864) (s0 s1 s2 s3 s4 s5 s6 s7 s8:Value) (hs:s2=.slice A n cap) :
  Calls Tryz.prog 61 #[.agg #[s0,s1,s2,s3,s4,s5,s6,s7,s8],.int .i64 k] w fun e w'=>e=.returned (.int .i64 (CO (fun x=>x.1.id == k) l))∧Ext Nothing w w':=by
 subst hs
 have hx0:Ext Nothing w ((w.alloc (.cells #[s0,s1,.slice A n cap,s3,s4,s5,s6,s7,s8] 30)).alloc (.cells #[.int .i64 k] 3)):=((Ext.refl _ _).alloc _).alloc _
 have hb:Blk ((w.alloc (.cells #[s0,s1,.slice A n cap,s3,s4,s5,s6,s7,s8] 30)).alloc (.cells #[.int .i64 k] 3)) (w.heap.size+1) 3 #[.int .i64 k]:=Blk.new' _ _ _ (by simp)
 go_enter Tryz.func61,Tryz.ntmps61
 go_wp2_with (go_at_call 87;refine (Ro A n cap l _ k _ (hl.Al hx0) hb hn).mono ?_;rintro e w' ⟨rfl,hx⟩)
 go_ret
 exact ⟨rfl,hx0.tr hx⟩
theorem isStable (x:JobV) (bx:Nat) (k:Int) (w:World) (hb:Blk w bx 3 #[.int .i64 k]) :
  Calls Tryz.prog 111 #[.agg (JobV.cells x).toArray,.pointer (some ⟨bx,0,none⟩)] w fun e w'=>e=.returned (.bool (x.1.id == k))∧Ext Nothing w w':=by
 obtain ⟨⟨x0,x1,x2,x3,xg,x5,x6⟩,xv⟩:=x
 have hx0:Ext Nothing w (w.alloc (.cells #[.int .i64 x0,.int .i64 x1,.int .i64 x2,.int .i64 x3,xv,.int .i64 x5,.bool x6] 39)):=(Ext.refl _ _).alloc _
 have q1:(w.alloc (.cells #[.int .i64 x0,.int .i64 x1,.int .i64 x2,.int .i64 x3,xv,.int .i64 x5,.bool x6] 39)).cell? ⟨bx,0,none⟩=some (.int .i64 k):=hx0.cell (hb.cell 0) (fun e=>e)
 simp only [JobV.cells,reduceCtorEq]
 go_enter Tryz.func111,Tryz.ntmps111
 go_wp2
 go_ret
 exact ⟨rfl,hx0⟩
set_option maxHeartbeats 1000000 in
theorem Ot (A:Option Addr) (n cap:Nat) (l:List (JobV)) (bx:Nat) (k:Int) (w:World) (hl:Sl w 7 A n (l.map JobV.cells)) (hb:Blk w bx 3 #[.int .i64 k]) (hn:n≤67108864) :
  Calls Tryz.prog 87 #[.slice A n cap,.func (.func 111) #[] #[.pointer (some ⟨bx,0,none⟩)]] w fun e w'=>e=.returned (.int .i64 (CO (fun x=>x.1.id == k) l))∧Ext Nothing w w':=by
 have hlen:=Lib.hid hl.len
 go_enter Tryz.func87,Tryz.ntmps87
 go_wp2
 go_loopw [8] (fun i wr=>∃ j:Nat,j≤n∧i=.int .i64 j∧(∀ i < j,∀ y,l[i]? = some y→(y.1.id == k)=false)∧Ext Nothing w wr) (fun i _=>n - (intOf i).toNat)
 case atStart=>exact ⟨0,Nat.zero_le _,rfl,fun j hj=>absurd hj (by omega),Ext.refl _ _⟩
 case round =>
  obtain ⟨j,hj,rfl,hno,hx⟩:=hrel
  by_cases hlt:j < n
  ·obtain ⟨hjn,b,off,rfl,hce⟩:=hl.get hx hlt
   have hy:l[j]? = some l[j]:=List.getElem?_eq_getElem hjn
   generalize l[j]=x at hce hy
   cases hp:(x.1.id == k) with
   | true =>
    have hr:=Lib.hid (Dz (p:=fun x:JobV=>x.1.id == k) hno hy hp)
    have hp':=Lib.hid hp
    clear hno hy hp
    go_wp2_with (first|(refine Ad rfl 39 _ rfl STJob b (off+j*7) rfl (JobV.cells x).toArray (by exact hce) rfl ?_)|(go_at_call 111;refine (isStable x bx k _ (hb.e0 hx)).mono ?_;rintro e w' ⟨rfl,hx1⟩;rw [hp'.out]))
    go_ret
    exact ⟨by rw [hr.out];rfl,hx.tr hx1⟩
   | false =>
    have hno' : ∀ i < j+1,∀ y,l[i]? = some y→(y.1.id == k)=false:=fun i hi y hy'=>by
     by_cases h:i=j
     ·subst h;rw [hy] at hy';cases hy';exact hp
     exact hno i (by omega) y hy'
    have HN:=Lib.hid hno'
    have hp':=Lib.hid hp
    clear hno hno' hy hp
    go_wp2_with (first|(refine Ad rfl 39 _ rfl STJob b (off+j*7) rfl (JobV.cells x).toArray (by exact hce) rfl ?_)|(go_at_call 111;refine (isStable x bx k _ (hb.e0 hx)).mono ?_;rintro e w' ⟨rfl,hx1⟩;rw [hp'.out]))
    go_roundw
    case rel=>exact ⟨j+1,by omega,by go_num,HN.out,hx.tr hx1⟩
    case measure=>simp [intOf];omega
  have hr:=Lib.hid (CZ (p:=fun x:JobV=>x.1.id == k) (l:=l) (fun i hi y hy=>hno i (by have:=hlen.out;omega) y hy))
  clear hno
  go_wp2
  go_ret
  exact ⟨by rw [hr.out];rfl,hx⟩
theorem IR (A:Option Addr) (n cap:Nat) (l:List (JobV)) (k:Int) (w:World) (hl:Sl w 7 A n (l.map JobV.cells)) (hn:n≤67108864) (s0 s1 s2 s3 s4 s5 s6 s7 s8:Value) (hs:s3=.slice A n cap) :
  Calls Tryz.prog 80 #[.agg #[s0,s1,s2,s3,s4,s5,s6,s7,s8],.int .i64 k] w fun e w'=>e=.returned (.int .i64 (CO (fun x=>x.1.id == k) l))∧Ext Nothing w w':=by
 subst hs
 have hx0:Ext Nothing w ((w.alloc (.cells #[s0,s1,s2,.slice A n cap,s4,s5,s6,s7,s8] 30)).alloc (.cells #[.int .i64 k] 3)):=((Ext.refl _ _).alloc _).alloc _
 have hb:Blk ((w.alloc (.cells #[s0,s1,s2,.slice A n cap,s4,s5,s6,s7,s8] 30)).alloc (.cells #[.int .i64 k] 3)) (w.heap.size+1) 3 #[.int .i64 k]:=Blk.new' _ _ _ (by simp)
 go_enter Tryz.func80,Tryz.ntmps80
 go_wp2_with (go_at_call 87;refine (Ot A n cap l _ k _ (hl.Al hx0) hb hn).mono ?_;rintro e w' ⟨rfl,hx⟩)
 go_ret
 exact ⟨rfl,hx0.tr hx⟩
theorem isNode (x:NodD) (bx:Nat) (k:Int) (w:World) (hb:Blk w bx 3 #[.int .i64 k]) :
  Calls Tryz.prog 97 #[.agg (NodD.cells x).toArray,.pointer (some ⟨bx,0,none⟩)] w fun e w'=>e=.returned (.bool (x.id == k))∧Ext Nothing w w':=by
 obtain ⟨x0,⟨x1,x2⟩,x3,x4,x5,x6,x7⟩:=x
 have hx0:Ext Nothing w (w.alloc (.cells #[.int .i64 x0,.int .i64 x1,.int .i64 x2,.bool x3,.bool x4,.int .i64 x5,.int .i64 x6,.int .i64 x7] 43)):=(Ext.refl _ _).alloc _
 have q1:(w.alloc (.cells #[.int .i64 x0,.int .i64 x1,.int .i64 x2,.bool x3,.bool x4,.int .i64 x5,.int .i64 x6,.int .i64 x7] 43)).cell? ⟨bx,0,none⟩=some (.int .i64 k):=hx0.cell (hb.cell 0) (fun e=>e)
 simp only [NodD.cells]
 go_enter Tryz.func97,Tryz.ntmps97
 go_wp2
 go_ret
 exact ⟨rfl,hx0⟩
set_option maxHeartbeats 1000000 in
theorem Qm (A:Option Addr) (n cap:Nat) (l:List (NodD)) (bx:Nat) (k:Int) (w:World) (hl:Sl w 8 A n (l.map NodD.cells)) (hb:Blk w bx 3 #[.int .i64 k]) (hn:n≤67108864) :
  Calls Tryz.prog 96 #[.slice A n cap,.func (.func 97) #[] #[.pointer (some ⟨bx,0,none⟩)]] w fun e w'=>e=.returned (.int .i64 (CO (fun x=>x.id == k) l))∧Ext Nothing w w':=by
 have hlen:=Lib.hid hl.len
 go_enter Tryz.func96,Tryz.ntmps96
 go_wp2
 go_loopw [8] (fun i wr=>∃ j:Nat,j≤n∧i=.int .i64 j∧(∀ i < j,∀ y,l[i]? = some y→(y.id == k)=false)∧Ext Nothing w wr) (fun i _=>n - (intOf i).toNat)
 case atStart=>exact ⟨0,Nat.zero_le _,rfl,fun j hj=>absurd hj (by omega),Ext.refl _ _⟩
 case round =>
  obtain ⟨j,hj,rfl,hno,hx⟩:=hrel
  by_cases hlt:j < n
  ·obtain ⟨hjn,b,off,rfl,hce⟩:=hl.get hx hlt
   have hy:l[j]? = some l[j]:=List.getElem?_eq_getElem hjn
   generalize l[j]=x at hce hy
   cases hp:(x.id == k) with
   | true =>
    have hr:=Lib.hid (Dz (p:=fun x:NodD=>x.id == k) hno hy hp)
    have hp':=Lib.hid hp
    clear hno hy hp
    go_wp2_with (first|(refine Ad rfl 43 _ rfl Bz b (off+j*8) rfl (NodD.cells x).toArray (by exact hce) rfl ?_)|(go_at_call 97;refine (isNode x bx k _ (hb.e0 hx)).mono ?_;rintro e w' ⟨rfl,hx1⟩;rw [hp'.out]))
    go_ret
    exact ⟨by rw [hr.out];rfl,hx.tr hx1⟩
   | false =>
    have hno' : ∀ i < j+1,∀ y,l[i]? = some y→(y.id == k)=false:=fun i hi y hy'=>by
     by_cases h:i=j
     ·subst h;rw [hy] at hy';cases hy';exact hp
     exact hno i (by omega) y hy'
    have HN:=Lib.hid hno'
    have hp':=Lib.hid hp
    clear hno hno' hy hp
    go_wp2_with (first|(refine Ad rfl 43 _ rfl Bz b (off+j*8) rfl (NodD.cells x).toArray (by exact hce) rfl ?_)|(go_at_call 97;refine (isNode x bx k _ (hb.e0 hx)).mono ?_;rintro e w' ⟨rfl,hx1⟩;rw [hp'.out]))
    go_roundw
    case rel=>exact ⟨j+1,by omega,by go_num,HN.out,hx.tr hx1⟩
    case measure=>simp [intOf];omega
  have hr:=Lib.hid (CZ (p:=fun x:NodD=>x.id == k) (l:=l) (fun i hi y hy=>hno i (by have:=hlen.out;omega) y hy))
  clear hno
  go_wp2
  go_ret
  exact ⟨by rw [hr.out];rfl,hx⟩
theorem Dq (A:Option Addr) (n cap:Nat) (l:List (NodD)) (k:Int) (w:World) (hl:Sl w 8 A n (l.map NodD.cells)) (hn:n≤67108864) (s0 s1 s2 s3 s4 s5 s6 s7 s8:Value) (hs:s4=.slice A n cap) :
  Calls Tryz.prog 66 #[.agg #[s0,s1,s2,s3,s4,s5,s6,s7,s8],.int .i64 k] w fun e w'=>e=.returned (.int .i64 (CO (fun x=>x.id == k) l))∧Ext Nothing w w':=by
 subst hs
 have hx0:Ext Nothing w ((w.alloc (.cells #[s0,s1,s2,s3,.slice A n cap,s5,s6,s7,s8] 30)).alloc (.cells #[.int .i64 k] 3)):=((Ext.refl _ _).alloc _).alloc _
 have hb:Blk ((w.alloc (.cells #[s0,s1,s2,s3,.slice A n cap,s5,s6,s7,s8] 30)).alloc (.cells #[.int .i64 k] 3)) (w.heap.size+1) 3 #[.int .i64 k]:=Blk.new' _ _ _ (by simp)
 go_enter Tryz.func66,Tryz.ntmps66
 go_wp2_with (go_at_call 96;refine (Qm A n cap l _ k _ (hl.Al hx0) hb hn).mono ?_;rintro e w' ⟨rfl,hx⟩)
 go_ret
 exact ⟨rfl,hx0.tr hx⟩
theorem isAlloc (x:Ac) (bx:Nat) (k:Int) (w:World) (hb:Blk w bx 3 #[.int .i64 k]) :
  Calls Tryz.prog 104 #[.agg (Ac.cells x).toArray,.pointer (some ⟨bx,0,none⟩)] w fun e w'=>e=.returned (.bool (x.id == k))∧Ext Nothing w w':=by
 obtain ⟨x0,x1,x2,x3,x4,x5,x6,⟨x7,x8⟩,x9,x10⟩:=x
 have hx0:Ext Nothing w (w.alloc (.cells #[.int .i64 x0,.int .i64 x1,.int .i64 x2,.int .i64 x3,.int .i64 x4,.int .i64 x5,.int .i64 x6,.int .i64 x7,.int .i64 x8,.bool x9,.int .i64 x10] 55)):=(Ext.refl _ _).alloc _
 have q1:(w.alloc (.cells #[.int .i64 x0,.int .i64 x1,.int .i64 x2,.int .i64 x3,.int .i64 x4,.int .i64 x5,.int .i64 x6,.int .i64 x7,.int .i64 x8,.bool x9,.int .i64 x10] 55)).cell? ⟨bx,0,none⟩=some (.int .i64 k):=hx0.cell (hb.cell 0) (fun e=>e)
 simp only [Ac.cells,reduceCtorEq]
 go_enter Tryz.func104,Tryz.ntmps104
 go_wp2
 go_ret
 exact ⟨rfl,hx0⟩
set_option maxHeartbeats 1000000 in
theorem Py (A:Option Addr) (n cap:Nat) (l:List (Ac)) (bx:Nat) (k:Int) (w:World) (hl:Sl w 11 A n (l.map Ac.cells)) (hb:Blk w bx 3 #[.int .i64 k]) (hn:n≤67108864) :
  Calls Tryz.prog 103 #[.slice A n cap,.func (.func 104) #[] #[.pointer (some ⟨bx,0,none⟩)]] w fun e w'=>e=.returned (.int .i64 (CO (fun x=>x.id == k) l))∧Ext Nothing w w':=by
 have hlen:=Lib.hid hl.len
 go_enter Tryz.func103,Tryz.ntmps103
 go_wp2
 go_loopw [8] (fun i wr=>∃ j:Nat,j≤n∧i=.int .i64 j∧(∀ i < j,∀ y,l[i]? = some y→(y.id == k)=false)∧Ext Nothing w wr) (fun i _=>n - (intOf i).toNat)
 case atStart=>exact ⟨0,Nat.zero_le _,rfl,fun j hj=>absurd hj (by omega),Ext.refl _ _⟩
 case round =>
  obtain ⟨j,hj,rfl,hno,hx⟩:=hrel
  by_cases hlt:j < n
  ·obtain ⟨hjn,b,off,rfl,hce⟩:=hl.get hx hlt
   have hy:l[j]? = some l[j]:=List.getElem?_eq_getElem hjn
   generalize l[j]=x at hce hy
   cases hp:(x.id == k) with
   | true =>
    have hr:=Lib.hid (Dz (p:=fun x:Ac=>x.id == k) hno hy hp)
    have hp':=Lib.hid hp
    clear hno hy hp
    go_wp2_with (first|(refine Ad rfl 55 _ rfl Ba b (off+j*11) rfl (Ac.cells x).toArray (by exact hce) rfl ?_)|(go_at_call 104;refine (isAlloc x bx k _ (hb.e0 hx)).mono ?_;rintro e w' ⟨rfl,hx1⟩;rw [hp'.out]))
    go_ret
    exact ⟨by rw [hr.out];rfl,hx.tr hx1⟩
   | false =>
    have hno' : ∀ i < j+1,∀ y,l[i]? = some y→(y.id == k)=false:=fun i hi y hy'=>by
     by_cases h:i=j
     ·subst h;rw [hy] at hy';cases hy';exact hp
     exact hno i (by omega) y hy'
    have HN:=Lib.hid hno'
    have hp':=Lib.hid hp
    clear hno hno' hy hp
    go_wp2_with (first|(refine Ad rfl 55 _ rfl Ba b (off+j*11) rfl (Ac.cells x).toArray (by exact hce) rfl ?_)|(go_at_call 104;refine (isAlloc x bx k _ (hb.e0 hx)).mono ?_;rintro e w' ⟨rfl,hx1⟩;rw [hp'.out]))
    go_roundw
    case rel=>exact ⟨j+1,by omega,by go_num,HN.out,hx.tr hx1⟩
    case measure=>simp [intOf];omega
  have hr:=Lib.hid (CZ (p:=fun x:Ac=>x.id == k) (l:=l) (fun i hi y hy=>hno i (by have:=hlen.out;omega) y hy))
  clear hno
  go_wp2
  go_ret
  exact ⟨by rw [hr.out];rfl,hx⟩
theorem Fx (A:Option Addr) (n cap:Nat) (l:List (Ac)) (k:Int) (w:World) (hl:Sl w 11 A n (l.map Ac.cells)) (hn:n≤67108864) (s0 s1 s2 s3 s4 s5 s6 s7 s8:Value) (hs:s5=.slice A n cap) :
  Calls Tryz.prog 76 #[.agg #[s0,s1,s2,s3,s4,s5,s6,s7,s8],.int .i64 k] w fun e w'=>e=.returned (.int .i64 (CO (fun x=>x.id == k) l))∧Ext Nothing w w':=by
 subst hs
 have hx0:Ext Nothing w ((w.alloc (.cells #[s0,s1,s2,s3,s4,.slice A n cap,s6,s7,s8] 30)).alloc (.cells #[.int .i64 k] 3)):=((Ext.refl _ _).alloc _).alloc _
 have hb:Blk ((w.alloc (.cells #[s0,s1,s2,s3,s4,.slice A n cap,s6,s7,s8] 30)).alloc (.cells #[.int .i64 k] 3)) (w.heap.size+1) 3 #[.int .i64 k]:=Blk.new' _ _ _ (by simp)
 go_enter Tryz.func76,Tryz.ntmps76
 go_wp2_with (go_at_call 103;refine (Py A n cap l _ k _ (hl.Al hx0) hb hn).mono ?_;rintro e w' ⟨rfl,hx⟩)
 go_ret
 exact ⟨rfl,hx0.tr hx⟩
theorem isEval (x:EvalD) (bx:Nat) (k:Int) (w:World) (hb:Blk w bx 3 #[.int .i64 k]) :
  Calls Tryz.prog 102 #[.agg (EvalD.cells x).toArray,.pointer (some ⟨bx,0,none⟩)] w fun e w'=>e=.returned (.bool (x.job == k))∧Ext Nothing w w':=by
 obtain ⟨x0,x1,x2,x3⟩:=x
 have hx0:Ext Nothing w (w.alloc (.cells #[.int .i64 x0,.int .i64 x1,.int .i64 x2,.int .i64 x3] 68)):=(Ext.refl _ _).alloc _
 have q1:(w.alloc (.cells #[.int .i64 x0,.int .i64 x1,.int .i64 x2,.int .i64 x3] 68)).cell? ⟨bx,0,none⟩=some (.int .i64 k):=hx0.cell (hb.cell 0) (fun e=>e)
 simp only [EvalD.cells]
 go_enter Tryz.func102,Tryz.ntmps102
 go_wp2
 go_ret
 exact ⟨rfl,hx0⟩
set_option maxHeartbeats 1000000 in
theorem QF (A:Option Addr) (n cap:Nat) (l:List (EvalD)) (bx:Nat) (k:Int) (w:World) (hl:Sl w 4 A n (l.map EvalD.cells)) (hb:Blk w bx 3 #[.int .i64 k]) (hn:n≤67108864) :
  Calls Tryz.prog 101 #[.slice A n cap,.func (.func 102) #[] #[.pointer (some ⟨bx,0,none⟩)]] w fun e w'=>e=.returned (.int .i64 (CO (fun x=>x.job == k) l))∧Ext Nothing w w':=by
 have hlen:=Lib.hid hl.len
 go_enter Tryz.func101,Tryz.ntmps101
 go_wp2
 go_loopw [8] (fun i wr=>∃ j:Nat,j≤n∧i=.int .i64 j∧(∀ i < j,∀ y,l[i]? = some y→(y.job == k)=false)∧Ext Nothing w wr) (fun i _=>n - (intOf i).toNat)
 case atStart=>exact ⟨0,Nat.zero_le _,rfl,fun j hj=>absurd hj (by omega),Ext.refl _ _⟩
 case round =>
  obtain ⟨j,hj,rfl,hno,hx⟩:=hrel
  by_cases hlt:j < n
  ·obtain ⟨hjn,b,off,rfl,hce⟩:=hl.get hx hlt
   have hy:l[j]? = some l[j]:=List.getElem?_eq_getElem hjn
   generalize l[j]=x at hce hy
   cases hp:(x.job == k) with
   | true =>
    have hr:=Lib.hid (Dz (p:=fun x:EvalD=>x.job == k) hno hy hp)
    have hp':=Lib.hid hp
    clear hno hy hp
    go_wp2_with (first|(refine Ad rfl 68 _ rfl Dt b (off+j*4) rfl (EvalD.cells x).toArray (by exact hce) rfl ?_)|(go_at_call 102;refine (isEval x bx k _ (hb.e0 hx)).mono ?_;rintro e w' ⟨rfl,hx1⟩;rw [hp'.out]))
    go_ret
    exact ⟨by rw [hr.out];rfl,hx.tr hx1⟩
   | false =>
    have hno' : ∀ i < j+1,∀ y,l[i]? = some y→(y.job == k)=false:=fun i hi y hy'=>by
     by_cases h:i=j
     ·subst h;rw [hy] at hy';cases hy';exact hp
     exact hno i (by omega) y hy'
    have HN:=Lib.hid hno'
    have hp':=Lib.hid hp
    clear hno hno' hy hp
    go_wp2_with (first|(refine Ad rfl 68 _ rfl Dt b (off+j*4) rfl (EvalD.cells x).toArray (by exact hce) rfl ?_)|(go_at_call 102;refine (isEval x bx k _ (hb.e0 hx)).mono ?_;rintro e w' ⟨rfl,hx1⟩;rw [hp'.out]))
    go_roundw
    case rel=>exact ⟨j+1,by omega,by go_num,HN.out,hx.tr hx1⟩
    case measure=>simp [intOf];omega
  have hr:=Lib.hid (CZ (p:=fun x:EvalD=>x.job == k) (l:=l) (fun i hi y hy=>hno i (by have:=hlen.out;omega) y hy))
  clear hno
  go_wp2
  go_ret
  exact ⟨by rw [hr.out];rfl,hx⟩
theorem DZ (A:Option Addr) (n cap:Nat) (l:List (EvalD)) (k:Int) (w:World) (hl:Sl w 4 A n (l.map EvalD.cells)) (hn:n≤67108864) (s0 s1 s2 s3 s4 s5 s6 s7 s8:Value) (hs:s6=.slice A n cap) :
  Calls Tryz.prog 75 #[.agg #[s0,s1,s2,s3,s4,s5,s6,s7,s8],.int .i64 k] w fun e w'=>e=.returned (.int .i64 (CO (fun x=>x.job == k) l))∧Ext Nothing w w':=by
 subst hs
 have hx0:Ext Nothing w ((w.alloc (.cells #[s0,s1,s2,s3,s4,s5,.slice A n cap,s7,s8] 30)).alloc (.cells #[.int .i64 k] 3)):=((Ext.refl _ _).alloc _).alloc _
 have hb:Blk ((w.alloc (.cells #[s0,s1,s2,s3,s4,s5,.slice A n cap,s7,s8] 30)).alloc (.cells #[.int .i64 k] 3)) (w.heap.size+1) 3 #[.int .i64 k]:=Blk.new' _ _ _ (by simp)
 go_enter Tryz.func75,Tryz.ntmps75
 go_wp2_with (go_at_call 101;refine (QF A n cap l _ k _ (hl.Al hx0) hb hn).mono ?_;rintro e w' ⟨rfl,hx⟩)
 go_ret
 exact ⟨rfl,hx0.tr hx⟩
theorem isDeploy (x:DepD) (bx:Nat) (k:Int) (w:World) (hb:Blk w bx 3 #[.int .i64 k]) :
  Calls Tryz.prog 93 #[.agg (DepD.cells x).toArray,.pointer (some ⟨bx,0,none⟩)] w fun e w'=>e=.returned (.bool (x.job == k))∧Ext Nothing w w':=by
 obtain ⟨x0,x1,x2,x3⟩:=x
 have hx0:Ext Nothing w (w.alloc (.cells #[.int .i64 x0,.int .i64 x1,.int .i64 x2,.int .i64 x3] 74)):=(Ext.refl _ _).alloc _
 have q1:(w.alloc (.cells #[.int .i64 x0,.int .i64 x1,.int .i64 x2,.int .i64 x3] 74)).cell? ⟨bx,0,none⟩=some (.int .i64 k):=hx0.cell (hb.cell 0) (fun e=>e)
 simp only [DepD.cells,reduceCtorEq]
 go_enter Tryz.func93,Tryz.ntmps93
 go_wp2
 go_ret
 exact ⟨rfl,hx0⟩
set_option maxHeartbeats 1000000 in
theorem OP (A:Option Addr) (n cap:Nat) (l:List (DepD)) (bx:Nat) (k:Int) (w:World) (hl:Sl w 4 A n (l.map DepD.cells)) (hb:Blk w bx 3 #[.int .i64 k]) (hn:n≤67108864) :
  Calls Tryz.prog 92 #[.slice A n cap,.func (.func 93) #[] #[.pointer (some ⟨bx,0,none⟩)]] w fun e w'=>e=.returned (.int .i64 (CO (fun x=>x.job == k) l))∧Ext Nothing w w':=by
 have hlen:=Lib.hid hl.len
 go_enter Tryz.func92,Tryz.ntmps92
 go_wp2
 go_loopw [8] (fun i wr=>∃ j:Nat,j≤n∧i=.int .i64 j∧(∀ i < j,∀ y,l[i]? = some y→(y.job == k)=false)∧Ext Nothing w wr) (fun i _=>n - (intOf i).toNat)
 case atStart=>exact ⟨0,Nat.zero_le _,rfl,fun j hj=>absurd hj (by omega),Ext.refl _ _⟩
 case round =>
  obtain ⟨j,hj,rfl,hno,hx⟩:=hrel
  by_cases hlt:j < n
  ·obtain ⟨hjn,b,off,rfl,hce⟩:=hl.get hx hlt
   have hy:l[j]? = some l[j]:=List.getElem?_eq_getElem hjn
   generalize l[j]=x at hce hy
   cases hp:(x.job == k) with
   | true =>
    have hr:=Lib.hid (Dz (p:=fun x:DepD=>x.job == k) hno hy hp)
    have hp':=Lib.hid hp
    clear hno hy hp
    go_wp2_with (first|(refine Ad rfl 74 _ rfl Cb b (off+j*4) rfl (DepD.cells x).toArray (by exact hce) rfl ?_)|(go_at_call 93;refine (isDeploy x bx k _ (hb.e0 hx)).mono ?_;rintro e w' ⟨rfl,hx1⟩;rw [hp'.out]))
    go_ret
    exact ⟨by rw [hr.out];rfl,hx.tr hx1⟩
   | false =>
    have hno' : ∀ i < j+1,∀ y,l[i]? = some y→(y.job == k)=false:=fun i hi y hy'=>by
     by_cases h:i=j
     ·subst h;rw [hy] at hy';cases hy';exact hp
     exact hno i (by omega) y hy'
    have HN:=Lib.hid hno'
    have hp':=Lib.hid hp
    clear hno hno' hy hp
    go_wp2_with (first|(refine Ad rfl 74 _ rfl Cb b (off+j*4) rfl (DepD.cells x).toArray (by exact hce) rfl ?_)|(go_at_call 93;refine (isDeploy x bx k _ (hb.e0 hx)).mono ?_;rintro e w' ⟨rfl,hx1⟩;rw [hp'.out]))
    go_roundw
    case rel=>exact ⟨j+1,by omega,by go_num,HN.out,hx.tr hx1⟩
    case measure=>simp [intOf];omega
  have hr:=Lib.hid (CZ (p:=fun x:DepD=>x.job == k) (l:=l) (fun i hi y hy=>hno i (by have:=hlen.out;omega) y hy))
  clear hno
  go_wp2
  go_ret
  exact ⟨by rw [hr.out];rfl,hx⟩
theorem Dm (A:Option Addr) (n cap:Nat) (l:List (DepD)) (k:Int) (w:World) (hl:Sl w 4 A n (l.map DepD.cells)) (hn:n≤67108864) (s0 s1 s2 s3 s4 s5 s6 s7 s8:Value) (hs:s7=.slice A n cap) :
  Calls Tryz.prog 63 #[.agg #[s0,s1,s2,s3,s4,s5,s6,s7,s8],.int .i64 k] w fun e w'=>e=.returned (.int .i64 (CO (fun x=>x.job == k) l))∧Ext Nothing w w':=by
 subst hs
 have hx0:Ext Nothing w ((w.alloc (.cells #[s0,s1,s2,s3,s4,s5,s6,.slice A n cap,s8] 30)).alloc (.cells #[.int .i64 k] 3)):=((Ext.refl _ _).alloc _).alloc _
 have hb:Blk ((w.alloc (.cells #[s0,s1,s2,s3,s4,s5,s6,.slice A n cap,s8] 30)).alloc (.cells #[.int .i64 k] 3)) (w.heap.size+1) 3 #[.int .i64 k]:=Blk.new' _ _ _ (by simp)
 go_enter Tryz.func63,Tryz.ntmps63
 go_wp2_with (go_at_call 92;refine (OP A n cap l _ k _ (hl.Al hx0) hb hn).mono ?_;rintro e w' ⟨rfl,hx⟩)
 go_ret
 exact ⟨rfl,hx0.tr hx⟩
end Go.Proofs.YtccekmeifanipaaGreat
