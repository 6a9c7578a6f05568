/- Parts of the proof: FsmBt Batch -/
import Derived.Test.YtccekmeifanipaaGreatL35
import Derived.Test.YtccekmeifanipaaGreatL12
namespace Go.Proofs.YtccekmeifanipaaGreat
set_option linter.unusedVariables false
set_option linter.unusedSimpArgs false
set_option linter.unusedSectionVars false
section
open Go.RowKit
namespace Fsm
structure Cx (j : Al) (s t : Ab) : Prop where
 old : ∀ b ∈ s.allocs,b.state = 3 → b.job = j.id → b.ver = j.ver → b ∈ t.allocs
 new : ∀ a ∈ t.allocs,a ∈ s.allocs ∨ (a.job = j.id ∧ a.ver = j.ver ∧ ∀ b ∈ s.allocs,b.state = 3 → b.job = j.id → b.ver = j.ver → b.group = a.group → b.index = a.index → False)
theorem Cx.refl (j : Al) (s : Ab) : Cx j s s := ⟨fun _ h _ _ _ => h,fun _ h => .inl h⟩
theorem Cx.trans {j : Al} {s t u : Ab} (h : Cx j s t) (k : Cx j t u) : Cx j s u :=
 ⟨fun b hb h1 h2 h3 => k.old b (h.old b hb h1 h2 h3) h1 h2 h3,fun a ha => by
  rcases k.new a ha with h1 | ⟨h1,h2,h3⟩
  ·exact h.new a h1
  exact .inr ⟨h1,h2,fun b hb e1 e2 e3 => h3 b (h.old b hb e1 e2 e3) e1 e2 e3⟩⟩
theorem Jv {s : Ab} {j : Al} {n : NodD} {x : Ac} (hty : j.ty = 2) (h : Ef s j n x = true) : Cx j s (placed s j n x) := by
 refine ⟨fun b hb _ _ _ => List.mem_append_left _ hb,fun a ha => ?_⟩
 rcases List.mem_append.1 (show a ∈ s.allocs ++ [_] from ha) with ha | ha
 ·exact .inl ha
 rw [List.mem_singleton.1 ha]
 refine .inr ⟨rfl,rfl,fun b hb h1 h2 h3 h4 h5 => ?_⟩
 unfold Ef at h
 simp only [Bool.and_eq_true] at h
 have h6 := h.1.2
 simp only [Bool.not_eq_true',List.any_eq_false] at h6
 have h7 := h6 b hb
 simp only [h2,h3,h1,hty,show b.group = x.group from h4,show b.index = x.index from h5] at h7
 simp at h7
theorem EW {j : Al} (hty : j.ty = 2) (n : NodD) : ∀ (l : List Ac) (s t : Ab),Bu j n l s = some t → Cx j s t
 | [],s,t,h => by
  have : s = t := by simpa [Bu] using h
  rw [this]; exact Cx.refl j t
 | x :: r,s,t,h => by
  unfold Bu at h
  rw [List.foldl_cons] at h
  simp only [AZ] at h
  split at h
  ·rename_i hm
   exact (Jv hty hm).trans (EW hty n r _ t h)
  exact absurd h (by rw [BH]; simp)
theorem IW {p : Ac → Bool} : ∀ {l : List Ac} {k : Nat},l.findIdx? p = some k → ∀ b ∈ l,p b = false → b ∈ l.eraseIdx k
 | [],_,h,_,_,_ => by simp at h
 | x :: r,k,h,b,hb,hp => by
  rw [List.findIdx?_cons] at h
  split at h
  ·rename_i hx
   injection h with h
   subst h
   rcases List.mem_cons.1 hb with rfl | hb
   ·rw [hp] at hx; cases hx
   simpa using hb
  cases hr : r.findIdx? p with
  | none => rw [hr] at h; cases h
  | some q =>
   rw [hr] at h
   simp only [Option.map_some,Option.some.injEq] at h
   subst h
   rw [List.eraseIdx_cons_succ]
   rcases List.mem_cons.1 hb with rfl | hb
   ·exact List.mem_cons_self ..
   exact List.mem_cons_of_mem _ (IW hr b hb hp)
theorem J9 (jobs : List Al) : ∀ (n : Nat) (l m : List Ac),Cj jobs n l = some m → ∀ b ∈ l,BS jobs b = true → b ∈ m
 | 0,l,m,h,b,hb,hk => by
  unfold Cj at h
  split at h
  ·injection h with h; rw [← h]; exact hb
  cases h
 | n + 1,l,m,h,b,hb,hk => by
  unfold Cj at h
  split at h
  ·injection h with h; rw [← h]; exact hb
  split at h
  ·cases h
  rename_i k hf
  exact J9 jobs n _ m h b (IW hf b hb (by simp [hk])) hk
theorem JI {s : Ab} {j : Al} (hty : j.ty = 2) (hj : s.jobs.find? (fun q => q.id == j.id) = some j) (node : Int) (l : List Ac) : Cx j s (places s j node l).1 := by
 unfold places
 split
 ·exact Cx.refl j s
 split
 ·exact Cx.refl j s
 split
 ·exact Cx.refl j s
 rename_i t ht
 have h1 := EW hty _ _ s t ht
 obtain ⟨am,nx,e⟩ := DL j _ _ s t ht
 split
 ·exact Cx.refl j s
 rename_i m hm
 refine h1.trans ⟨fun b hb e1 e2 e3 => J9 _ _ _ m hm b hb ?_,fun a ha => .inl (KH _ _ _ m hm a ha)⟩
 have ej : t.jobs = s.jobs := by rw [e]
 unfold BS
 rw [ej,e2,hj,e1,e3]
 simp [hty]
theorem FC {j : Al} (hty : j.ty = 2) (q : List Ac) : ∀ (l : List Int) (z : Ab × Bool),z.1.jobs.find? (fun q => q.id == j.id) = some j → Cx j z.1 (l.foldl (fun z n => let y := places z.1 j n q; (y.1,z.2 && y.2)) z).1
 | [],z,_ => Cx.refl j z.1
 | n :: l,z,hj => by
  have h1 := JI hty hj n q
  obtain ⟨am,nx,e⟩ := ER z.1 j n q
  exact h1.trans (FC hty q l ((places z.1 j n q).1,z.2 && (places z.1 j n q).2) (by rw [e]; exact hj))
theorem Mv (job : Int) : ∀ (ids : List Int) (l : List Ac),∀ b ∈ l,b.state = 3 → b ∈ stops job l ids := fun ids => by
 have one : ∀ (i : Int) (l : List Ac),∀ b ∈ l,b.state = 3 → b ∈ turn1 (fun a => a.id == i) (fun a => if a.job == job && !Bb a then { a with stop := true } else a) l := fun i l => by
  induction l with
  | nil => intro b hb; cases hb
  | cons y r ih =>
   intro b hb h3
   unfold turn1
   split
   ·rcases List.mem_cons.1 hb with rfl | hb
    ·have : Bb b = true := by simp [Bb,h3]
     simp [this]
    exact List.mem_cons_of_mem _ hb
   rcases List.mem_cons.1 hb with rfl | hb
   ·exact List.mem_cons_self ..
   exact List.mem_cons_of_mem _ (ih b hb h3)
 induction ids with
 | nil => intro l b hb _; exact hb
 | cons i r ih => intro l b hb h3; exact ih _ b (one i l b hb h3) h3
theorem Je (j : Al) (q : List Ac) : ∀ (l : List Int) (z : Ab × Bool),∀ a ∈ (l.foldl (fun z n => let y := places z.1 j n q; (y.1,z.2 && y.2)) z).1.allocs,a ∈ z.1.allocs ∨ a.job = j.id
 | [],z,a,ha => .inl ha
 | n :: l,z,a,ha => by
  rcases Je j q l ((places z.1 j n q).1,z.2 && (places z.1 j n q).2) a ha with h | h
  ·exact (Gm z.1 j n q).2.2.2 a h
  exact .inr h
theorem Mg {k : Nat} {s : Ab} (hn : Num k s) (c : BC) : ∀ a ∈ (plan s c).1.allocs,s.next ≤ a.id → ∀ q,AQ (plan s c).1 a.job = some q → q.ty = 2 → ∀ b ∈ s.allocs,b.state = 3 → b.job = a.job → b.ver = a.ver → b.group = a.group → b.index = a.index → False := by
 intro a ha hid q hq hty b hb h1 h2 h3 h4 h5
 have hold : ∀ x ∈ s.allocs,x.id = a.id → False := fun x hx e => by have := hn.lt x hx; omega
 unfold plan at ha hq
 simp only at ha hq
 split at ha
 ·rename_i j e hj he
  simp only [hj,he] at hq
  split at ha
  ·exact hold a ha rfl
  rename_i hcd
  rw [if_neg hcd] at hq
  have hjj : s.jobs.find? (fun q => q.id == j.id) = some j := by
   have h6 : j.id = c.plan.job := (DC hj).1
   rw [h6]; exact hj
  -- the jobs stay
  have hjs : ∀ (z : Ab × Bool),z.1.jobs = s.jobs → (List.foldl (fun z n => let y := places z.1 j n c.plan.places; (y.1,z.2 && y.2)) z (Bj c.plan.places)).1.jobs = s.jobs := by
   generalize Bj c.plan.places = l
   induction l with
   | nil => intro z h; exact h
   | cons n r ih =>
    intro z h
    rw [List.foldl_cons]
    refine ih _ ?_
    obtain ⟨am,nx,e⟩ := ER z.1 j n c.plan.places
    simp only [e]; exact h
  have key : ∀ t : Ab,t.allocs = (List.foldl (fun z n => let y := places z.1 j n c.plan.places; (y.1,z.2 && y.2)) (({ s with allocs := stops c.plan.job s.allocs c.plan.stops } : Ab),true) (Bj c.plan.places)).1.allocs → t.jobs = s.jobs → a ∈ t.allocs → AQ t a.job = some q → False := fun t et ej hat hqt => by
   rw [et] at hat
   have hq2 : s.jobs.find? (fun z => z.id == a.job) = some q := by rw [← ej]; exact hqt
   by_cases hty2 : j.ty = 2
   ·have hF := FC hty2 c.plan.places (Bj c.plan.places) (({ s with allocs := stops c.plan.job s.allocs c.plan.stops } : Ab),true) hjj
    rcases hF.new a hat with h7 | ⟨e1,e2,h7⟩
    ·obtain ⟨x,hx,e3,_⟩ := Ga _ _ _ a h7
     exact hold x hx e3
    exact h7 b (Mv _ _ _ b hb h1) h1 (h2.trans e1) (h3.trans e2) h4 h5
   -- another job's type: what is new is of the plan's job
   have hP := Je j c.plan.places (Bj c.plan.places) (({ s with allocs := stops c.plan.job s.allocs c.plan.stops } : Ab),true) a hat
   rcases hP with h7 | h7
   ·obtain ⟨x,hx,e3,_⟩ := Ga _ _ _ a h7
    exact hold x hx e3
   rw [h7,hjj] at hq2
   injection hq2 with hq2
   exact hty2 (hq2 ▸ hty)
  split at ha
  ·rename_i hz
   rw [if_pos hz] at hq
   exact key _ rfl (hjs _ rfl) ha hq
  rename_i hz
  rw [if_neg hz] at hq
  exact key _ rfl (hjs _ rfl) ha hq
 exact hold a ha rfl
end Fsm
end
section
open Go.RowKit
abbrev ED (pj pv pi : Int) (stops : List Int) (SA : Option Addr) (sn sc : Nat) (places : List Ac) (PA : Option Addr) (pn pc : Nat) (bl : Bool) : Ba := ⟨9,0,0,⟨0,0,0,0,[],0,false⟩,none,0,0,⟨0,⟨0,0⟩,false,false,0,0,0⟩,[],none,0,0,pj,pv,pi,stops,SA,sn,sc,places,PA,pn,pc,bl,.slice none 0 0,.slice none 0 0⟩
namespace Fsm
theorem Ml {s : Ab} {ix : Int} (c : BC) (h : c.op = 9) : apply s ix c = plan { s with index := ix } c := by simp [apply,command,h]
theorem Num.RI {k : Nat} {s : Ab} (h : Num k s) (ix : Int) : Num k ({ s with index := ix } : Ab) := h.Kr ⟨rfl,Ons.refl _⟩
end Fsm
set_option maxRecDepth 20000 in
set_option maxHeartbeats 16000000 in
theorem NN (LA : Option Addr) (ln lc : Nat) (l : List Ba) (pj pv pi : Int) (stops : List Int) (SA : Option Addr) (sn sc : Nat) (places : List Ac) (PA : Option Addr) (pn pc : Nat) (bl : Bool) (w : World) (hl : Sl w 27 LA ln (l.map Ba.cells)) (hr : ∀ c ∈ l,c.Read w) (hn0 : ln ≤ 1048575) (hp : (ED pj pv pi stops SA sn sc places PA pn pc bl).Read w) :
  Calls Tryz.prog 12 #[.slice LA ln lc,.agg #[.int .i64 pj,.int .i64 pv,.int .i64 pi,.slice SA sn sc,.slice PA pn pc,.bool bl]] w fun e w' => e = .returned (.bool true) ∧ Ext Nothing w w' := by
 have hn : ln ≤ 1048576 := by omega
 have hxP : Ext Nothing w (w.alloc (.cells #[.int .i64 pj,.int .i64 pv,.int .i64 pi,.slice SA sn sc,.slice PA pn pc,.bool bl] 47)) := Ext.Aq
 have hP : Blk (w.alloc (.cells #[.int .i64 pj,.int .i64 pv,.int .i64 pi,.slice SA sn sc,.slice PA pn pc,.bool bl] 47)) w.heap.size 47 #[.int .i64 pj,.int .i64 pv,.int .i64 pi,.slice SA sn sc,.slice PA pn pc,.bool bl] := Blk.new _ _ _
 go_enter Tryz.func12,Tryz.ntmps12
 go_upto_region 1 with (first | go_skip | go_guarded)
 generalize hPP : w.heap.size = P at hP ⊢
 have HPP := Lib.hid hPP
 clear hPP
 generalize (w.alloc (.cells #[.int .i64 pj,.int .i64 pv,.int .i64 pi,.slice SA sn sc,.slice PA pn pc,.bool bl] 47)) = wp at hxP hP ⊢
 have hlp := hl.Ar hxP
 have hrp : ∀ c ∈ l,c.Read wp := fun c hc => (hr c hc).Ar hxP
 go_upto_region 2 with (first | go_skip | go_guarded | (go_at_call 24; (with_reducible refine (Kk LA ln lc l wp hlp hrp hn).mono ?_); rintro e w2 ⟨sV,rfl,hO,hG,hD,hx2⟩))
 have hxs : Ext Nothing w2 (w2.alloc (.cells sV.arr 30)) := Ext.Aq
 have hT : Blk (w2.alloc (.cells sV.arr 30)) w2.heap.size 30 sV.arr := Blk.new _ _ _
 have hOS := (hO.base hxP.size).AY hxs
 have hxS := (hxP.tr hx2).tr hxs
 have hPS := (hP.e0 hx2).e0 hxs
 have hG := Lib.hid hG
 have hD := Lib.hid hD
 clear hO hx2 hxs hxP hlp hrp
 generalize w2.heap.size = T at hT ⊢
 generalize (w2.alloc (.cells sV.arr 30)) = wS at hT hOS hxS hPS ⊢
 go_upto_region 3 with (first | go_skip | go_guarded | ((with_reducible refine isW ?_); refine Ae rfl 30 _ rfl STStore T rfl sV.arr (show Blk _ _ 30 _ from hT) rfl ?_) | ((with_reducible refine isW ?_); refine Ae rfl 47 _ rfl Ng P rfl #[.int .i64 pj,.int .i64 pv,.int .i64 pi,.slice SA sn sc,.slice PA pn pc,.bool bl] (show Blk _ _ 47 _ from hPS) rfl ?_) | (go_at_call 15; (with_reducible refine (Ch (base := w.heap.size) (t := ln) (w := wS) (s := sV) (c := (ED pj pv pi stops SA sn sc places PA pn pc bl)) (ix := (ln : Int) + 1) 1 hOS hG.out (hp.K8 hxS) (show (Lit.int .i64 9).wf = true by decide) (by omega) (by omega) (by omega)).mono ?_); rintro e w3 ⟨s5,r5,rv5,rfl,hO5,hF5,⟨RA5,rc5,rfl,hro5⟩,hx3⟩))
 have hal : Ext Nothing w3 ((w3.alloc (.cells s5.arr 30)).alloc (.cells #[.int .i64 r5.code,.int .i64 r5.value,.slice RA5 r5.allocs.length rc5] 34)) := Ext.Aq
 have hT5 : Blk ((w3.alloc (.cells s5.arr 30)).alloc (.cells #[.int .i64 r5.code,.int .i64 r5.value,.slice RA5 r5.allocs.length rc5] 34)) w3.heap.size 30 s5.arr := (Blk.new w3 _ _).e0 Ext.Aq
 have hE5 : Blk ((w3.alloc (.cells s5.arr 30)).alloc (.cells #[.int .i64 r5.code,.int .i64 r5.value,.slice RA5 r5.allocs.length rc5] 34)) (w3.heap.size + 1) 34 #[.int .i64 r5.code,.int .i64 r5.value,.slice RA5 r5.allocs.length rc5] := Blk.new' _ _ _ (by simp)
 have hx5 : Ext Nothing wS ((w3.alloc (.cells s5.arr 30)).alloc (.cells #[.int .i64 r5.code,.int .i64 r5.value,.slice RA5 r5.allocs.length rc5] 34)) := hx3.tr hal
 have hO5 := (hO5.base (show w.heap.size ≤ wS.heap.size by have := hxS.size; omega)).AY hal
 have hz3 := hx3.size
 clear hal hx3
 generalize w3.heap.size = TT at hT5 hE5 hz3 ⊢
 generalize ((w3.alloc (.cells s5.arr 30)).alloc (.cells #[.int .i64 r5.code,.int .i64 r5.value,.slice RA5 r5.allocs.length rc5] 34)) = w5 at hT5 hE5 hx5 hO5 ⊢
 have hTs := hT.e0 hx5
 have hOs := hOS.AY hx5
 have hxw5 := hxS.tr hx5
 have HPB := Lib.hid (show s5.data = (Fsm.plan ({ sV.data with index := (ln : Int) + 1 } : Ab) (ED pj pv pi stops SA sn sc places PA pn pc bl).d).1 by rw [← Fsm.Ml (ED pj pv pi stops SA sn sc places PA pn pc bl).d rfl,hF5])
 have HNUM := Lib.hid (Fsm.Num.RI hG.out.num ((ln : Int) + 1))
 have HS5 := Lib.hid (show Fsm.Ew (ln + 1) s5.data by have h9 := Fsm.Df hG.out hn (c := (ED pj pv pi stops SA sn sc places PA pn pc bl).d) hp.Fe; rw [hF5] at h9; exact h9)
 clear hF5 hro5 hT hOS hxS hPS hE5
 obtain ⟨ql1,ql2,ql3,ql4,ql5,ql6,ql7⟩ := Dh hG.out hn
 have hmA : sV.nA ≤ 64 := by have := hOs.al; omega
 clear ql1 ql2 ql3 ql4 ql5 ql6 ql7
 have hk5 := Lib.hid (show s5.allocs.length ≤ 64 from HS5.out.num.len)
 have hkA : s5.nA ≤ 64 := by have := hO5.al; have := hk5.out; omega
 have hjl := Lib.hid (show (s5.jobs.map (·.1)).length ≤ ln + 1 from HS5.out.lj)
 have hkJ : s5.nJ ≤ 67108864 := by have h9 := hjl.out; rw [List.length_map] at h9; have := hO5.jl; omega
 go_wp2
 go_loopw [8] (fun ki wr => ∃ k : Nat,k ≤ s5.nA ∧ ki = .int .i64 k ∧ Ext Nothing w5 wr) (fun ki _ => s5.nA - (intOf ki).toNat)
 case atStart => exact ⟨0,Nat.zero_le _,rfl,Ext.refl _ _⟩
 case round =>
  obtain ⟨k,hk,rfl,hx⟩ := hrel
  have m5 : wr.cell? ⟨TT,5,none⟩ = some (.slice s5.AA s5.nA s5.cA) := (hT5.e0 hx).cell 5
  by_cases hlt : k < s5.nA
  ·obtain ⟨hjn,g,offa,hAe,hace⟩ := hO5.slA.get hx hlt
   have hym : s5.allocs[k] ∈ s5.data.allocs := List.getElem_mem hjn
   generalize s5.allocs[k] = y at hace hym
   obtain ⟨y0,y1,y2,y3,y4,y5,y6,⟨y7,y8⟩,y9,y10⟩ := y
   rw [hAe] at m5
   have hce : ∀ j u,(#[.int .i64 y0,.int .i64 y1,.int .i64 y2,.int .i64 y3,.int .i64 y4,.int .i64 y5,.int .i64 y6,.int .i64 y7,.int .i64 y8,.bool y9,.int .i64 y10] : Array Value).toList[j]? = some u → wr.cell? ⟨g,offa + k * 11 + j,none⟩ = some u := hace
   have HYM := Lib.hid hym
   have HTK := Lib.hid hlt
   have hk0 : (0 : Int) ≤ (k : Int) := by omega
   have hk1 : (k : Int) < s5.nA := by omega
   clear hAe hace hym hlt
   have hxA : Ext Nothing wr (wr.alloc (.cells #[.int .i64 y0,.int .i64 y1,.int .i64 y2,.int .i64 y3,.int .i64 y4,.int .i64 y5,.int .i64 y6,.int .i64 y7,.int .i64 y8,.bool y9,.int .i64 y10] 55)) := Ext.Aq
   have hY : Blk (wr.alloc (.cells #[.int .i64 y0,.int .i64 y1,.int .i64 y2,.int .i64 y3,.int .i64 y4,.int .i64 y5,.int .i64 y6,.int .i64 y7,.int .i64 y8,.bool y9,.int .i64 y10] 55)) wr.heap.size 55 #[.int .i64 y0,.int .i64 y1,.int .i64 y2,.int .i64 y3,.int .i64 y4,.int .i64 y5,.int .i64 y6,.int .i64 y7,.int .i64 y8,.bool y9,.int .i64 y10] := Blk.new _ _ _
   go_upto_region 7 with (first | go_skip | go_guarded | ((with_reducible refine isW ?_); refine Ad rfl 55 _ rfl AB g (offa + k * 11) rfl #[.int .i64 y0,.int .i64 y1,.int .i64 y2,.int .i64 y3,.int .i64 y4,.int .i64 y5,.int .i64 y6,.int .i64 y7,.int .i64 y8,.bool y9,.int .i64 y10] hce rfl ?_))
   have hx5A := hx.tr hxA
   clear hce hxA m5
   generalize wr.heap.size = Y at hY ⊢
   generalize (wr.alloc (.cells #[.int .i64 y0,.int .i64 y1,.int .i64 y2,.int .i64 y3,.int .i64 y4,.int .i64 y5,.int .i64 y6,.int .i64 y7,.int .i64 y8,.bool y9,.int .i64 y10] 55)) = wa at hY hx5A ⊢
   have p1 : wa.cell? ⟨Y,1,none⟩ = some (.int .i64 y1) := hY.cell 1
   have hT5a := hT5.e0 hx5A
   have hsl := (hO5.AY hx5A).slJ
   rcases AC (fun x : JobV => x.1.id == y1) s5.jobs with ⟨hi,hf,hno⟩ | ⟨i,x,hi,hxi,hp9,hf,_⟩
   ·have HI := Lib.hid hi
    clear hi hf hno
    go_upto_region 8 with (first | go_skip | go_guarded | ((with_reducible refine isW ?_); refine Ae rfl 30 _ rfl STStore TT rfl s5.arr (show Blk _ _ 30 _ from hT5a) rfl ?_) | (go_at_call 22; (with_reducible refine (Lb s5.AJ s5.nJ s5.cJ s5.jobs y1 wa hsl hkJ _ _ _ _ _ _ _ _).mono ?_); rintro e w6 ⟨rfl,hx6⟩; (rw [HI.out])))
    have hY6 := hY.e0 hx6
    have hx56 := hx5A.tr hx6
    have c0 : w6.cell? ⟨Y,0,none⟩ = some (.int .i64 y0) := hY6.cell 0
    have t1 : w6.cell? ⟨T,1,none⟩ = some (.int .i64 sV.next) := (hTs.e0 hx56).cell 1
    cases v1 : decide (y0 < sV.next) with
    | true =>
     go_wp2_with (first | go_skip | go_guarded)
     go_roundw
     case rel => exact ⟨k + 1,HTK.out,by go_num,hx56⟩
     case measure => have := HTK.out; simp [intOf]; omega
    | false =>
     go_wp2_with (first | go_skip | go_guarded)
     go_roundw
     case rel => exact ⟨k + 1,HTK.out,by go_num,hx56⟩
     case measure => have := HTK.out; simp [intOf]; omega
   have HI := Lib.hid hi
   have HQ := Lib.hid (show Fsm.AQ s5.data y1 = some x.1 from Cf hf)
   have hi0 : (0 : Int) ≤ (i : Int) := by omega
   have hid : decide ((i : Int) < 0) = false := by simp
   have hi1 : (i : Int) < s5.nJ := by have := hO5.jl; have := (List.getElem?_eq_some_iff.1 hxi).1; omega
   clear hi hf hp9
   go_upto_region 8 with (first | go_skip | go_guarded | ((with_reducible refine isW ?_); refine Ae rfl 30 _ rfl STStore TT rfl s5.arr (show Blk _ _ 30 _ from hT5a) rfl ?_) | (go_at_call 22; (with_reducible refine (Lb s5.AJ s5.nJ s5.cJ s5.jobs y1 wa hsl hkJ _ _ _ _ _ _ _ _).mono ?_); rintro e w6 ⟨rfl,hx6⟩; (rw [HI.out])))
   have hY6 := hY.e0 hx6
   have hx56 := hx5A.tr hx6
   have c0 : w6.cell? ⟨Y,0,none⟩ = some (.int .i64 y0) := hY6.cell 0
   have t1 : w6.cell? ⟨T,1,none⟩ = some (.int .i64 sV.next) := (hTs.e0 hx56).cell 1
   obtain ⟨gx,_,hAx,_,_,_,hxce,_⟩ := (hO5.AY hx56).Py hxi
   have n2 : w6.cell? ⟨TT,2,none⟩ = some (.slice (some ⟨gx,0,none⟩) s5.nJ s5.cJ) := by rw [← hAx]; exact (hT5.e0 hx56).cell 2
   have b1 : w6.cell? ⟨gx,i * 7 + 1,none⟩ = some (.int .i64 x.1.ty) := hxce 1 _ rfl
   clear hAx hxce hxi
   cases v1 : decide (y0 < sV.next) with
   | true =>
    go_wp2_with (first | go_skip | go_guarded)
    go_roundw
    case rel => exact ⟨k + 1,HTK.out,by go_num,hx56⟩
    case measure => have := HTK.out; simp [intOf]; omega
   | false =>
    cases v2 : (x.1.ty != 2) with
    | true =>
     go_wp2_with (first | go_skip | go_guarded)
     go_roundw
     case rel => exact ⟨k + 1,HTK.out,by go_num,hx56⟩
     case measure => have := HTK.out; simp [intOf]; omega
    | false =>
     have HNO := Lib.hid (Fsm.Mg HNUM.out (ED pj pv pi stops SA sn sc places PA pn pc bl).d (⟨y0,y1,y2,y3,y4,y5,y6,⟨y7,y8⟩,y9,y10⟩ : Ac) (by rw [← HPB.out]; exact HYM.out) (show sV.next ≤ y0 by simp at v1; omega) x.1 (by rw [← HPB.out]; exact HQ.out) (by simpa using v2))
     have hTs6 := hTs.e0 hx56
     have hOs6 := hOs.AY hx56
     go_wp2_with (first | go_skip | go_guarded)
     go_loopw [11] (fun ji wr => ∃ j : Nat,j ≤ sV.nA ∧ ji = .int .i64 j ∧ Ext Nothing w6 wr) (fun ji _ => sV.nA - (intOf ji).toNat)
     case atStart => exact ⟨0,Nat.zero_le _,rfl,Ext.refl _ _⟩
     case round =>
      obtain ⟨j,hj,rfl,hxj⟩ := hrel
      have q5 : wr.cell? ⟨T,5,none⟩ = some (.slice sV.AA sV.nA sV.cA) := (hTs6.e0 hxj).cell 5
      by_cases hltj : j < sV.nA
      ·obtain ⟨hjz,gz,offz,hAz,hzce⟩ := hOs6.slA.get hxj hltj
       have hzm : sV.allocs[j] ∈ sV.data.allocs := List.getElem_mem hjz
       generalize sV.allocs[j] = z at hzce hzm
       obtain ⟨z0,z1,z2,z3,z4,z5,z6,⟨z7,z8⟩,z9,z10⟩ := z
       rw [hAz] at q5
       have hcz : ∀ j9 u,(#[.int .i64 z0,.int .i64 z1,.int .i64 z2,.int .i64 z3,.int .i64 z4,.int .i64 z5,.int .i64 z6,.int .i64 z7,.int .i64 z8,.bool z9,.int .i64 z10] : Array Value).toList[j9]? = some u → wr.cell? ⟨gz,offz + j * 11 + j9,none⟩ = some u := hzce
       have HTJ := Lib.hid hltj
       have HZM := Lib.hid hzm
       have hj0 : (0 : Int) ≤ (j : Int) := by omega
       have hj1 : (j : Int) < sV.nA := by omega
       clear hAz hzce hzm hltj
       have hxB : Ext Nothing wr (wr.alloc (.cells #[.int .i64 z0,.int .i64 z1,.int .i64 z2,.int .i64 z3,.int .i64 z4,.int .i64 z5,.int .i64 z6,.int .i64 z7,.int .i64 z8,.bool z9,.int .i64 z10] 55)) := Ext.Aq
       have hZ : Blk (wr.alloc (.cells #[.int .i64 z0,.int .i64 z1,.int .i64 z2,.int .i64 z3,.int .i64 z4,.int .i64 z5,.int .i64 z6,.int .i64 z7,.int .i64 z8,.bool z9,.int .i64 z10] 55)) wr.heap.size 55 #[.int .i64 z0,.int .i64 z1,.int .i64 z2,.int .i64 z3,.int .i64 z4,.int .i64 z5,.int .i64 z6,.int .i64 z7,.int .i64 z8,.bool z9,.int .i64 z10] := Blk.new _ _ _
       go_upto_region 13 with (first | go_skip | go_guarded | ((with_reducible refine isW ?_); refine Ad rfl 55 _ rfl AB gz (offz + j * 11) rfl #[.int .i64 z0,.int .i64 z1,.int .i64 z2,.int .i64 z3,.int .i64 z4,.int .i64 z5,.int .i64 z6,.int .i64 z7,.int .i64 z8,.bool z9,.int .i64 z10] hcz rfl ?_))
       have hxjB := hxj.tr hxB
       have hYj := (hY6.e0 hxj).e0 hxB
       clear hcz hxB q5
       generalize wr.heap.size = Z at hZ ⊢
       generalize (wr.alloc (.cells #[.int .i64 z0,.int .i64 z1,.int .i64 z2,.int .i64 z3,.int .i64 z4,.int .i64 z5,.int .i64 z6,.int .i64 z7,.int .i64 z8,.bool z9,.int .i64 z10] 55)) = wz at hZ hYj hxjB ⊢
       have rz10 : wz.cell? ⟨Z,10,none⟩ = some (.int .i64 z10) := hZ.cell 10
       have rz1 : wz.cell? ⟨Z,1,none⟩ = some (.int .i64 z1) := hZ.cell 1
       have ry1 : wz.cell? ⟨Y,1,none⟩ = some (.int .i64 y1) := hYj.cell 1
       have rz2 : wz.cell? ⟨Z,2,none⟩ = some (.int .i64 z2) := hZ.cell 2
       have ry2 : wz.cell? ⟨Y,2,none⟩ = some (.int .i64 y2) := hYj.cell 2
       have rz3 : wz.cell? ⟨Z,3,none⟩ = some (.int .i64 z3) := hZ.cell 3
       have ry3 : wz.cell? ⟨Y,3,none⟩ = some (.int .i64 y3) := hYj.cell 3
       have rz4 : wz.cell? ⟨Z,4,none⟩ = some (.int .i64 z4) := hZ.cell 4
       have ry4 : wz.cell? ⟨Y,4,none⟩ = some (.int .i64 y4) := hYj.cell 4
       cases c1 : (z10 == 3) with
       | false =>
        go_wp2_with (first | go_skip | go_guarded)
        go_roundw
        case rel => exact ⟨j + 1,HTJ.out,by go_num,hxjB⟩
        case measure => have := HTJ.out; simp [intOf]; omega
       | true =>
        cases c2 : (z1 == y1) with
        | false =>
         go_wp2_with (first | go_skip | go_guarded)
         go_roundw
         case rel => exact ⟨j + 1,HTJ.out,by go_num,hxjB⟩
         case measure => have := HTJ.out; simp [intOf]; omega
        | true =>
         cases c3 : (z2 == y2) with
         | false =>
          go_wp2_with (first | go_skip | go_guarded)
          go_roundw
          case rel => exact ⟨j + 1,HTJ.out,by go_num,hxjB⟩
          case measure => have := HTJ.out; simp [intOf]; omega
         | true =>
          cases c4 : (z3 == y3) with
          | false =>
           go_wp2_with (first | go_skip | go_guarded)
           go_roundw
           case rel => exact ⟨j + 1,HTJ.out,by go_num,hxjB⟩
           case measure => have := HTJ.out; simp [intOf]; omega
          | true =>
           cases c5 : (z4 == y4) with
           | false =>
            go_wp2_with (first | go_skip | go_guarded)
            go_roundw
            case rel => exact ⟨j + 1,HTJ.out,by go_num,hxjB⟩
            case measure => have := HTJ.out; simp [intOf]; omega
           | true =>
            exact absurd (HNO.out (⟨z0,z1,z2,z3,z4,z5,z6,⟨z7,z8⟩,z9,z10⟩ : Ac) HZM.out (by simpa using c1) (by simpa using c2) (by simpa using c3) (by simpa using c4) (by simpa using c5)) id
      have hnlj : ¬ ((j : Int) < sV.nA) := by omega
      go_wp2_with (first | go_skip | go_guarded)
      go_roundw
      case rel => exact ⟨k + 1,HTK.out,by go_num,hx56.tr hxj⟩
      case measure => have := HTK.out; simp [intOf]; omega
  have hnl : ¬ ((k : Int) < s5.nA) := by omega
  go_wp2_with (first | go_skip | go_guarded | (go_at_call 17; (with_reducible refine (KG _).mono ?_); rintro e w9 ⟨rfl,hx9⟩))
  go_ret
  exact ⟨rfl,(hxw5.tr hx).tr hx9⟩
end
end Go.Proofs.YtccekmeifanipaaGreat
