/- Parts of the proof: GrownF Grown Behind FsmEv -/
import Derived.Test.YtccekmeifanipaaGreatL13
import Derived.Test.YtccekmeifanipaaGreatL34
import Derived.Test.YtccekmeifanipaaGreatL04
import Derived.Test.YtccekmeifanipaaGreatL03
import Derived.Test.YtccekmeifanipaaGreatL09
namespace Go.Proofs.YtccekmeifanipaaGreat
set_option linter.unusedVariables false
set_option linter.unusedSimpArgs false
set_option linter.unusedSectionVars false
section
open Go.RowKit
namespace Fsm
def Hu (l : List BC) : Nat → Ab
 | 0 => new
 | t + 1 => match l[t]? with
  | some c => (apply (Hu l t) ((t : Int) + 1) c).1
  | none => Hu l t
theorem ME {l : List BC} {t : Nat} {c : BC} (h : l[t]? = some c) : Hu l (t + 1) = (apply (Hu l t) ((t : Int) + 1) c).1 := by
 simp only [Hu, h]
end Fsm
end
section
open Go.RowKit
set_option maxRecDepth 20000 in
set_option maxHeartbeats 16000000 in
theorem Kk (LA : Option Addr) (ln lc : Nat) (l : List Ba) (w : World) (hl : Sl w 27 LA ln (l.map Ba.cells)) (hr : ∀ c ∈ l, c.Read w) (hn : ln ≤ 1048576) :
  Calls Tryz.prog 24 #[.slice LA ln lc] w fun e w' => ∃ sV : Aa, e = .returned (.agg sV.arr) ∧ Aw w.heap.size w' sV ∧ Fsm.Ew ln sV.data ∧ sV.data = Fsm.Hu (l.map Ba.d) ln ∧ Ext Nothing w w' := by
 have hxR : Ext Nothing w (w.alloc (.cells #[.int .i64 0, .int .i64 0, .slice none 0 0, .slice none 0 0, .slice none 0 0, .slice none 0 0, .slice none 0 0, .slice none 0 0, .slice none 0 0] 30)) := Ext.Aq
 have hR0 : Blk (w.alloc (.cells #[.int .i64 0, .int .i64 0, .slice none 0 0, .slice none 0 0, .slice none 0 0, .slice none 0 0, .slice none 0 0, .slice none 0 0, .slice none 0 0] 30)) w.heap.size 30 #[.int .i64 0, .int .i64 0, .slice none 0 0, .slice none 0 0, .slice none 0 0, .slice none 0 0, .slice none 0 0, .slice none 0 0, .slice none 0 0] := Blk.new _ _ _
 go_enter Tryz.func24, Tryz.ntmps24
 have hln := Lib.hid hl.len
 go_upto_region 1 with fail
 generalize (w.alloc (.cells #[.int .i64 0, .int .i64 0, .slice none 0 0, .slice none 0 0, .slice none 0 0, .slice none 0 0, .slice none 0 0, .slice none 0 0, .slice none 0 0] 30)) = wq at hxR hR0 ⊢
 go_upto_region 2 with (first | go_skip | go_guarded | (go_at_call 14; (with_reducible refine (QU wq).mono ?_); rintro e w1 ⟨rfl, hx1⟩))
 have hxT : Ext Nothing w1 (w1.alloc (.cells #[.int .i64 0, .int .i64 1, .slice none 0 0, .slice none 0 0, .slice none 0 0, .slice none 0 0, .slice none 0 0, .slice none 0 0, .slice none 0 0] 30)) := Ext.Aq
 have hT0 : Blk (w1.alloc (.cells #[.int .i64 0, .int .i64 1, .slice none 0 0, .slice none 0 0, .slice none 0 0, .slice none 0 0, .slice none 0 0, .slice none 0 0, .slice none 0 0] 30)) w1.heap.size 30 Fg.arr := Blk.new _ _ _
 have hRT : w.heap.size < w1.heap.size := (hR0.e0 hx1).lt
 have hR1 := (hR0.e0 hx1).e0 hxT
 have hx0 := (hxR.tr hx1).tr hxT
 generalize hTT : w1.heap.size = T at hT0 hRT ⊢
 generalize (w1.alloc (.cells #[.int .i64 0, .int .i64 1, .slice none 0 0, .slice none 0 0, .slice none 0 0, .slice none 0 0, .slice none 0 0, .slice none 0 0, .slice none 0 0] 30)) = w2 at hT0 hx0 hR1 ⊢
 clear hxT hx1 hTT hxR hR0
 have hzT : w.heap.size ≤ T := by omega
 have hO0 : Aw w.heap.size w2 Fg := Jk _ _
 go_wp2
 go_loopw [4] (fun ki wr => ∃ t : Nat, t ≤ ln ∧ ki = .int .i64 t ∧ ∃ sV : Aa, Aw w.heap.size wr sV ∧ Fsm.Ew t sV.data ∧ sV.data = Fsm.Hu (l.map Ba.d) t ∧ Blk wr T 30 sV.arr ∧ Blk wr w.heap.size 30 #[.int .i64 0, .int .i64 0, .slice none 0 0, .slice none 0 0, .slice none 0 0, .slice none 0 0, .slice none 0 0, .slice none 0 0, .slice none 0 0] ∧ Ext Nothing w wr) (fun ki _ => ln - (intOf ki).toNat)
 case atStart => exact ⟨0, Nat.zero_le _, rfl, Fg, hO0, Fsm.Gu, rfl, hT0, hR1, hx0⟩
 case round =>
  obtain ⟨t, ht, rfl, sV, hO, hG, hD, hT, hR, hx⟩ := hrel
  clear hO0 hT0 hx0 hR1
  by_cases hlt : t < ln
  ·obtain ⟨hjn, b, off, hLe, hce⟩ := hl.get hx hlt
   have hrd := hr _ (List.getElem_mem hjn)
   have hlt9 : l[t]? = some l[t] := List.getElem?_eq_getElem hjn
   generalize l[t] = c at hce hrd hlt9
   have HLT := Lib.hid hlt9
   have HD := Lib.hid hD
   clear hlt9 hD
   subst hLe
   have hk0 : (0 : Int) ≤ (t : Int) := by omega
   have hk1 : (t : Int) < ln := by omega
   have HW := Lib.hid (show wrap64 ((t : Int) + 1) = (t : Int) + 1 by unfold wrap64; omega)
   have HT := Lib.hid hlt
   have HG := Lib.hid hG
   have hbw : b < w.heap.size := by obtain ⟨q, hq⟩ := hl.blk (show 0 < ln by omega); exact hq
   have HCE := Lib.hid (show ∀ j u, c.arr.toList[j]? = some u → wr.cell? ⟨b, off + t * 27 + j, none⟩ = some u from hce)
   clear hce hG hlt
   go_upto_region 5 with (first | go_skip | go_guarded)
   have hd : Ext Nothing wr wr.drew := (Ext.refl _ _).drew
   refine zS (S := fun W' => Ext (fun q => q = T) wr W') (by kernel_rfl) ?_
   have hS := hd.any (S := fun q => q = T)
   generalize wr.drew = Wd at hd hS ⊢
   refine zV 1 (.int .i64 (t : Int)) rfl (by kernel_rfl) hS (fun _ _ _ h => h) (fun W' hS' => by go_simp) ?_
   refine zV 2 (.int .i64 (wrap64 ((t : Int) + 1))) rfl (by kernel_rfl) hS (fun _ _ _ h => h) (fun W' hS' => by go_simp; rw [IntKind.wrap_i64]; have := HT.out; unfold wrap64; omega) ?_
   refine zV 3 (.slice (some ⟨b, off, none⟩) ln lc) rfl (by kernel_rfl) hS (fun _ _ _ h => h) (fun W' hS' => by go_simp) ?_
   refine zV 4 (.int .i64 (t : Int)) rfl (by kernel_rfl) hS (fun _ _ _ h => h) (fun W' hS' => by go_simp) ?_
   refine zV 5 (.pointer (some ⟨b, off + t * 27, none⟩)) rfl (by kernel_rfl) hS (fun _ _ _ h => h) (fun W' hS' => by go_simp) ?_
   refine zV 6 (.agg c.arr) rfl (by kernel_rfl) hS (fun _ _ _ h => h) (fun W' hS' => by exact Ag (sz := 27) (b := b) (off := off + t * 27) rfl IJ (by go_simp) (fun j u hu => hS'.cell (HCE.out j u hu) (fun e => absurd (show b = T from e) (by omega))) rfl) ?_
   refine zV 7 (.agg (c.ent (wrap64 ((t : Int) + 1)) 1)) rfl (by kernel_rfl) hS (fun _ _ _ h => h) (fun W' hS' => by go_simp) ?_
   (try simp only [Act.put, zA, zB, zC, zD, zE, zF])
   have hTq := hT.e0 hd
   have hOq := hO.AY hd
   have hxq := hx.tr hd
   have hcq := hrd.K8 hxq
   refine zO 0 (by kernel_rfl) ?_
   refine wpOp_val (v := .agg sV.arr) (w' := Wd) rfl (by rfl) (by exact Ay rfl STStore (by go_simp) hTq rfl) ⟨hS, ?_⟩
   (try simp only [Act.put, zA, zB, zC, zD, zE, zF])
   refine zO 8 (by kernel_rfl) ?_
   refine Aj (f := 15) (args := #[.agg sV.arr, .agg (c.ent (wrap64 ((t : Int) + 1)) 1)]) rfl (by rfl) (by go_simp) ((Ch (base := w.heap.size) (t := t) (w := Wd) (s := sV) (c := c) (ix := (wrap64 ((t : Int) + 1))) 1 hOq HG.out hcq hrd.op (by have := HT.out; omega) (by have := HT.out; rw [HW.out]; omega) (by rw [HW.out]; omega)).mono ?_)
   rintro e w2 ⟨s2, r2, rv2, rfl, hO2, hF2, hres2, hx2⟩
   have hT2 := hTq.e0 hx2
   have hS2 := hS.trans hx2 (fun _ _ e => e.elim)
   have HG2 := Lib.hid (show Fsm.Ew (t + 1) s2.data by have h9 := Fsm.Df HG.out (by have := HT.out; omega) hrd.Fe; rw [← HW.out, hF2] at h9; exact h9)
   have HD2 := Lib.hid (show s2.data = Fsm.Hu (l.map Ba.d) (t + 1) by rw [Fsm.ME (show (l.map Ba.d)[t]? = some c.d by rw [List.getElem?_map, HLT.out]; rfl), ← HD.out, ← HW.out, hF2])
   have HF2 := Lib.hid hF2
   clear hF2
   refine ⟨_, rfl, hS2, ?_⟩
   (try simp only [Act.put, zA, zB, zC, zD, zE, zF])
   refine zO 9 (by kernel_rfl) ?_
   refine wpOp_val (v := .tuple #[.agg s2.arr, .agg #[.int .i64 r2.code, .int .i64 r2.value, rv2]]) (w' := w2) rfl (by rfl) (by go_simp) ⟨hS2, ?_⟩
   (try simp only [Act.put, zA, zB, zC, zD, zE, zF])
   refine zV 10 (.agg s2.arr) rfl (by kernel_rfl) hS2 (fun _ _ _ h => h) (fun W' hS' => by go_simp) ?_
   refine zV 11 (.agg #[.int .i64 r2.code, .int .i64 r2.value, rv2]) rfl (by kernel_rfl) hS2 (fun _ _ _ h => h) (fun W' hS' => by go_simp) ?_
   (try simp only [Act.put, zA, zB, zC, zD, zE, zF])
   refine zO 12 (by kernel_rfl) ?_
   refine Bl (p := T) (cs := s2.arr) rfl (by rfl) rfl (by go_simp) (by go_simp) hT2 rfl STStore rfl rfl (fun w5 hB5 hx5 => ?_)
   have hS5 := hS2.trans hx5 (fun q hq e => e)
   refine ⟨hS5, wpAnyH_done (by kernel_rfl) ?_ _⟩
   (try simp only [Act.put, zA, zB, zC, zD, zE, zF])
   have hR5 := (hR.e0 hd).e0 hx2 |>.ext hx5 (fun e => absurd (show w.heap.size = T from e) (by omega))
   have hO5 := (hO2.base hxq.size).keep hx5 (Apart.one hT2 (by decide))
   have hx5w : Ext Nothing w w5 := hx.trans hS5 (fun b hb e => absurd (show b = T from e) (by omega))
   clear hd hS hS2 hS5 hTq hOq hxq hcq hT2 hx2 hO2 hx5 hres2 hT hO hx
   obtain ⟨ql1, ql2, ql3, ql4, ql5, ql6, ql7⟩ := Dh HG2.out (show t + 1 ≤ 1048576 by have := HT.out; omega)
   have hnJ : s2.nJ ≤ 1048576 := by have := hO5.jl; have := HT.out; omega
   have hnS : s2.nS ≤ 1048576 := by have := hO5.tl; have := HT.out; omega
   have hnN : s2.nN ≤ 1048576 := by have := hO5.nl; have := HT.out; omega
   have hnA : s2.nA ≤ 64 := by have := hO5.al; omega
   have hnE : s2.nE ≤ 1048576 := by have := hO5.el; have := HT.out; omega
   have hnD : s2.nD ≤ 1048576 := by have := hO5.dl; have := HT.out; omega
   clear ql1 ql2 ql3 ql4 ql5 ql6 ql7
   go_wp2
   go_roundw
   case rel => exact ⟨t + 1, HT.out, by go_num, s2, hO5, HG2.out, HD2.out, hB5, hR5, hx5w⟩
   case measure => have := HT.out; simp [intOf]; omega
  have hnl : ¬ ((t : Int) < ln) := by omega
  have hte : t = ln := by omega
  subst hte
  go_wp2_with (first | go_skip | go_guarded | ((with_reducible refine isW ?_); refine Ae rfl 30 _ rfl STStore T rfl sV.arr (show Blk _ _ 30 _ from hT) rfl ?_) | ((with_reducible refine isW ?_); refine Af rfl 30 _ _ rfl STStore w.heap.size rfl sV.arr rfl (show Blk _ _ 30 _ from hR) rfl rfl rfl ?_; intro w8 hR8 hx8))
  exact bodyPost_ret (results_cell rfl STStore (g := w.heap.size) rfl hR8 rfl) rfl ⟨sV, rfl, hO.keep hx8 (Apart.one hR (by decide)), hG, hD, hx.trans hx8 (fun q hq e => by have h9 : q < w.heap.size := hq; have : q = w.heap.size := e; omega)⟩
end
section
open Go.RowKit
theorem Ba.Read.Ar {w w' : World} {c : Ba} (h : c.Read w) (hx : Ext Nothing w w') : c.Read w' := ⟨h.g.Ar hx, h.gl, h.r.Ar hx, h.rl, h.s.Ar hx, h.sl, h.p.Ar hx, h.pl, h.o25, h.o26, h.op, h.ok⟩
end
section
open Go.RowKit
namespace Fsm
theorem up_eq {α : Type} {key : α → Int} : ∀ {l : List α}, Up key l → ∀ {a b : α}, a ∈ l → b ∈ l → key a = key b → a = b
 | [], _, _, _, h, _, _ => by cases h
 | x :: r, hu, a, b, ha, hb, e => by
  unfold Up at hu
  rw [List.map_cons, List.pairwise_cons] at hu
  rcases List.mem_cons.1 ha with ha | ha
  ·rcases List.mem_cons.1 hb with hb | hb
   ·rw [ha, hb]
   have := hu.1 (key b) (List.mem_map_of_mem hb)
   rw [ha] at e; omega
  rcases List.mem_cons.1 hb with hb | hb
  ·have := hu.1 (key a) (List.mem_map_of_mem ha)
   rw [hb] at e; omega
  exact up_eq (l := r) hu.2 ha hb e
def Fb (s t : Ab) : Prop := ∀ a ∈ s.allocs, ∀ b ∈ t.allocs, b.id = a.id → Bb a = false → Bb b = true → Dl t b.job
theorem Over.ended {s t : Ab} (h : Over s t) (hu : Up Ac.id s.allocs) (ho : ∀ a ∈ s.allocs, a.job ∈ s.jobs.map Al.id) : Fb s t := fun a ha b hb hid h1 h2 => by
 obtain ⟨i, hi⟩ := List.mem_iff_getElem?.1 hb
 have hl := h.ons.length
 obtain ⟨hi1, hi2⟩ := List.getElem?_eq_some_iff.1 hi
 have hx : s.allocs[i]? = some (s.allocs[i]'(by omega)) := List.getElem?_eq_getElem (by omega)
 have hon := h.ons.at_ hx hi
 have hii := (Cs hon.core).2.2.2.2.2.2.1
 have : s.allocs[i]'(by omega) = a := up_eq hu (List.getElem_mem _) ha (by rw [← hid, hii])
 rw [this] at hx
 exact h.fresh ho i a b hx hi h1 h2
theorem F6 {s t : Ab} (hu : Up Ac.id s.allocs) (h : t.allocs = s.allocs) : Fb s t := fun a ha b hb hid h1 h2 => by
 rw [h] at hb
 rw [up_eq hu hb ha hid, h1] at h2
 cases h2
theorem Ga (job : Int) : ∀ (ids : List Int) (l : List Ac), ∀ b ∈ stops job l ids, ∃ a ∈ l, a.id = b.id ∧ Bb b = Bb a := fun ids => by
 have one : ∀ (i : Int) (l : List Ac), ∀ b ∈ turn1 (fun a => a.id == i) (fun a => if a.job == job && !Bb a then { a with stop := true } else a) l, ∃ a ∈ l, a.id = b.id ∧ Bb b = Bb a := fun i l b hb => by
  rcases FN _ _ l hb with h | ⟨x, hx, h⟩
  ·exact ⟨b, h, rfl, rfl⟩
  refine ⟨x, hx, ?_⟩
  rw [h]
  split <;> exact ⟨rfl, rfl⟩
 induction ids with
 | nil => intro l b hb; exact ⟨b, hb, rfl, rfl⟩
 | cons i r ih =>
  intro l b hb
  obtain ⟨a, ha, e1, e2⟩ := ih _ b hb
  obtain ⟨y, hy, e3, e4⟩ := one i l a ha
  exact ⟨y, hy, e3.trans e1, e2.trans e4⟩
def BJ (s t : Ab) : Prop := ∀ b ∈ t.allocs, (∃ a ∈ s.allocs, a.id = b.id ∧ Bb b = Bb a) ∨ Bb b = false
theorem BJ.trans {s t u : Ab} (h : BJ s t) (k : BJ t u) : BJ s u := fun b hb => by
 rcases k b hb with ⟨a, ha, e1, e2⟩ | h1
 ·rcases h a ha with ⟨x, hx, e3, e4⟩ | h2
  ·exact .inl ⟨x, hx, e3.trans e1, e2.trans e4⟩
  exact .inr (e2.trans h2)
 exact .inr h1
theorem BJ.refl (s : Ab) : BJ s s := fun b hb => .inl ⟨b, hb, rfl, rfl⟩
theorem El (j : Al) (n : NodD) : ∀ (l : List Ac) (s t : Ab), Bu j n l s = some t → BJ s t
 | [], s, t, h => by
  have : s = t := by simpa [Bu] using h
  rw [this]; exact BJ.refl t
 | x :: r, s, t, h => by
  unfold Bu at h
  rw [List.foldl_cons] at h
  simp only [AZ] at h
  split at h
  ·refine BJ.trans (t := placed s j n x) (fun b hb => ?_) (El j n r _ t h)
   unfold placed at hb
   rcases List.mem_append.1 hb with hb | hb
   ·exact .inl ⟨b, hb, rfl, rfl⟩
   rw [List.mem_singleton.1 hb]; exact .inr rfl
  exact absurd h (by rw [BH]; simp)
theorem KH (jobs : List Al) : ∀ (n : Nat) (l m : List Ac), Cj jobs n l = some m → ∀ b ∈ m, b ∈ l
 | 0, l, m, h, b, hb => by
  unfold Cj at h
  split at h
  ·injection h with h; rw [h]; exact hb
  cases h
 | n + 1, l, m, h, b, hb => by
  unfold Cj at h
  split at h
  ·injection h with h; rw [h]; exact hb
  split at h
  ·cases h
  exact List.mem_of_mem_eraseIdx (KH jobs n _ m h b hb)
theorem I6 (s : Ab) (j : Al) (node : Int) (l : List Ac) : BJ s (places s j node l).1 := by
 unfold places
 split
 ·exact BJ.refl s
 split
 ·exact BJ.refl s
 split
 ·exact BJ.refl s
 rename_i t ht
 split
 ·exact BJ.refl s
 rename_i m hm
 exact fun b hb => El j _ _ s t ht b (KH _ _ _ m hm b hb)
theorem EU (j : Al) (q : List Ac) : ∀ (l : List Int) (z : Ab × Bool), BJ z.1 (l.foldl (fun z n => let y := places z.1 j n q; (y.1, z.2 && y.2)) z).1
 | [], z => BJ.refl z.1
 | n :: l, z => (I6 z.1 j n q).trans (EU j q l ((places z.1 j n q).1, z.2 && (places z.1 j n q).2))
theorem Mf {s : Ab} (hu : Up Ac.id s.allocs) (c : BC) : Fb s (plan s c).1 := by
 have key : BJ s (plan s c).1 := by
  unfold plan
  simp only
  split
  ·split
   ·exact BJ.refl s
   have h1 : BJ s ({ s with allocs := stops c.plan.job s.allocs c.plan.stops } : Ab) := fun b hb => .inl (Ga _ _ _ b hb)
   have h2 := h1.trans (EU ‹Al› c.plan.places (Bj c.plan.places) (({ s with allocs := stops c.plan.job s.allocs c.plan.stops } : Ab), true))
   split
   ·exact h2
   exact h2
  exact BJ.refl s
 intro a ha b hb hid h1 h2
 rcases key b hb with ⟨x, hx, e1, e2⟩ | h3
 ·rw [up_eq hu hx ha (e1.trans hid)] at e2
  rw [e2, h1] at h2; cases h2
 rw [h3] at h2; cases h2
theorem JC {s : Ab} (h : Up Ac.id s.allocs) (he : ∀ a ∈ s.allocs, a.job ∈ s.jobs.map Al.id) (c : BC) : Fb s (command s c).1 := by
 have h0 : Fb s s := F6 h rfl
 have ho : ∀ {t : Ab}, Over s t → Fb s t := fun o => o.ended h he
 have hb : ∀ {t : Ab} (j : Al), t.allocs = s.allocs → Fb s (begins t j) := fun {t} j e => F6 h ((Lp t j).2.trans e)
 unfold command
 repeat' split
 ·exact h0
 ·unfold BL
  split
  ·exact h0
  split
  ·split
   ·exact h0
   exact hb _ rfl
  split
  ·exact h0
  exact hb _ rfl
 ·unfold cancel
  split
  ·exact h0
  refine ho (Over.pre (s := s) ?_ ?_ ?_ ?_ (CL _ _))
  ·exact Ct (fun j : Al => j.id == c.job.id) (fun j => { j with stopped := true }) Al.id (fun _ => rfl) s.jobs
  all_goals rfl
 ·unfold register
  split
  ·exact h0
  split
  ·exact ho (EF _ _)
  split
  ·exact h0
  split
  ·split <;> exact h0
  exact ho (EF _ _)
 ·unfold DN
  split
  ·exact h0
  split
  ·exact h0
  split
  ·exact h0
  split
  ·exact h0
  simp only
  have h1 : Over s (c.reports.foldl (report c.node) ({ s with nodes := turn1 (fun n => n.id == c.node.id) (fun n => { n with seq := c.node.seq }) s.nodes }, false)).1 := Over.trans (t := { s with nodes := turn1 (fun n => n.id == c.node.id) (fun n => { n with seq := c.node.seq }) s.nodes }) (Over.keep (Part.same rfl rfl rfl) rfl) (ET c.node c.reports ({ s with nodes := turn1 (fun n => n.id == c.node.id) (fun n => { n with seq := c.node.seq }) s.nodes }, false))
  have h2 := h1.trans (Hm _)
  split
  ·exact ho (h2.trans (Et _))
  exact ho h2
 ·unfold down
  split
  ·exact h0
  split
  ·exact h0
  split
  ·exact h0
  refine ho (Over.trans ?_ (Dr _))
  refine Over.pre (s := s) ?_ ?_ ?_ ?_ (GZ _ _) <;> rfl
 ·unfold drain
  split
  ·exact h0
  simp only
  have h1 : Over s (system (s.allocs.foldl (fun t a => if a.node == c.node.id && !Bb a then eval t a.job else t) { s with nodes := turn1 (fun n => n.id == c.node.id) (fun n => { n with drain := c.node.drain }) s.nodes })) := by
   refine Over.trans ?_ (Dr _)
   refine Over.pre (s := s) (t := { s with nodes := turn1 (fun n => n.id == c.node.id) (fun n => { n with drain := c.node.drain }) s.nodes }) rfl rfl rfl rfl (FH (f := fun t a => if a.node == c.node.id && !Bb a then eval t a.job else t) (fun t a => ?_) _ _)
   split
   ·exact CL t a.job
   exact Over.refl t
  split
  ·exact ho h1
  exact ho (h1.trans (Et _))
 ·exact Mf h c
 ·unfold revert
  split
  ·exact h0
  split
  ·exact h0
  split
  ·exact h0
  simp only
  split
  ·refine ho (Over.pre (s := s) ?_ ?_ ?_ ?_ (CL _ _)) <;> rfl
  split
  ·refine ho (Over.pre (s := s) ?_ ?_ ?_ ?_ (CL _ _)) <;> rfl
  split
  ·exact h0
  exact hb _ rfl
 exact h0
theorem LW {k : Nat} {s : Ab} (hn : Num k s) (he : Evs s) (ix : Int) (c : BC) : Fb s (apply s ix c).1 := by
 have h1 : Fb ({ s with index := ix } : Ab) (command { s with index := ix } c).1 := JC (s := { s with index := ix }) hn.ids he.own c
 have h0 : Fb s ({ s with index := ix } : Ab) := F6 hn.ids rfl
 unfold apply
 simp only
 split
 ·exact h1
 split
 ·exact h0
 split
 ·split <;> exact h0
 exact h1
theorem L6 {s : Ab} (he : Evs s) (ix : Int) (hx : s.index ≤ ix) (hi : 1 ≤ ix) (c : BC) (hop : (c.op == 3 || c.op == 4) = true) (hc : c.client = 0) (hr : (apply s ix c).2.code = 0) : Dl (apply s ix c).1 c.job.id := by
 have h1 : Evs { s with index := ix } := ⟨he.keys, he.sorted, fun e h => ⟨(he.bound e h).1, Int.le_trans (he.bound e h).2 hx⟩, he.own⟩
 have e0 : apply s ix c = command { s with index := ix } c := by
  unfold apply
  simp only [hc]
  simp
 rw [e0] at hr ⊢
 have hti : 1 ≤ ({ s with index := ix } : Ab).index := hi
 generalize ({ s with index := ix } : Ab) = t at h1 hr hti ⊢
 simp only [Bool.or_eq_true, beq_iff_eq] at hop
 unfold command at hr ⊢
 rcases hop with hop | hop
 ·simp only [hop, show ¬ ((3 : Int) = 1 ∨ (3 : Int) = 2) by omega, if_false, if_true] at hr ⊢
  unfold BL at hr ⊢
  cases hok : Dn c.job with
  | false => simp [hok, no] at hr
  | true =>
   simp only [hok, Bool.not_true, Bool.false_eq_true, if_false] at hr ⊢
   cases hj : AQ t c.job.id with
   | some h =>
    simp only [hj] at hr ⊢
    split at hr
    ·simp [no] at hr
    rename_i hcd
    rw [if_neg hcd]
    exact (Gg h1 hti _).2.1
   | none =>
    simp only [hj] at hr ⊢
    split at hr
    ·simp [no] at hr
    rename_i hcd
    rw [if_neg hcd]
    exact (Gg h1 hti _).2.1
 simp only [hop, show ¬ ((4 : Int) = 1 ∨ (4 : Int) = 2) by omega, show ¬ ((4 : Int) = 3) by omega, if_false, if_true] at hr ⊢
 unfold cancel at hr ⊢
 cases hj : AQ t c.job.id with
 | none => simp [hj, no] at hr
 | some h =>
  simp only [hj] at hr ⊢
  refine Gd ?_
  rw [Ct (fun j : Al => j.id == c.job.id) (fun j => { j with stopped := true }) Al.id (fun _ => rfl) t.jobs]
  obtain ⟨e1, e2⟩ := DC hj
  exact List.mem_map.2 ⟨h, e2, e1⟩
end Fsm
end
end Go.Proofs.YtccekmeifanipaaGreat
