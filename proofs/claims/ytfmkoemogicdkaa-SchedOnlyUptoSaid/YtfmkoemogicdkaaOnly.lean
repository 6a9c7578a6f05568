/- SchedOnly: on any store that is handed in it returns true. -/
import Derived.Test.YtfmkoemogicdkaaLives
import Derived.Test.YtfmkoemogicdkaaCaps
import Derived.Test.YtfmkoemogicdkaaRefSlot
import Derived.BigQuiet
namespace Go.Proofs.Ytfmkoemogicdkaa
set_option linter.unusedVariables false
open Go.RowKit

theorem any_next {α : Type} (p : α → Bool) (l : List α) (u : Nat) (h : u < l.length) : (l.take (u + 1)).any p = ((l.take u).any p || p l[u]) := by
  rw [List.take_add_one, List.getElem?_eq_getElem h, List.any_append]
  simp

set_option maxRecDepth 100000 in
set_option maxHeartbeats 4000000 in
theorem only_any (s : StoreV) (k : Int) (w : World) (h : s.Ok w) :
    Calls Try.prog 4 #[.agg #[.int .i64 s.index, .int .i64 s.next, .slice s.AJ s.nJ s.cJ, .slice s.AS s.nS s.cS, .slice s.AN s.nN s.cN, .slice s.AA s.nA s.cA, .slice s.AE s.nE s.cE, .slice s.AD s.nD s.cD, .slice s.AX s.nX s.cX], .int .i64 k] w fun e w' => e = .returned (.bool true) ∧ Ext Nothing w w' := by
  have hx0 : Ext Nothing w (w.alloc (.cells #[.int .i64 s.index, .int .i64 s.next, .slice s.AJ s.nJ s.cJ, .slice s.AS s.nS s.cS, .slice s.AN s.nN s.cN, .slice s.AA s.nA s.cA, .slice s.AE s.nE s.cE, .slice s.AD s.nD s.cD, .slice s.AX s.nX s.cX] 29)) := by (repeat' (first | (with_reducible assumption) | (with_reducible exact Ext.refl _ _) | (with_reducible refine Ext.alloc ?_ _) | (with_reducible refine Ext.drew ?_) | (with_reducible refine Ext.drewN ?_ _) | (with_reducible refine Ext.setCell ?_ (.inl (by simp only [World.size_alloc, World.size_setCell, World.size_drew] <;> omega)) _) | (with_reducible refine Ext.trans ?_ (by assumption) (fun _ _ e => e))))
  have hb0 : Blk (w.alloc (.cells #[.int .i64 s.index, .int .i64 s.next, .slice s.AJ s.nJ s.cJ, .slice s.AS s.nS s.cS, .slice s.AN s.nN s.cN, .slice s.AA s.nA s.cA, .slice s.AE s.nE s.cE, .slice s.AD s.nD s.cD, .slice s.AX s.nX s.cX] 29)) w.heap.size 29 #[.int .i64 s.index, .int .i64 s.next, .slice s.AJ s.nJ s.cJ, .slice s.AS s.nS s.cS, .slice s.AN s.nN s.cN, .slice s.AA s.nA s.cA, .slice s.AE s.nE s.cE, .slice s.AD s.nD s.cD, .slice s.AX s.nX s.cX] := Blk.new _ _ _
  have h1 : s.Ok (w.alloc (.cells #[.int .i64 s.index, .int .i64 s.next, .slice s.AJ s.nJ s.cJ, .slice s.AS s.nS s.cS, .slice s.AN s.nN s.cN, .slice s.AA s.nA s.cA, .slice s.AE s.nE s.cE, .slice s.AD s.nD s.cD, .slice s.AX s.nX s.cX] 29)) := h.ext0 hx0
  generalize hcp : capsB s.nodes = cp
  have HC := Lib.hid hcp
  clear hcp
  go_enter Try.func4, Try.ntmps4
  cases cp with
  | false =>
    go_wp2_with (first | (refine wpList_load_blk rfl 29 _ rfl STStore _ rfl #[.int .i64 s.index, .int .i64 s.next, .slice s.AJ s.nJ s.cJ, .slice s.AS s.nS s.cS, .slice s.AN s.nN s.cN, .slice s.AA s.nA s.cA, .slice s.AE s.nE s.cE, .slice s.AD s.nD s.cD, .slice s.AX s.nX s.cX] (by exact hb0) rfl ?_) | (go_at_call 5; refine (caps_any s.AN s.nN s.cN s.nodes _ h1.sN (by have := h1.mN; omega) _ _ _ _ _ _ _ _).mono ?_; rintro e w1 ⟨rfl, hx1⟩; rw [HC.out]) | (go_at_call 6; refine (lives_any _).mono ?_; rintro e w2 ⟨rfl, hx2⟩))
    go_ret
    exact ⟨rfl, (hx0.trans hx1 (fun _ _ e => e)).trans hx2 (fun _ _ e => e)⟩
  | true =>
    go_wp2_with (first | (refine wpList_load_blk rfl 29 _ rfl STStore _ rfl #[.int .i64 s.index, .int .i64 s.next, .slice s.AJ s.nJ s.cJ, .slice s.AS s.nS s.cS, .slice s.AN s.nN s.cN, .slice s.AA s.nA s.cA, .slice s.AE s.nE s.cE, .slice s.AD s.nD s.cD, .slice s.AX s.nX s.cX] (by first | exact hb0 | exact hb1) rfl ?_) | (go_at_call 5; refine (caps_any s.AN s.nN s.cN s.nodes _ h1.sN (by have := h1.mN; omega) _ _ _ _ _ _ _ _).mono ?_; rintro e w1 ⟨rfl, hx1⟩; rw [HC.out]; have hb1 := hb0.ext hx1 (fun e => e); have h2 := h1.ext0 hx1) | (go_at_call 8; refine (plan_any s k w1 h2).mono ?_; rintro e w2 ⟨⟨i0, i1, i2, bl, stops, places, A1, c1, A2, c2, rfl, hO, o1, o2⟩, hx2⟩))
    have hxP : Ext Nothing w1 (w2.alloc (.cells #[.int .i64 i0, .int .i64 i1, .int .i64 i2, .slice A1 stops.length c1, .slice A2 places.length c2, .bool bl] 35)) := hx2.alloc _
    have hP : Blk (w2.alloc (.cells #[.int .i64 i0, .int .i64 i1, .int .i64 i2, .slice A1 stops.length c1, .slice A2 places.length c2, .bool bl] 35)) w2.heap.size 35 #[.int .i64 i0, .int .i64 i1, .int .i64 i2, .slice A1 stops.length c1, .slice A2 places.length c2, .bool bl] := Blk.new _ _ _
    have hS := hb1.ext hxP (fun e => e)
    have hWw := (hx0.trans hx1 (fun _ _ e => e)).trans hxP (fun _ _ e => e)
    have h3 := h2.ext0 hxP
    have sT : Sl (w2.alloc (.cells #[.int .i64 i0, .int .i64 i1, .int .i64 i2, .slice A1 stops.length c1, .slice A2 places.length c2, .bool bl] 35)) 1 A1 stops.length (stops.map intC) := (Sl.of_own intC_len o1 rfl).ext0 ((Ext.refl _ _).alloc _)
    have sP : Sl (w2.alloc (.cells #[.int .i64 i0, .int .i64 i1, .int .i64 i2, .slice A1 stops.length c1, .slice A2 places.length c2, .bool bl] 35)) 11 A2 places.length (places.map AllocD.cells) := (Sl.of_own all_len o2 rfl).ext0 ((Ext.refl _ _).alloc _)
    have hlenA := Lib.hid h3.sA.len
    have hmA := h3.mA
    have hl1 := hO.len1
    have hl2 := hO.len2
    clear hxP hb1 o1 o2 h h1 hb0
    generalize w2.alloc (.cells #[.int .i64 i0, .int .i64 i1, .int .i64 i2, .slice A1 stops.length c1, .slice A2 places.length c2, .bool bl] 35) = W at hP hS hWw h3 sT sP ⊢
    generalize w2.heap.size = pb at hP ⊢
    clear hx0 hx1 hx2 h2
    go_loopw [7] (fun i wr => ∃ t : Nat, t ≤ stops.length ∧ i = .int .i64 t ∧ Ext Nothing W wr) (fun i _ => stops.length - (intOf i).toNat)
    case atStart => exact ⟨0, Nat.zero_le _, rfl, Ext.refl _ _⟩
    case round =>
      obtain ⟨t, ht, rfl, hx⟩ := hrel
      have hPr := hP.ext hx (fun e => e)
      have hSr := hS.ext hx (fun e => e)
      have p3 : wr.cell? ⟨pb, 3, none⟩ = some (.slice A1 stops.length c1) := hPr.cell 3
      by_cases hlt : t < stops.length
      · have hx0s : stops[t]? = some stops[t] := List.getElem?_eq_getElem hlt
        have HT := Lib.hid (hO.stop t _ hx0s)
        go_wp2
        obtain ⟨wo, rfl⟩ : ∃ wo : World, wo = wr := ⟨_, rfl⟩
        go_loopw [8, 9] (fun v8 i wr => ∃ u : Nat, u ≤ s.nA ∧ i = .int .i64 u ∧ v8 = .bool ((s.allocs.take u).any (fun a => a.id == stops[t] && a.job == k)) ∧ Ext Nothing W wr) (fun _ i _ => s.nA - (intOf i).toNat)
        case atStart => exact ⟨0, Nat.zero_le _, rfl, rfl, hx⟩
        case round =>
          clear hPr hSr p3
          obtain ⟨u, hu, rfl, rfl, hx⟩ := hrel
          have hPr := hP.ext hx (fun e => e)
          have hSr := hS.ext hx (fun e => e)
          have c5 : wr.cell? ⟨w.heap.size, 5, none⟩ = some (.slice s.AA s.nA s.cA) := hSr.cell 5
          by_cases hlu : u < s.nA
          · obtain ⟨hjn, b, off, hAe, hce⟩ := h3.sA.get hx hlu
            rw [hAe] at c5
            have HA := Lib.hid hAe
            clear hAe
            obtain ⟨_, b1, off1, hA1, hc1⟩ := sT.get hx hlt
            have p3 : wr.cell? ⟨pb, 3, none⟩ = some (.slice A1 stops.length c1) := hPr.cell 3
            rw [hA1] at p3
            have HA1 := Lib.hid hA1
            clear hA1
            have HN := any_next (fun a : AllocD => a.id == stops[t] && a.job == k) s.allocs u hjn
            generalize hy : s.allocs[u] = y at hce HN
            clear hy
            generalize hxs : stops[t] = x at hc1 HN ⊢
            clear hxs
            have q1 : wr.cell? ⟨b1, off1 + t, none⟩ = some (.int .i64 x) := by simpa using hc1 0 _ rfl
            have q2 : wr.cell? ⟨b1, off1 + t * 1, none⟩ = some (.int .i64 x) := by simpa using hc1 0 _ rfl
            have a0 : wr.cell? ⟨b, off + u * 11, none⟩ = some (.int .i64 y.id) := hce 0 _ rfl
            have a1 : wr.cell? ⟨b, off + u * 11 + 1, none⟩ = some (.int .i64 y.job) := hce 1 _ rfl
            generalize (s.allocs.take u).any (fun a => a.id == x && a.job == k) = fb at HN ⊢
            go_wp2
            cases fb with
            | true =>
              have HM := Lib.hid (show (s.allocs.take (u + 1)).any (fun a => a.id == x && a.job == k) = true from HN)
              clear HN
              go_quiet (fail)
              go_wp2
              go_roundw
              case rel => exact ⟨u + 1, by omega, by go_num, by rw [HM.out], hx.trans (by (repeat' (first | (with_reducible assumption) | (with_reducible exact Ext.refl _ _) | (with_reducible refine Ext.alloc ?_ _) | (with_reducible refine Ext.drew ?_) | (with_reducible refine Ext.drewN ?_ _) | (with_reducible refine Ext.setCell ?_ (.inl (by simp only [World.size_alloc, World.size_setCell, World.size_drew] <;> omega)) _) | (with_reducible refine Ext.trans ?_ (by assumption) (fun _ _ e => e))))) (fun _ _ e => e)⟩
              case measure => simp [intOf]; omega
            | false =>
              cases d1 : (y.id == x) with
              | false =>
                have HM := Lib.hid (show (s.allocs.take (u + 1)).any (fun a => a.id == x && a.job == k) = false by rw [HN, d1]; rfl)
                clear HN
                go_quiet (fail)
                go_wp2
                go_roundw
                case rel => exact ⟨u + 1, by omega, by go_num, by rw [HM.out], hx.trans (by (repeat' (first | (with_reducible assumption) | (with_reducible exact Ext.refl _ _) | (with_reducible refine Ext.alloc ?_ _) | (with_reducible refine Ext.drew ?_) | (with_reducible refine Ext.drewN ?_ _) | (with_reducible refine Ext.setCell ?_ (.inl (by simp only [World.size_alloc, World.size_setCell, World.size_drew] <;> omega)) _) | (with_reducible refine Ext.trans ?_ (by assumption) (fun _ _ e => e))))) (fun _ _ e => e)⟩
                case measure => simp [intOf]; omega
              | true =>
                cases d2 : (y.job == k) with
                | false =>
                  have HM := Lib.hid (show (s.allocs.take (u + 1)).any (fun a => a.id == x && a.job == k) = false by rw [HN, d1, d2]; rfl)
                  clear HN
                  go_quiet (fail)
                  go_wp2
                  go_roundw
                  case rel => exact ⟨u + 1, by omega, by go_num, by rw [HM.out], hx.trans (by (repeat' (first | (with_reducible assumption) | (with_reducible exact Ext.refl _ _) | (with_reducible refine Ext.alloc ?_ _) | (with_reducible refine Ext.drew ?_) | (with_reducible refine Ext.drewN ?_ _) | (with_reducible refine Ext.setCell ?_ (.inl (by simp only [World.size_alloc, World.size_setCell, World.size_drew] <;> omega)) _) | (with_reducible refine Ext.trans ?_ (by assumption) (fun _ _ e => e))))) (fun _ _ e => e)⟩
                  case measure => simp [intOf]; omega
                | true =>
                  have HM := Lib.hid (show (s.allocs.take (u + 1)).any (fun a => a.id == x && a.job == k) = true by rw [HN, d1, d2]; rfl)
                  clear HN
                  go_quiet (fail)
                  go_wp2
                  go_roundw
                  case rel => exact ⟨u + 1, by omega, by go_num, by rw [HM.out], hx.trans (by (repeat' (first | (with_reducible assumption) | (with_reducible exact Ext.refl _ _) | (with_reducible refine Ext.alloc ?_ _) | (with_reducible refine Ext.drew ?_) | (with_reducible refine Ext.drewN ?_ _) | (with_reducible refine Ext.setCell ?_ (.inl (by simp only [World.size_alloc, World.size_setCell, World.size_drew] <;> omega)) _) | (with_reducible refine Ext.trans ?_ (by assumption) (fun _ _ e => e))))) (fun _ _ e => e)⟩
                  case measure => simp [intOf]; omega
          · have hall : s.allocs.take u = s.allocs := List.take_of_length_le (by have := hlenA.out; omega)
            rw [hall, HT.out]
            clear hall
            go_wp2
            go_roundw
            case rel => exact ⟨t + 1, by omega, by go_num, hx⟩
            case measure => simp [intOf]; omega
      · go_wp2
        obtain ⟨wz, rfl⟩ : ∃ wz : World, wz = wr := ⟨_, rfl⟩
        clear p3 hPr hSr hlt ht
        go_loopw [10] (fun i wr => ∃ t : Nat, t ≤ places.length ∧ i = .int .i64 t ∧ Ext Nothing W wr) (fun i _ => places.length - (intOf i).toNat)
        case atStart => exact ⟨0, Nat.zero_le _, rfl, hx⟩
        case round =>
          clear hx
          obtain ⟨m, hm, rfl, hx⟩ := hrel
          have hPr := hP.ext hx (fun e => e)
          have hSr := hS.ext hx (fun e => e)
          have p4 : wr.cell? ⟨pb, 4, none⟩ = some (.slice A2 places.length c2) := hPr.cell 4
          by_cases hlt : m < places.length
          · obtain ⟨_, b, off, hAe, hce⟩ := sP.get hx hlt
            rw [hAe] at p4
            have HA := Lib.hid hAe
            clear hAe
            have hpm : places[m]? = some places[m] := List.getElem?_eq_getElem hlt
            obtain ⟨hj, hz⟩ := hO.place m _ hpm
            have H2 := Lib.hid (fun (i : Nat) (q : AllocD) (hq : places[i]? = some q) (hi : i < m) => hO.two m i _ q hpm hq hi)
            clear hpm
            generalize places[m] = p at hce hj hz H2
            simp only [AllocD.cells, hj] at hce
            clear hj
            have hz' : ¬ (idxI (slotB k p.group p.index) s.allocs ≥ 0) := by omega
            generalize hzz : idxI (slotB k p.group p.index) s.allocs = z at hz hz'
            have HZ := Lib.hid hzz
            clear hzz
            have hcf : ∀ q v, (#[.int .i64 p.id, .int .i64 k, .int .i64 p.ver, .int .i64 p.group, .int .i64 p.index, .int .i64 p.node, .int .i64 p.epoch, .int .i64 p.ask.cpu, .int .i64 p.ask.mem, .bool p.stop, .int .i64 p.state] : Array Value).toList[q]? = some v → wr.cell? ⟨b, off + m * 11 + q, none⟩ = some v := hce
            have hxB : Ext Nothing W (wr.alloc (.cells #[.int .i64 p.id, .int .i64 k, .int .i64 p.ver, .int .i64 p.group, .int .i64 p.index, .int .i64 p.node, .int .i64 p.epoch, .int .i64 p.ask.cpu, .int .i64 p.ask.mem, .bool p.stop, .int .i64 p.state] 40)) := hx.alloc _
            have hBB : Blk (wr.alloc (.cells #[.int .i64 p.id, .int .i64 k, .int .i64 p.ver, .int .i64 p.group, .int .i64 p.index, .int .i64 p.node, .int .i64 p.epoch, .int .i64 p.ask.cpu, .int .i64 p.ask.mem, .bool p.stop, .int .i64 p.state] 40)) wr.heap.size 40 #[.int .i64 p.id, .int .i64 k, .int .i64 p.ver, .int .i64 p.group, .int .i64 p.index, .int .i64 p.node, .int .i64 p.epoch, .int .i64 p.ask.cpu, .int .i64 p.ask.mem, .bool p.stop, .int .i64 p.state] := Blk.new _ _ _
            have hSB := hS.ext hxB (fun e => e)
            have s0 : (wr.alloc (.cells #[.int .i64 p.id, .int .i64 k, .int .i64 p.ver, .int .i64 p.group, .int .i64 p.index, .int .i64 p.node, .int .i64 p.epoch, .int .i64 p.ask.cpu, .int .i64 p.ask.mem, .bool p.stop, .int .i64 p.state] 40)).cell? ⟨w.heap.size, 0, none⟩ = some (.int .i64 s.index) := hSB.cell 0
            have s1 : (wr.alloc (.cells #[.int .i64 p.id, .int .i64 k, .int .i64 p.ver, .int .i64 p.group, .int .i64 p.index, .int .i64 p.node, .int .i64 p.epoch, .int .i64 p.ask.cpu, .int .i64 p.ask.mem, .bool p.stop, .int .i64 p.state] 40)).cell? ⟨w.heap.size, 1, none⟩ = some (.int .i64 s.next) := hSB.cell 1
            have s2 : (wr.alloc (.cells #[.int .i64 p.id, .int .i64 k, .int .i64 p.ver, .int .i64 p.group, .int .i64 p.index, .int .i64 p.node, .int .i64 p.epoch, .int .i64 p.ask.cpu, .int .i64 p.ask.mem, .bool p.stop, .int .i64 p.state] 40)).cell? ⟨w.heap.size, 2, none⟩ = some (.slice s.AJ s.nJ s.cJ) := hSB.cell 2
            have s3 : (wr.alloc (.cells #[.int .i64 p.id, .int .i64 k, .int .i64 p.ver, .int .i64 p.group, .int .i64 p.index, .int .i64 p.node, .int .i64 p.epoch, .int .i64 p.ask.cpu, .int .i64 p.ask.mem, .bool p.stop, .int .i64 p.state] 40)).cell? ⟨w.heap.size, 3, none⟩ = some (.slice s.AS s.nS s.cS) := hSB.cell 3
            have s4 : (wr.alloc (.cells #[.int .i64 p.id, .int .i64 k, .int .i64 p.ver, .int .i64 p.group, .int .i64 p.index, .int .i64 p.node, .int .i64 p.epoch, .int .i64 p.ask.cpu, .int .i64 p.ask.mem, .bool p.stop, .int .i64 p.state] 40)).cell? ⟨w.heap.size, 4, none⟩ = some (.slice s.AN s.nN s.cN) := hSB.cell 4
            have s5 : (wr.alloc (.cells #[.int .i64 p.id, .int .i64 k, .int .i64 p.ver, .int .i64 p.group, .int .i64 p.index, .int .i64 p.node, .int .i64 p.epoch, .int .i64 p.ask.cpu, .int .i64 p.ask.mem, .bool p.stop, .int .i64 p.state] 40)).cell? ⟨w.heap.size, 5, none⟩ = some (.slice s.AA s.nA s.cA) := hSB.cell 5
            have s6 : (wr.alloc (.cells #[.int .i64 p.id, .int .i64 k, .int .i64 p.ver, .int .i64 p.group, .int .i64 p.index, .int .i64 p.node, .int .i64 p.epoch, .int .i64 p.ask.cpu, .int .i64 p.ask.mem, .bool p.stop, .int .i64 p.state] 40)).cell? ⟨w.heap.size, 6, none⟩ = some (.slice s.AE s.nE s.cE) := hSB.cell 6
            have s7 : (wr.alloc (.cells #[.int .i64 p.id, .int .i64 k, .int .i64 p.ver, .int .i64 p.group, .int .i64 p.index, .int .i64 p.node, .int .i64 p.epoch, .int .i64 p.ask.cpu, .int .i64 p.ask.mem, .bool p.stop, .int .i64 p.state] 40)).cell? ⟨w.heap.size, 7, none⟩ = some (.slice s.AD s.nD s.cD) := hSB.cell 7
            have s8 : (wr.alloc (.cells #[.int .i64 p.id, .int .i64 k, .int .i64 p.ver, .int .i64 p.group, .int .i64 p.index, .int .i64 p.node, .int .i64 p.epoch, .int .i64 p.ask.cpu, .int .i64 p.ask.mem, .bool p.stop, .int .i64 p.state] 40)).cell? ⟨w.heap.size, 8, none⟩ = some (.slice s.AX s.nX s.cX) := hSB.cell 8
            go_wp2_with (first | (refine wpList_load_at rfl 40 _ rfl STAlloc b (off + m * 11) rfl #[.int .i64 p.id, .int .i64 k, .int .i64 p.ver, .int .i64 p.group, .int .i64 p.index, .int .i64 p.node, .int .i64 p.epoch, .int .i64 p.ask.cpu, .int .i64 p.ask.mem, .bool p.stop, .int .i64 p.state] hcf rfl ?_) | (go_at_call 10; refine (refSlot s.AA s.nA s.cA s.allocs k p.group p.index _ (h3.sA.ext0 hxB) (by omega) _ _ _ _ _ _ _ _).mono ?_; rintro e w5 ⟨rfl, hx5⟩; rw [HZ.out]))
            have hx6 : Ext Nothing W w5 := hxB.trans hx5 (fun _ _ e => e)
            have hB6 := hBB.ext hx5 (fun e => e)
            clear hxB hBB hSB s0 s1 s2 s3 s4 s5 s6 s7 s8 hcf hx5 hPr hSr
            generalize wr.heap.size = ab at hB6 ⊢
            go_loopw [12] (fun i wr => ∃ u : Nat, u ≤ m ∧ i = .int .i64 u ∧ Ext Nothing W wr ∧ Blk wr ab 40 #[.int .i64 p.id, .int .i64 k, .int .i64 p.ver, .int .i64 p.group, .int .i64 p.index, .int .i64 p.node, .int .i64 p.epoch, .int .i64 p.ask.cpu, .int .i64 p.ask.mem, .bool p.stop, .int .i64 p.state]) (fun i _ => m - (intOf i).toNat)
            case atStart => exact ⟨0, Nat.zero_le _, rfl, hx6, hB6⟩
            case round =>
              clear hB6 hx6 p4 hce hx
              obtain ⟨u, hu, rfl, hx, hB⟩ := hrel
              by_cases hlu : u < m
              · have hPr := hP.ext hx (fun e => e)
                have p4 : wr.cell? ⟨pb, 4, none⟩ = some (.slice A2 places.length c2) := hPr.cell 4
                rw [HA.out] at p4
                have hup : u < places.length := by omega
                have HU := Lib.hid (H2.out u _ (List.getElem?_eq_getElem hup) hlu)
                obtain ⟨_, b2, off2, hAe, hce⟩ := sP.get hx hup
                have hbo : b2 = b ∧ off2 = off := by
                  have := hAe.symm.trans HA.out
                  injection this with this
                  injection this with h1 h2
                  exact ⟨h1, h2⟩
                obtain ⟨rfl, rfl⟩ := hbo
                clear hAe
                generalize places[u] = q at hce HU
                have g3 : wr.cell? ⟨b2, off2 + u * 11 + 3, none⟩ = some (.int .i64 q.group) := hce 3 _ rfl
                have g4 : wr.cell? ⟨b2, off2 + u * 11 + 4, none⟩ = some (.int .i64 q.index) := hce 4 _ rfl
                have e3 : wr.cell? ⟨ab, 3, none⟩ = some (.int .i64 p.group) := hB.cell 3
                have e4 : wr.cell? ⟨ab, 4, none⟩ = some (.int .i64 p.index) := hB.cell 4
                go_wp2
                cases d1 : (q.group == p.group) with
                | false =>
                  go_quiet (fail)
                  go_wp2
                  go_roundw
                  case rel => exact ⟨u + 1, by omega, by go_num, hx.trans (by (repeat' (first | (with_reducible assumption) | (with_reducible exact Ext.refl _ _) | (with_reducible refine Ext.alloc ?_ _) | (with_reducible refine Ext.drew ?_) | (with_reducible refine Ext.drewN ?_ _) | (with_reducible refine Ext.setCell ?_ (.inl (by simp only [World.size_alloc, World.size_setCell, World.size_drew] <;> omega)) _) | (with_reducible refine Ext.trans ?_ (by assumption) (fun _ _ e => e))))) (fun _ _ e => e), hB.ext (S := Nothing) (by (repeat' (first | (with_reducible assumption) | (with_reducible exact Ext.refl _ _) | (with_reducible refine Ext.alloc ?_ _) | (with_reducible refine Ext.drew ?_) | (with_reducible refine Ext.drewN ?_ _) | (with_reducible refine Ext.setCell ?_ (.inl (by simp only [World.size_alloc, World.size_setCell, World.size_drew] <;> omega)) _) | (with_reducible refine Ext.trans ?_ (by assumption) (fun _ _ e => e))))) (fun e => e)⟩
                  case measure => simp [intOf]; omega
                | true =>
                  have d2 : (q.index == p.index) = false := by have := HU.out; rw [d1, Bool.true_and] at this; exact this
                  go_quiet (fail)
                  go_wp2
                  go_roundw
                  case rel => exact ⟨u + 1, by omega, by go_num, hx.trans (by (repeat' (first | (with_reducible assumption) | (with_reducible exact Ext.refl _ _) | (with_reducible refine Ext.alloc ?_ _) | (with_reducible refine Ext.drew ?_) | (with_reducible refine Ext.drewN ?_ _) | (with_reducible refine Ext.setCell ?_ (.inl (by simp only [World.size_alloc, World.size_setCell, World.size_drew] <;> omega)) _) | (with_reducible refine Ext.trans ?_ (by assumption) (fun _ _ e => e))))) (fun _ _ e => e), hB.ext (S := Nothing) (by (repeat' (first | (with_reducible assumption) | (with_reducible exact Ext.refl _ _) | (with_reducible refine Ext.alloc ?_ _) | (with_reducible refine Ext.drew ?_) | (with_reducible refine Ext.drewN ?_ _) | (with_reducible refine Ext.setCell ?_ (.inl (by simp only [World.size_alloc, World.size_setCell, World.size_drew] <;> omega)) _) | (with_reducible refine Ext.trans ?_ (by assumption) (fun _ _ e => e))))) (fun e => e)⟩
                  case measure => simp [intOf]; omega
              · go_wp2
                go_roundw
                case rel => exact ⟨m + 1, by omega, by go_num, hx⟩
                case measure => simp [intOf]; omega
          · go_wp2_with (go_at_call 6; refine (lives_any _).mono ?_; rintro e w2 ⟨rfl, hx2⟩)
            go_ret
            exact ⟨rfl, (hWw.trans hx (fun _ _ e => e)).trans hx2 (fun _ _ e => e)⟩
end Go.Proofs.Ytfmkoemogicdkaa
