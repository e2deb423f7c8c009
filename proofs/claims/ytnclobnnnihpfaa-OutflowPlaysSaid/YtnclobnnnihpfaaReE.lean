/- The document's flow: Begin. -/
import Derived.Test.YtnclobnnnihpfaaReN
namespace Go.Proofs.Ytnclobnnnihpfaa
set_option linter.unusedVariables false
open Go.RowKit Go.Maps

theorem rflow_on1 {B fp pb : Nat} {s : FS} {vf vw vl : Value} {L : List Int} {w : World} (h : DFlowV B fp pb s vf vw vl L w) :
    DFlowV B fp pb { s with on := true } vf vw vl L (w.setCell ⟨fp, 2, none⟩ (.bool true)) ∧ Fr B refS w (w.setCell ⟨fp, 2, none⟩ (.bool true)) := by
  obtain ⟨p1, p2, p3, p4, p5⟩ := h.parts 2 (.bool true)
  exact ⟨⟨⟨h.ok.t0, h.ok.t1, h.ok.m0, h.ok.m1, h.ok.fl, h.ok.wt, h.ok.nd, h.ok.ids, h.ok.fq, h.ok.rq, h.ok.wq⟩, h.hB, p1, p2, p3, p4⟩, p5⟩
theorem rflow_on2 {B fp pb : Nat} {s : FS} {vf vw vl : Value} {L : List Int} {w : World} (h : DFlowV B fp pb { s with on := true } vf vw vl L w) (n : Int) :
    DFlowV B fp pb { s with on := true, most := bounded n } vf vw vl L (w.setCell ⟨fp, 1, none⟩ (.int .i64 (bounded n))) ∧ Fr B refS w (w.setCell ⟨fp, 1, none⟩ (.int .i64 (bounded n))) := by
  obtain ⟨p1, p2, p3, p4, p5⟩ := h.parts 1 (.int .i64 (bounded n))
  exact ⟨⟨⟨h.ok.t0, h.ok.t1, (bounded_bd n).1, (bounded_bd n).2, h.ok.fl, h.ok.wt, h.ok.nd, h.ok.ids, h.ok.fq, h.ok.rq, h.ok.wq⟩, h.hB, p1, p2, p3, p4⟩, p5⟩
/-- What Begin comes to. -/
def RBegPost (B fp pb : Nat) (w : World) (r : FS × List OP) (e : Ending) (w' : World) : Prop := ∃ v', e = .returned v' ∧ DFlowAt B fp pb r.1 w' ∧ ROutAt w.heap.size w' v' r.2 ∧ Fr B refS w w'
set_option maxHeartbeats 4000000 in
set_option maxRecDepth 100000 in
theorem rbegin_any (B fp pb : Nat) (s : FS) (n : Int) (w : World) (h : DFlowAt B fp pb s w) (h0 : -9223372036854775808 ≤ n) (h1 : n ≤ 9223372036854775807) :
    Calls Try.prog 20 #[.pointer (some ⟨fp, 0, none⟩), .int .i64 n] w (RBegPost B fp pb w (fbegin s n)) := by
  have CB := fun W => Lib.hid (rbound_any n W h0 h1)
  obtain ⟨vf, vw, vl, LL, hV⟩ := h
  have hsz := hV.sz
  have hon1 := rflow_on1 hV
  have c2 := hV.blk.cell 2
  have f2 := hV.blk.frozen 2
  obtain ⟨ao, cap, rfl, hnc, hcm, -⟩ := hV.fl.form
  simp only [List.getElem?_toArray, List.getElem?_cons_zero, List.getElem?_cons_succ] at c2
  have HON := Lib.hid hon1
  obtain ⟨N, hN⟩ : ∃ N, s.fl.length = N := ⟨_, rfl⟩
  have HN := Lib.hid hN
  have hN64 : N ≤ 64 := by rw [← hN]; exact hV.ok.fl
  unfold maxLen at hcm
  clear hV h0 h1 hon1 hN
  go_enter Try.func20, Try.ntmps20
  go_wp2_with fail
  have hon2 := HON.out
  obtain ⟨W1, hW1⟩ : ∃ W1, w.setCell ⟨fp, 2, none⟩ (.bool true) = W1 := ⟨_, rfl⟩
  rw [hW1] at hon2 ⊢
  have HV1 := Lib.hid hon2.1
  have HF1 := Lib.hid hon2.2
  clear hon2 hW1 c2 f2 HON
  (with_reducible refine (CB _).out.mono ?_)
  rintro e w2 ⟨rfl, hb2⟩
  have HV2 := Lib.hid (HV1.out.below hb2)
  have HF2 := Lib.hid (HF1.out.trans (Fr.of_below (S := refS) hb2 HV1.out.sz))
  have hon3 := rflow_on2 HV2.out n
  have c1 := HV2.out.blk.cell 1
  have f1 := HV2.out.blk.frozen 1
  simp only [List.getElem?_toArray, List.getElem?_cons_zero, List.getElem?_cons_succ] at c1
  obtain ⟨bn, hbn⟩ : ∃ bn, bounded n = bn := ⟨_, rfl⟩
  rw [hbn] at hon3 ⊢
  have HON := Lib.hid hon3
  have HBN := Lib.hid hbn
  clear hb2 hon3 hbn CB
  go_wp2_with fail
  have hon2 := HON.out
  obtain ⟨W3, hW3⟩ : ∃ W3, w2.setCell ⟨fp, 1, none⟩ (.int .i64 bn) = W3 := ⟨_, rfl⟩
  rw [hW3] at hon2 ⊢
  have HV3 := Lib.hid hon2.1
  have HF3 := Lib.hid (HF2.out.trans hon2.2)
  clear hon2 hW3 c1 f1 HON
  go_loopw [5, 6] (fun v i wr => ∃ k : Nat, i = .int .i64 k ∧ k ≤ N ∧ Hid (DFlowV B fp pb { s with on := true, most := bn } (.slice ao s.fl.length cap) vw vl LL wr) ∧ Hid (ROutAt w.heap.size wr v ((s.fl.take k).map again)) ∧ Hid (Fr B refS w wr)) (fun _ i _ => N - (intOf i).toNat)
  case atStart => exact ⟨0, rfl, by omega, HV3, Lib.hid (ROutAt.nil _ _), HF3⟩
  case round =>
    obtain ⟨k, rfl, hk, hV, hO, hF⟩ := hrel
    have hwz : w.heap.size ≤ wr.heap.size := hF.out.below.size
    have c3 : wr.cell? ⟨fp, 3, none⟩ = some (.slice ao N cap) := by rw [← HN.out]; exact hV.out.blk.cell 3
    by_cases hlt : k < N
    · obtain ⟨x, hx⟩ : ∃ x, s.fl[k]? = some x := ⟨_, List.getElem?_eq_getElem (by rw [HN.out]; exact hlt)⟩
      obtain ⟨g, o, cap', hve, _, _, _, _, hcl⟩ := hV.out.fl.at (by show 0 < s.fl.length; rw [HN.out]; omega)
      injection hve with hve _ hcc
      subst hve hcc
      have e0 := hcl (k * 7) _ (flL_get s.fl k x hx 0 _ rfl)
      have e1 := hcl (k * 7 + 1) _ (flL_get s.fl k x hx 1 _ rfl)
      have e2 := hcl (k * 7 + 2) _ (flL_get s.fl k x hx 2 _ rfl)
      have e3 := hcl (k * 7 + 3) _ (flL_get s.fl k x hx 3 _ rfl)
      have e4 := hcl (k * 7 + 4) _ (flL_get s.fl k x hx 4 _ rfl)
      have e5 := hcl (k * 7 + 5) _ (flL_get s.fl k x hx 5 _ rfl)
      have e6 := hcl (k * 7 + 6) _ (flL_get s.fl k x hx 6 _ rfl)
      simp only [← Nat.add_assoc] at e1 e2 e3 e4 e5 e6
      have hkn : (k : Int) < (N : Int) := by omega
      have HT := Lib.hid (show (s.fl.take (k + 1)).map again = (s.fl.take k).map again ++ [again x] from by rw [List.take_add_one, hx]; simp)
      obtain ⟨xid, ⟨xt, xp, xq, xr, xg⟩, xrel⟩ := x
      simp only at e0 e1 e2 e3 e4 e5 e6
      have hal := (Below.refl wr.heap.size wr).alloc (Nat.le_refl _) (.cells #[.int .i64 xid, .string xt, .string xp, .int .i64 xq, .bool xr, .string xg, .bool xrel] 102)
      have hbx := blk_at wr #[.int .i64 xid, .string xt, .string xp, .int .i64 xq, .bool xr, .string xg, .bool xrel] 102 rfl
      have HVX := Lib.hid (hV.out.below hal)
      have HOX := Lib.hid (hO.out.below hal)
      have HFX := Lib.hid (hF.out.trans (Fr.of_below (S := refS) hal hV.out.sz))
      obtain ⟨X, hX⟩ : ∃ X, wr.alloc (.cells #[.int .i64 xid, .string xt, .string xp, .int .i64 xq, .bool xr, .string xg, .bool xrel] 102) = X := ⟨_, rfl⟩
      rw [hX] at hbx HVX HOX HFX
      have HEX := Lib.hid hX
      have x0 := hbx.cell 0
      have x1 := hbx.cell 1
      have x2 := hbx.cell 2
      have x3 := hbx.cell 3
      have x4 := hbx.cell 4
      have x5 := hbx.cell 5
      have x6 := hbx.cell 6
      simp only [List.getElem?_toArray, List.getElem?_cons_zero, List.getElem?_cons_succ] at x0 x1 x2 x3 x4 x5 x6
      have hxl : wr.heap.size < X.heap.size := hbx.lt
      clear hal hbx hX hx hcl hV hO hF
      cases xrel
      · have CP := Lib.hid (rpub_any ⟨xt, xp, xq, xr, xg⟩ xid true X)
        unfold omA at CP
        simp only at CP
        have HT : Hid ((s.fl.take (k + 1)).map again = (s.fl.take k).map again ++ [(.pub ⟨xt, xp, xq, xr, xg⟩ xid true : OP)]) := HT
        go_wp2_with (first | (rw [HEX.out]) | (fail))
        (with_reducible refine CP.out.mono ?_)
        rintro e w5 ⟨pv, rfl, hpv, hb5⟩
        have HPV := Lib.hid (hpv.mono (C' := w.heap.size) (by omega))
        obtain ⟨Y5, hY5⟩ : ∃ Y5, w5.alloc (.cells rzpk 56) = Y5 := ⟨_, rfl⟩
        obtain ⟨Z5, hZ5⟩ : ∃ Z5, Y5.setRow w5.heap.size (rpkA 3 true xr xq xid xt xp pv) = Z5 := ⟨_, rfl⟩
        obtain ⟨w6, hw6⟩ : ∃ w6, Z5.alloc (.cells (rpkA 3 true xr xq xid xt xp pv) 56) = w6 := ⟨_, rfl⟩
        obtain ⟨l1, l2, l3, l4⟩ := rpk_laid w5 (rpkA 3 true xr xq xid xt xp pv) Y5 Z5 w6 hY5 hZ5 hw6
        have L1 := Lib.hid l1
        have L2 := Lib.hid l2
        have L3 := Lib.hid l3
        have HZ5 := Lib.hid hZ5
        have HE6 := Lib.hid hw6
        have HV6 := Lib.hid ((HVX.out.below hb5).below l4)
        have HO6 := Lib.hid ((HOX.out.below hb5).below l4)
        have HF6 := Lib.hid ((HFX.out.trans (Fr.of_below (S := refS) hb5 HVX.out.sz)).trans (Fr.of_below (S := refS) l4 (HVX.out.below hb5).sz))
        have HP6 := Lib.hid (show ROpAt w.heap.size w6 (.pub ⟨xt, xp, xq, xr, xg⟩ xid true : OP) pv from ROpAt.below (p := (.pub ⟨xt, xp, xq, xr, xg⟩ xid true : OP)) (show ROpAt w.heap.size w5 (.pub ⟨xt, xp, xq, xr, xg⟩ xid true : OP) pv from HPV.out) l4)
        have PO := Lib.hid (show (rpkA 3 true xr xq xid xt xp pv).all (·.oneCell') = true from rpk_one _ _ _ _ _ _ _ _ (by rcases HPV.out with ⟨_, c⟩ | ⟨_, g, _, c, _⟩ <;> (rw [c]; rfl)))
        have hC6 : w.heap.size ≤ w6.heap.size := HF6.out.below.size
        unfold rzpk rpkA at hY5
        clear l1 l2 l3 l4 hZ5 hw6 hpv hb5 CP x0 x1 x2 x3 x4 x5 x6 e0 e1 e2 e3 e4 e5 e6 c3
        go_wp2_with (first | (refine wpList_store_rowZ rfl 56 (.tmp 8) (.tmp 45) rfl rfl w5.heap.size (rpkA 3 true xr xq xid xt xp pv) rfl rfl 56 rzpk L1.out dpk_size rfl PO.out Z5 HZ5.out ?_) | (refine wpList_load_row rfl 56 (.tmp 8) rfl w5.heap.size rfl 56 (rpkA 3 true xr xq xid xt xp pv) (0, 0) _ L2.out Try.underlying56 rfl dpk_size ?_) | (refine rwpList_pkS _ (rpkA 3 true xr xq xid xt xp pv) rfl rfl rfl rfl w6 HE6.out ?_) | (refine rwpList_out _ _ w.heap.size _ ((s.fl.take k).map again) (.pub ⟨xt, xp, xq, xr, xg⟩ xid true : OP) pv Z5.heap.size rfl rfl rfl rfl HO6.out HP6.out L3.out hC6 (by rw [List.length_map, List.length_take]; omega) ?_; intro v7 w7 ho7 hg7 hb7; have HO7 := Lib.hid ho7; have HG7 := Lib.hid hg7; clear ho7 hg7 hb7) | (fail))
        obtain ⟨xs6, hs6⟩ := HO6.out.sl
        go_roundw
        case rel =>
          refine ⟨k + 1, by go_num, by omega, Lib.hid (HV6.out.grown hs6 HG7.out), Lib.hid (by rw [HT.out]; exact HO7.out), Lib.hid (HF6.out.grown HG7.out (by omega) (fun j hj => by have := (hs6.lt j hj).1; omega) (fun j ob hj _ => .inr (hs6.lt j hj).1))⟩
        case measure => simp [intOf]; omega
      · have HT : Hid ((s.fl.take (k + 1)).map again = (s.fl.take k).map again ++ [(.rel xid : OP)]) := HT
        have hal := (Below.refl X.heap.size X).alloc (Nat.le_refl _) (.cells (rpkA 6 false false 0 xid ⟨#[]⟩ ⟨#[]⟩ (.slice none 0 0)) 56)
        have HNB := Lib.hid (blk_at X (rpkA 6 false false 0 xid ⟨#[]⟩ ⟨#[]⟩ (.slice none 0 0)) 56 rfl)
        have HV6 := Lib.hid (HVX.out.below hal)
        have HO6 := Lib.hid (HOX.out.below hal)
        have HF6 := Lib.hid (HFX.out.trans (Fr.of_below (S := refS) hal HVX.out.sz))
        have HP6 := Lib.hid (show ROpAt w.heap.size (X.alloc (.cells (rpkA 6 false false 0 xid ⟨#[]⟩ ⟨#[]⟩ (.slice none 0 0)) 56)) (.rel xid : OP) (.slice none 0 0) from rfl)
        obtain ⟨w6, hw6⟩ : ∃ w6, X.alloc (.cells (rpkA 6 false false 0 xid ⟨#[]⟩ ⟨#[]⟩ (.slice none 0 0)) 56) = w6 := ⟨_, rfl⟩
        rw [hw6] at HNB HV6 HO6 HF6 HP6
        have HE6 := Lib.hid hw6
        have hC6 : w.heap.size ≤ w6.heap.size := HF6.out.below.size
        clear hal hw6
        go_wp2_with (first | (rw [HEX.out]) | (refine wpList_buildTo rfl 56 _ rfl (some 38) rfl (rpkA 6 false false 0 xid ⟨#[]⟩ ⟨#[]⟩ (.slice none 0 0)) (by kernel_rfl) ?_) | (refine rwpList_pkS _ (rpkA 6 false false 0 xid ⟨#[]⟩ ⟨#[]⟩ (.slice none 0 0)) rfl rfl rfl rfl w6 HE6.out ?_) | (refine rwpList_out _ _ w.heap.size _ ((s.fl.take k).map again) (.rel xid : OP) (.slice none 0 0) X.heap.size rfl rfl rfl rfl HO6.out HP6.out HNB.out hC6 (by rw [List.length_map, List.length_take]; omega) ?_; intro v7 w7 ho7 hg7 hb7; have HO7 := Lib.hid ho7; have HG7 := Lib.hid hg7; clear ho7 hg7 hb7) | (fail))
        obtain ⟨xs6, hs6⟩ := HO6.out.sl
        go_roundw
        case rel =>
          refine ⟨k + 1, by go_num, by omega, Lib.hid (HV6.out.grown hs6 HG7.out), Lib.hid (by rw [HT.out]; exact HO7.out), Lib.hid (HF6.out.grown HG7.out (by omega) (fun j hj => by have := (hs6.lt j hj).1; omega) (fun j ob hj _ => .inr (hs6.lt j hj).1))⟩
        case measure => simp [intOf]; omega
    · obtain rfl : k = N := by omega
      have CG := Lib.hid (rgoOn_fresh (w0 := w) (s := { s with on := true, most := bn }) ⟨_, _, _, _, hV.out⟩ hO.out (by rw [List.length_map, List.length_take]; omega) hsz hF.out)
      have HM := Lib.hid (show (s.fl.take k).map again = s.fl.map again from by rw [List.take_of_length_le (by rw [HN.out]; exact Nat.le_refl _)])
      go_wp2_with (first | (go_at_call 36; (with_reducible refine CG.out.mono ?_); rintro e w5 ⟨v5, rfl, h5, o5, f5⟩; have H5 := Lib.hid h5; have O5 := Lib.hid o5; have F5 := Lib.hid f5; clear h5 o5 f5) | (fail))
      go_ret
      rw [HM.out] at O5
      unfold fbegin
      rw [HBN.out]
      exact ⟨_, rfl, H5.out, O5.out, F5.out⟩
end Go.Proofs.Ytnclobnnnihpfaa
