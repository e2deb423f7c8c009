/- outflow.Flow's Answer joined; Begin. -/
import Derived.Test.YtnclobnnnihpfaaAnswer
namespace Go.Proofs.Ytnclobnnnihpfaa
set_option linter.unusedVariables false
open Go.RowKit Go.Maps

theorem fanswer_any (B fp pb mb : Nat) (s : FS) (k id code : Int) (w : World) (h : FlowAt B fp pb mb s w) (hc0 : 0 ≤ code) (hc1 : code ≤ 255) :
    Calls Try.prog 12 #[.pointer (some ⟨fp, 0, none⟩), .agg (ansA k id code)] w (AnsPost B fp pb mb w (fanswer s k id code)) := by
  cases hon : s.on with
  | false => exact fans_off B fp pb mb s k id code w h hon
  | true =>
    by_cases h4 : k = 4
    · subst h4
      cases hn : s.fl.findIdx? (fun x => x.id == id) with
      | none => exact fans_none4 B fp pb mb s id code w h hon hn
      | some i =>
        have hi := (List.findIdx?_eq_some_iff_getElem.1 hn).1
        have hx : s.fl[i]? = some s.fl[i] := List.getElem?_eq_getElem hi
        by_cases hq : s.fl[i].m.qos = 1
        · exact fans_ack B fp pb mb s id code w h hon i _ hn hx hq
        · exact fans_ack_bad B fp pb mb s id code w h hon i _ hn hx hq
    · by_cases h5 : k = 5
      · subst h5
        cases hn : s.fl.findIdx? (fun x => x.id == id) with
        | none => exact fans_none5 B fp pb mb s id code w h hon hn
        | some i =>
          have hi := (List.findIdx?_eq_some_iff_getElem.1 hn).1
          have hx : s.fl[i]? = some s.fl[i] := List.getElem?_eq_getElem hi
          by_cases hq : s.fl[i].m.qos = 2
          · by_cases hc : 128 ≤ code
            · cases hr : s.fl[i].rel with
              | true => exact fans_rec_rel B fp pb mb s id code w h hon i _ hn hx hq hc hc1 hr
              | false => exact fans_rec_over B fp pb mb s id code w h hon i _ hn hx hq hc hc1 hr
            · exact fans_rec B fp pb mb s id code w h hon i _ hn hx hq (by omega) hc0
          · exact fans_rec_bad B fp pb mb s id code w h hon i _ hn hx hq
      · by_cases h7 : k = 7
        · subst h7
          cases hn : s.fl.findIdx? (fun x => x.id == id) with
          | none => exact fans_none7 B fp pb mb s id code w h hon hn
          | some i =>
            have hi := (List.findIdx?_eq_some_iff_getElem.1 hn).1
            have hx : s.fl[i]? = some s.fl[i] := List.getElem?_eq_getElem hi
            cases hr : s.fl[i].rel with
            | true => exact fans_comp B fp pb mb s id code w h hon i _ hn hx hr
            | false => exact fans_comp_bad B fp pb mb s id code w h hon i _ hn hx hr
        · exact fans_kind B fp pb mb s k id code w h hon h4 h5 h7
theorem flow_on {B fp pb mb : Nat} {s : FS} {vf vw : Value} {w : World} (h : FlowV B fp pb mb s vf vw w) (n : Int) :
    FlowV B fp pb mb { s with on := true, most := bounded n } vf vw ((w.setCell ⟨fp, 2, none⟩ (.bool true)).setCell ⟨fp, 1, none⟩ (.int .i64 (bounded n))) ∧ Fr B (flowS mb) w ((w.setCell ⟨fp, 2, none⟩ (.bool true)).setCell ⟨fp, 1, none⟩ (.int .i64 (bounded n))) := by
  obtain ⟨p1, p2, p3, p4, p5⟩ := h.parts 2 (.bool true)
  have h2 : FlowV B fp pb mb { s with on := true } vf vw (w.setCell ⟨fp, 2, none⟩ (.bool true)) := ⟨⟨h.ok.t0, h.ok.t1, h.ok.m0, h.ok.m1, h.ok.fl, h.ok.wt, h.ok.nd, h.ok.ids, h.ok.fq, h.ok.rq, h.ok.wq⟩, h.hB, p1, p2, p3, p4⟩
  obtain ⟨q1, q2, q3, q4, q5⟩ := h2.parts 1 (.int .i64 (bounded n))
  exact ⟨⟨h.ok.begin n, h.hB, q1, q2, q3, q4⟩, p5.trans q5⟩
set_option maxHeartbeats 4000000 in
set_option maxRecDepth 100000 in
theorem fbegin_any (B fp pb mb : Nat) (s : FS) (n : Int) (w : World) (h : FlowAt B fp pb mb s w) (h0 : -9223372036854775808 ≤ n) (h1 : n ≤ 9223372036854775807) :
    Calls Try.prog 13 #[.pointer (some ⟨fp, 0, none⟩), .int .i64 n] w fun e w' => ∃ v', e = .returned v' ∧ FlowAt B fp pb mb (fbegin s n).1 w' ∧ OutAt w.heap.size w' v' (fbegin s n).2 ∧ Fr B (flowS mb) w w' := by
  have CB := fun W => Lib.hid (bounded_any n W h0 h1)
  obtain ⟨vf, vw, hV⟩ := h
  have HV := Lib.hid hV
  have hsz := hV.sz
  obtain ⟨bn, hbn⟩ : ∃ bn, bounded n = bn := ⟨_, rfl⟩
  have hon := flow_on hV n
  have c1 := hV.blk.cell 1
  have c2 := hV.blk.cell 2
  have f1 := hV.blk.frozen 1
  have f2 := hV.blk.frozen 2
  have e3 := hon.1.blk.cell 3
  obtain ⟨ao, cap, rfl, hnc, hcm, -⟩ := hV.fl.form
  simp only [List.getElem?_toArray, List.getElem?_cons_zero, List.getElem?_cons_succ] at c1 c2 e3
  rw [hbn] at CB hon e3
  have HBN := Lib.hid hbn
  have HON := Lib.hid hon
  obtain ⟨N, hN⟩ : ∃ N, s.fl.length = N := ⟨_, rfl⟩
  have HN := Lib.hid hN
  have hN64 : N ≤ 64 := by rw [← hN]; exact hV.ok.fl
  rw [hN] at e3 hnc
  unfold maxLen at hcm
  clear hV hbn h0 h1 hon hN
  go_enter Try.func13, Try.ntmps13
  go_wp2_with (first | (go_at_call 25; (with_reducible refine (CB _).out.mono ?_); rintro e w2 ⟨rfl, rfl⟩) | (fail))
  have hon2 := HON.out
  obtain ⟨W1, hW1⟩ : ∃ W1, (w.setCell ⟨fp, 2, none⟩ (.bool true)).setCell ⟨fp, 1, none⟩ (.int .i64 bn) = W1 := ⟨_, rfl⟩
  rw [hW1] at hon2 ⊢
  have HV1 := Lib.hid hon2.1
  have HF1 := Lib.hid hon2.2
  clear hon2 hW1 e3 c1 c2 f1 f2 HON
  go_loopw [5, 23] (fun v i wr => ∃ k : Nat, i = .int .i64 k ∧ k ≤ N ∧ Hid (FlowV B fp pb mb { s with on := true, most := bn } (.slice ao s.fl.length cap) vw wr) ∧ Hid (OutAt w.heap.size wr v ((s.fl.take k).map again)) ∧ Hid (Fr B (flowS mb) w wr)) (fun _ i _ => N - (intOf i).toNat)
  case atStart => exact ⟨0, rfl, by omega, HV1, Lib.hid (OutAt.nil _ _), HF1⟩
  case round =>
    obtain ⟨k, rfl, hk, hV, hO, hF⟩ := hrel
    have hwz : w.heap.size ≤ wr.heap.size := hF.out.below.size
    by_cases hlt : k < N
    · obtain ⟨x, hx⟩ : ∃ x, s.fl[k]? = some x := ⟨_, List.getElem?_eq_getElem (by rw [HN.out]; exact hlt)⟩
      obtain ⟨g, o, cap', hve, _, _, _, _, hcl⟩ := hV.out.fl.at (by show 0 < s.fl.length; rw [HN.out]; omega)
      injection hve with hve _ hcc
      subst hve hcc
      have e0 := hcl (k * 7) _ (flL_get s.fl k x hx 0 _ rfl)
      have e1 := hcl (k * 7 + 1) _ (flL_get s.fl k x hx 1 _ rfl)
      have e2 := hcl (k * 7 + 2) _ (flL_get s.fl k x hx 2 _ rfl)
      have e3 := hcl (k * 7 + 3) _ (flL_get s.fl k x hx 3 _ rfl)
      have e4 := hcl (k * 7 + 4) _ (flL_get s.fl k x hx 4 _ rfl)
      have e5 := hcl (k * 7 + 5) _ (flL_get s.fl k x hx 5 _ rfl)
      have e6 := hcl (k * 7 + 6) _ (flL_get s.fl k x hx 6 _ rfl)
      simp only [← Nat.add_assoc] at e1 e2 e3 e4 e5 e6
      have hkn : (k : Int) < (N : Int) := by omega
      have HT := Lib.hid (show (s.fl.take (k + 1)).map again = (s.fl.take k).map again ++ [again x] from by rw [List.take_add_one, hx]; simp)
      obtain ⟨xid, ⟨xt, xp, xq, xr, xg⟩, xrel⟩ := x
      simp only at e0 e1 e2 e3 e4 e5 e6
      have hal := (Below.refl wr.heap.size wr).alloc (Nat.le_refl _) (.cells #[.int .i64 xid, .string xt, .string xp, .int .i64 xq, .bool xr, .string xg, .bool xrel] 45)
      have hbx := blk_at wr #[.int .i64 xid, .string xt, .string xp, .int .i64 xq, .bool xr, .string xg, .bool xrel] 45 rfl
      have HVX := Lib.hid (hV.out.below hal)
      have HOX := Lib.hid (hO.out.below hal)
      have HFX := Lib.hid (hF.out.trans (Fr.of_below (S := flowS mb) hal hV.out.sz))
      obtain ⟨X, hX⟩ : ∃ X, wr.alloc (.cells #[.int .i64 xid, .string xt, .string xp, .int .i64 xq, .bool xr, .string xg, .bool xrel] 45) = X := ⟨_, rfl⟩
      rw [hX] at hbx HVX HOX HFX
      have HEX := Lib.hid hX
      have x0 := hbx.cell 0
      have x1 := hbx.cell 1
      have x2 := hbx.cell 2
      have x3 := hbx.cell 3
      have x4 := hbx.cell 4
      have x5 := hbx.cell 5
      have x6 := hbx.cell 6
      simp only [List.getElem?_toArray, List.getElem?_cons_zero, List.getElem?_cons_succ] at x0 x1 x2 x3 x4 x5 x6
      have HO2 := hO
      have hxl : wr.heap.size < X.heap.size := hbx.lt
      clear hal hbx hX hx hcl hV hO hF
      cases xrel
      · have CP := Lib.hid (mpacket_any ⟨xt, xp, xq, xr, xg⟩ xid true X)
        unfold omA at CP
        simp only at CP
        have HT : Hid ((s.fl.take (k + 1)).map again = (s.fl.take k).map again ++ [(.pub ⟨xt, xp, xq, xr, xg⟩ xid true : OP)]) := HT
        go_wp2_with (first | (rw [show wr.alloc (.cells #[.int .i64 xid, .string xt, .string xp, .int .i64 xq, .bool xr, .string xg, .bool false] 45) = X from HEX.out]) | (fail))
        (with_reducible refine CP.out.mono ?_)
        rintro e w5 ⟨pv, rfl, hpv, hb5⟩
        have HV5 := Lib.hid (HVX.out.below hb5)
        have HO5 := Lib.hid (HOX.out.below hb5)
        have HF5 := Lib.hid (HFX.out.trans (Fr.of_below (S := flowS mb) hb5 HVX.out.sz))
        have HPV := Lib.hid (hpv.mono (C' := w.heap.size) (by omega))
        clear hpv hb5 CP x0 x1 x2 x3 x4 x5 x6 e0 e1 e2 e3 e4 e5 e6
        have hal := (Below.refl w5.heap.size w5).alloc (Nat.le_refl _) (.cells (pkA 3 true xr xq xid xt xp pv) 37)
        have HNB := Lib.hid (blk_at w5 (pkA 3 true xr xq xid xt xp pv) 37 rfl)
        have HV6 := Lib.hid (HV5.out.below hal)
        have HO6 := Lib.hid (HO5.out.below hal)
        have HF6 := Lib.hid (HF5.out.trans (Fr.of_below (S := flowS mb) hal HV5.out.sz))
        have HP6 := Lib.hid (show OpAt w.heap.size (w5.alloc (.cells (pkA 3 true xr xq xid xt xp pv) 37)) (.pub ⟨xt, xp, xq, xr, xg⟩ xid true) pv from OpAt.below (p := .pub ⟨xt, xp, xq, xr, xg⟩ xid true) HPV.out hal)
        obtain ⟨w6, hw6⟩ : ∃ w6, w5.alloc (.cells (pkA 3 true xr xq xid xt xp pv) 37) = w6 := ⟨_, rfl⟩
        rw [hw6] at HNB HV6 HO6 HF6 HP6
        have HE6 := Lib.hid hw6
        have hC6 : w.heap.size ≤ w6.heap.size := HF6.out.below.size
        clear hal hw6
        go_wp2_with (first | (refine wpList_pkS _ (pkA 3 true xr xq xid xt xp pv) rfl rfl rfl rfl w6 HE6.out ?_) | (refine wpList_out _ _ w.heap.size _ ((s.fl.take k).map again) (.pub ⟨xt, xp, xq, xr, xg⟩ xid true) pv w5.heap.size rfl rfl rfl rfl HO6.out HP6.out HNB.out hC6 (by rw [List.length_map, List.length_take]; omega) ?_; intro v7 w7 ho7 hg7 hb7; have HO7 := Lib.hid ho7; have HG7 := Lib.hid hg7; clear ho7 hg7 hb7) | (fail))
        obtain ⟨xs6, hs6⟩ := HO6.out.sl
        go_roundw
        case rel =>
          refine ⟨k + 1, by go_num, by omega, Lib.hid (HV6.out.grown hs6 HG7.out), Lib.hid (by rw [HT.out]; exact HO7.out), Lib.hid (HF6.out.grown HG7.out (by omega) (fun j hj => by have := (hs6.lt j hj).1; omega) (fun j ob hj _ => .inr (hs6.lt j hj).1))⟩
        case measure => simp [intOf]; omega
      · have HT : Hid ((s.fl.take (k + 1)).map again = (s.fl.take k).map again ++ [(.rel xid : OP)]) := HT
        have hal := (Below.refl X.heap.size X).alloc (Nat.le_refl _) (.cells (pkA 6 false false 0 xid ⟨#[]⟩ ⟨#[]⟩ (.slice none 0 0)) 37)
        have HNB := Lib.hid (blk_at X (pkA 6 false false 0 xid ⟨#[]⟩ ⟨#[]⟩ (.slice none 0 0)) 37 rfl)
        have HV6 := Lib.hid (HVX.out.below hal)
        have HO6 := Lib.hid (HOX.out.below hal)
        have HF6 := Lib.hid (HFX.out.trans (Fr.of_below (S := flowS mb) hal HVX.out.sz))
        have HP6 := Lib.hid (show OpAt w.heap.size (X.alloc (.cells (pkA 6 false false 0 xid ⟨#[]⟩ ⟨#[]⟩ (.slice none 0 0)) 37)) (.rel xid) (.slice none 0 0) from rfl)
        obtain ⟨w6, hw6⟩ : ∃ w6, X.alloc (.cells (pkA 6 false false 0 xid ⟨#[]⟩ ⟨#[]⟩ (.slice none 0 0)) 37) = w6 := ⟨_, rfl⟩
        rw [hw6] at HNB HV6 HO6 HF6 HP6
        have HE6 := Lib.hid hw6
        have hC6 : w.heap.size ≤ w6.heap.size := HF6.out.below.size
        clear hal hw6
        go_wp2_with (first | (rw [show wr.alloc (.cells #[.int .i64 xid, .string xt, .string xp, .int .i64 xq, .bool xr, .string xg, .bool true] 45) = X from HEX.out]) | (refine wpList_buildTo rfl 37 _ rfl (some 32) rfl (pkA 6 false false 0 xid ⟨#[]⟩ ⟨#[]⟩ (.slice none 0 0)) (by kernel_rfl) ?_) | (refine wpList_pkS _ (pkA 6 false false 0 xid ⟨#[]⟩ ⟨#[]⟩ (.slice none 0 0)) rfl rfl rfl rfl w6 HE6.out ?_) | (refine wpList_out _ _ w.heap.size _ ((s.fl.take k).map again) (.rel xid) (.slice none 0 0) X.heap.size rfl rfl rfl rfl HO6.out HP6.out HNB.out hC6 (by rw [List.length_map, List.length_take]; omega) ?_; intro v7 w7 ho7 hg7 hb7; have HO7 := Lib.hid ho7; have HG7 := Lib.hid hg7; clear ho7 hg7 hb7) | (fail))
        obtain ⟨xs6, hs6⟩ := HO6.out.sl
        go_roundw
        case rel =>
          refine ⟨k + 1, by go_num, by omega, Lib.hid (HV6.out.grown hs6 HG7.out), Lib.hid (by rw [HT.out]; exact HO7.out), Lib.hid (HF6.out.grown HG7.out (by omega) (fun j hj => by have := (hs6.lt j hj).1; omega) (fun j ob hj _ => .inr (hs6.lt j hj).1))⟩
        case measure => simp [intOf]; omega
    · obtain rfl : k = N := by omega
      have CG := Lib.hid (goOn_fresh (w0 := w) (s := { s with on := true, most := bn }) ⟨_, _, hV.out⟩ hO.out (by rw [List.length_map, List.length_take]; omega) hsz hF.out)
      have HM := Lib.hid (show (s.fl.take k).map again = s.fl.map again from by rw [List.take_of_length_le (by rw [HN.out]; exact Nat.le_refl _)])
      go_wp2_with (first | (go_at_call 30; (with_reducible refine CG.out.mono ?_); rintro e w5 ⟨v5, rfl, h5, o5, f5⟩; have H5 := Lib.hid h5; have O5 := Lib.hid o5; have F5 := Lib.hid f5; clear h5 o5 f5) | (fail))
      go_ret
      rw [HM.out] at O5
      unfold fbegin
      rw [HBN.out]
      exact ⟨_, rfl, H5.out, O5.out, F5.out⟩
end Go.Proofs.Ytnclobnnnihpfaa
