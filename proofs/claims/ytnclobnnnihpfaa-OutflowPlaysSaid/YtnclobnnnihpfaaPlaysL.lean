/- OutflowPlays: the walk. -/
import Derived.Test.YtnclobnnnihpfaaReQ
import Derived.Test.YtnclobnnnihpfaaOnceS
namespace Go.Proofs.Ytnclobnnnihpfaa
set_option linter.unusedVariables false
set_option linter.unusedSimpArgs false
open Go.RowKit Go.Maps
theorem DFlowV.mono {B B' fp pb : Nat} {s : FS} {vf vw vl : Value} {L : List Int} {w : World} (h : DFlowV B fp pb s vf vw vl L w) (hB : B' ≤ B) : DFlowV B' fp pb s vf vw vl L w :=
  ⟨h.ok, Nat.le_trans hB h.hB, h.blk, h.fl.mono hB, h.wt.mono hB, Nat.le_trans hB h.pool.hP, h.pool.blk, h.pool.ls.mono hB, h.pool.pm⟩
theorem DFlowAt.mono {B B' fp pb : Nat} {s : FS} {w : World} (h : DFlowAt B fp pb s w) (hB : B' ≤ B) : DFlowAt B' fp pb s w := by
  obtain ⟨vf, vw, vl, L, h⟩ := h
  exact ⟨vf, vw, vl, L, h.mono hB⟩
theorem OutAt.ref {C B : Nat} {w w' : World} {v : Value} {L : List OP} (h : OutAt C w v L) (m : Fr B refS w w') : OutAt C w' v L :=
  h.fr m (fun _ _ _ => refS_not (by unfold refT; decide)) (fun _ _ => refS_not (by unfold refT; decide))
theorem fsend_code (s : FS) (m : OM) : 0 ≤ (fsend s m).2.2 ∧ (fsend s m).2.2 ≤ 255 := by
  unfold fsend
  repeat' split
  all_goals (simp only; omega)
theorem fanswer_code (s : FS) (k id code : Int) : 0 ≤ (fanswer s k id code).2.2 ∧ (fanswer s k id code).2.2 ≤ 255 := by
  unfold fanswer
  repeat' split
  all_goals (simp only; omega)
theorem dflow_off {B fp pb : Nat} {s : FS} {vf vw vl : Value} {L : List Int} {w : World} (h : DFlowV B fp pb s vf vw vl L w) :
    DFlowAt B fp pb { s with on := false } (w.setCell ⟨fp, 2, none⟩ (.bool false)) ∧ Fr B refS w (w.setCell ⟨fp, 2, none⟩ (.bool false)) := by
  obtain ⟨p1, p2, p3, p4, p5⟩ := h.parts 2 (.bool false)
  exact ⟨⟨_, _, _, _, h.ok.fend, h.hB, p1, p2, p3, p4⟩, p5⟩
set_option maxRecDepth 100000 in
set_option maxHeartbeats 8000000 in
theorem outflowPlays_walk (n0 : Int) (hn : (Lit.int .i64 n0).wf = true) (v : Value) (L : List Av) (w : World) (h : SAct w v L) :
    Calls Try.prog 6 #[.int .i64 n0, v] w fun e w' => e = .returned (.bool true) ∧ Below w.heap.size w w' := by
  obtain ⟨hn0, hn1⟩ := i64_bd hn
  obtain ⟨A, cap, rfl, hlc, hcm, hR⟩ := sact_form h
  have HFT := Lib.hid h.2
  have HR := Lib.hid hR
  have hLc : (L.length : Int) ≤ (cap : Int) := by omega
  obtain ⟨N, hN⟩ : ∃ N : Nat, min L.length 100 = N := ⟨_, rfl⟩
  have hNI : min (L.length : Int) 100 = (N : Int) := by omega
  have hNL : N ≤ L.length := by omega
  have HN := Lib.hid hN
  have CN := Lib.hid (fnew_any n0 w hn0 hn1)
  have DN := fun W => Lib.hid (rnew_any n0 W hn0 hn1)
  clear hn hN h hR
  go_enter Try.func6, Try.ntmps6
  go_wp2_with fail
  (with_reducible refine CN.out.mono ?_)
  rintro e w1 ⟨fp, pb, mb, rfl, hf1, hb1⟩
  have H1 := Lib.hid hf1
  have B1 := Lib.hid hb1
  clear hf1 hb1 CN
  go_wp2_with fail
  (with_reducible refine (DN _).out.mono ?_)
  rintro e w2 ⟨dp, qb, rfl, hf2, hb2⟩
  have H2 := Lib.hid (H1.out.below hb2)
  have D2 := Lib.hid (hf2.mono B1.out.size)
  have B2 := Lib.hid (B1.out.trans (hb2.mono B1.out.size))
  clear hf2 hb2 DN H1 B1
  go_wp2_with fail
  (with_reducible refine (fwakes_any _).mono ?_)
  rintro e w3 ⟨rfl, hb3⟩
  have H3 := Lib.hid (H2.out.below hb3)
  have D3 := Lib.hid (D2.out.below hb3)
  have B3 := Lib.hid (B2.out.trans (hb3.mono B2.out.size))
  clear hb3 H2 D2 B2
  go_wp2_with fail
  go_loopw [27] (fun i wr => ∃ (k : Nat) (s : FS), i = .int .i64 k ∧ k ≤ N ∧ Hid (FlowAt w.heap.size fp pb mb s wr) ∧ Hid (DFlowAt w.heap.size dp qb s wr) ∧ Hid (Below w.heap.size w wr)) (fun i _ => N - (intOf i).toNat)
  case atStart => exact ⟨0, ⟨0, bounded n0, false, [], []⟩, rfl, Nat.zero_le _, H3, D3, B3⟩
  case round =>
    obtain ⟨k, s, rfl, hk, hF, hD, hB⟩ := hrel
    by_cases hlt : k < N
    · have hkI : (k : Int) < (N : Int) := by omega
      have hkL : k < L.length := by omega
      obtain ⟨a, ha⟩ : ∃ a, L[k]? = some a := ⟨_, List.getElem?_eq_getElem hkL⟩
      have hfa := HFT.out a (List.mem_of_getElem? ha)
      obtain ⟨b, o, rfl, hb, hc⟩ := HR.out (by omega)
      have hrg : wr.rangeAt b (o + k * 10) (actA a).toList := fun j u hu => (hB.out.cell (p := ⟨b, o + k * 10 + j, none⟩) hb).trans (hc k a ha j u hu)
      have hA := (blk_at wr (actA zAv) 49 rfl).setRow (cs' := actA a)
      have hbZ := below_setRow ((Below.refl wr.heap.size wr).alloc (Nat.le_refl _) (.cells (actA zAv) 49)) (Nat.le_refl _) (actA a)
      obtain ⟨Y, hY⟩ : ∃ Y, wr.alloc (.cells (actA zAv) 49) = Y := ⟨_, rfl⟩
      have hAy := blk_at wr (actA zAv) 49 rfl
      obtain ⟨Z, hZ⟩ : ∃ Z, Y.setRow wr.heap.size (actA a) = Z := ⟨_, rfl⟩
      rw [hY] at hA hbZ hAy
      rw [hZ] at hA hbZ
      have HAY := Lib.hid hAy
      have HZ := Lib.hid hZ
      have HFZ := Lib.hid (hF.out.below hbZ)
      have HDZ := Lib.hid (hD.out.below hbZ)
      have HBZ := Lib.hid (hB.out.trans (hbZ.mono hB.out.size))
      have HRG := Lib.hid hrg
      have HAZ := Lib.hid hA
      have HFA := Lib.hid hfa
      have c0 : Z.cell? ⟨wr.heap.size, 0, none⟩ = some (.int .i64 a.act) := HAZ.out.cell 0
      have c9 : Z.cell? ⟨wr.heap.size, 9, none⟩ = some (.int .i64 a.most) := HAZ.out.cell 9
      have hd0 := HFA.out.d0
      have hd1 := HFA.out.d1
      have K6 := Lib.hid hlt
      unfold zAv actA at hY
      clear hA hbZ hAy hZ hrg hc hfa ha hF hD hB
      obtain ⟨D, hD⟩ : ∃ D, a.act.tmod 5 = D := ⟨_, rfl⟩
      have hDb : D = 1 ∨ D = -1 ∨ D = 2 ∨ D = -2 ∨ D = 3 ∨ D = -3 ∨ D = 0 ∨ D = 4 ∨ D = -4 := by
        have h1 := Int.tmod_lt_of_pos a.act (b := 5) (by decide)
        have h2 := Int.lt_tmod_of_pos a.act (b := 5) (by decide)
        omega
      rcases hDb with rfl | rfl | rfl | rfl | rfl | rfl | rfl | rfl | rfl
      · have CA := Lib.hid (answer_any a Z HFA.out.c0 HFA.out.c1 HFA.out.k0 HFA.out.k1)
        go_wp2_with (first | (refine wpList_load_at rfl 49 (.tmp 29) rfl b (o + k * 10) rfl (actA a) _ HRG.out Try.underlying49 rfl act_size ?_) | (refine wpList_store_rowZ rfl 49 (.tmp 8) (.tmp 30) rfl rfl wr.heap.size (actA a) rfl rfl 49 (actA zAv) HAY.out act_size rfl (act_one a) Z HZ.out ?_) | (refine wpList_load_row rfl 49 (.tmp 8) rfl wr.heap.size rfl 49 (actA a) (0, 0) _ HAZ.out Try.underlying49 rfl act_size ?_) | (fail))
        (with_reducible refine CA.out.mono ?_)
        rintro e w3 ⟨rfl, hb3⟩
        obtain ⟨kk, hkk⟩ : ∃ kk : Int, ansK (ansI a.kind) = kk := ⟨_, rfl⟩
        rw [hkk]
        obtain ⟨W4, hW4⟩ : ∃ W4, (w3.alloc (.cells (ansA 0 0 0) 37)).alloc (.cells (refA 0 0 0) 56) = W4 := ⟨_, rfl⟩
        obtain ⟨Z1, hZ1⟩ : ∃ Z1, W4.setRow w3.heap.size (ansA kk a.id a.code) = Z1 := ⟨_, rfl⟩
        obtain ⟨Z2, hZ2⟩ : ∃ Z2, Z1.setRow (w3.heap.size + 1) (refA kk a.id a.code) = Z2 := ⟨_, rfl⟩
        obtain ⟨l1, l2, l3, l4, l5⟩ := two_laid w3 kk a.id a.code W4 Z1 Z2 hW4 hZ1 hZ2
        have FP := Lib.hid ((HFZ.out.below hb3).below l5)
        have DP := Lib.hid ((HDZ.out.below hb3).below l5)
        have BP := Lib.hid ((HBZ.out.trans (hb3.mono HBZ.out.size)).trans (l5.mono (Nat.le_trans HBZ.out.size hb3.size)))
        have L1 := Lib.hid l1; have L2 := Lib.hid l2; have L3 := Lib.hid l3; have L4 := Lib.hid l4
        have HZ1 := Lib.hid hZ1; have HZ2 := Lib.hid hZ2
        unfold ansA refA at hW4
        have CB := Lib.hid (fanswer_any w.heap.size fp pb mb s kk a.id a.code Z2 FP.out HFA.out.c0 HFA.out.c1)
        have CD := fun W (hw : DFlowAt w.heap.size dp qb s W) => Lib.hid (ranswer_any w.heap.size dp qb s kk a.id a.code W hw HFA.out.c0 HFA.out.c1)
        have hq := fanswer_len kk a.id a.code FP.out.ok.wt
        have hcd := fanswer_code s kk a.id a.code
        obtain ⟨r5, hr5⟩ : ∃ r5, fanswer s kk a.id a.code = r5 := ⟨_, rfl⟩
        rw [hr5] at CB CD hq hcd
        obtain ⟨s5, q5, d5⟩ := r5
        simp only at hcd hq
        obtain ⟨hcd0, hcd1⟩ := hcd
        have HQ5 := Lib.hid hq
        clear l1 l2 l3 l4 l5 hb3 hkk CA hZ1 hZ2 hr5 c0 c9 hq
        go_wp2_with (first | (refine wpList_store_rowZ rfl 37 (.tmp 13) (.tmp 54) rfl rfl w3.heap.size (ansA kk a.id a.code) rfl rfl 37 (ansA 0 0 0) L1.out pk_size rfl (ans_one _ _ _) Z1 HZ1.out ?_) | (refine wpList_store_rowZ rfl 56 (.tmp 14) (.tmp 55) rfl rfl (w3.heap.size + 1) (refA kk a.id a.code) rfl rfl 56 (refA 0 0 0) L2.out dpk_size rfl (ref_one _ _ _) Z2 HZ2.out ?_) | (refine wpList_load_row rfl 37 (.tmp 13) rfl w3.heap.size rfl 37 (ansA kk a.id a.code) (0, 0) _ L3.out Try.underlying37 rfl pk_size ?_) | (fail))
        (with_reducible refine CB.out.mono ?_)
        rintro e w5 ⟨v5, rfl, h5, o5, f5⟩
        have HF5 := Lib.hid h5
        have HO5 := Lib.hid o5
        have HD5 := Lib.hid (DP.out.prog f5)
        have HB5 := Lib.hid (BP.out.trans (f5.below.mono (Nat.le_refl _)))
        have L5 := Lib.hid (L4.out.fr f5 (flowS_not (by unfold flowT; decide)))
        clear h5 o5 f5 CB hW4
        go_wp2_with (first | (refine wpList_load_row rfl 56 (.tmp 14) rfl (w3.heap.size + 1) rfl 56 (refA kk a.id a.code) (0, 0) _ L5.out Try.underlying56 rfl dpk_size ?_) | (fail))
        (with_reducible refine (CD _ HD5.out).out.mono ?_)
        rintro e w6 ⟨v6, rfl, h6, o6, f6⟩
        have HD6 := Lib.hid h6
        have HR6 := Lib.hid o6
        have HF6 := Lib.hid (HF5.out.ref f6)
        have HO6 := Lib.hid (HO5.out.ref f6)
        have HB6 := Lib.hid (HB5.out.trans (f6.below.mono (Nat.le_refl _)))
        clear h6 o6 f6 CD
        go_wp2_with (first | (go_at_call 22; (with_reducible refine (same1_any _ _ _ _ q5 _ HO6.out HR6.out (by have := HQ5.out; omega)).mono ?_); rintro e w7 ⟨rfl, hb7⟩; have HF7 := Lib.hid (HF6.out.below hb7); have HD7 := Lib.hid (HD6.out.below hb7); have HB7 := Lib.hid (HB6.out.trans (hb7.mono HB6.out.size)); clear hb7) | (go_at_call 23; (with_reducible refine (same2_any _ _ fp pb mb dp qb s5 _ HF7.out HD7.out).mono ?_); rintro e w8 ⟨rfl, hb8⟩; have HF8 := Lib.hid (HF7.out.below hb8); have HD8 := Lib.hid (HD7.out.below hb8); have HB8 := Lib.hid (HB7.out.trans (hb8.mono HB7.out.size)); clear hb8) | (fail))
        go_roundw
        case rel => exact ⟨k + 1, s5, by go_num, by have := K6.out; omega, HF8, HD8, HB8⟩
        case measure => have := K6.out; simp [intOf]; omega
      · have CA := Lib.hid (answer_any a Z HFA.out.c0 HFA.out.c1 HFA.out.k0 HFA.out.k1)
        go_wp2_with (first | (refine wpList_load_at rfl 49 (.tmp 29) rfl b (o + k * 10) rfl (actA a) _ HRG.out Try.underlying49 rfl act_size ?_) | (refine wpList_store_rowZ rfl 49 (.tmp 8) (.tmp 30) rfl rfl wr.heap.size (actA a) rfl rfl 49 (actA zAv) HAY.out act_size rfl (act_one a) Z HZ.out ?_) | (refine wpList_load_row rfl 49 (.tmp 8) rfl wr.heap.size rfl 49 (actA a) (0, 0) _ HAZ.out Try.underlying49 rfl act_size ?_) | (fail))
        (with_reducible refine CA.out.mono ?_)
        rintro e w3 ⟨rfl, hb3⟩
        obtain ⟨kk, hkk⟩ : ∃ kk : Int, ansK (ansI a.kind) = kk := ⟨_, rfl⟩
        rw [hkk]
        obtain ⟨W4, hW4⟩ : ∃ W4, (w3.alloc (.cells (ansA 0 0 0) 37)).alloc (.cells (refA 0 0 0) 56) = W4 := ⟨_, rfl⟩
        obtain ⟨Z1, hZ1⟩ : ∃ Z1, W4.setRow w3.heap.size (ansA kk a.id a.code) = Z1 := ⟨_, rfl⟩
        obtain ⟨Z2, hZ2⟩ : ∃ Z2, Z1.setRow (w3.heap.size + 1) (refA kk a.id a.code) = Z2 := ⟨_, rfl⟩
        obtain ⟨l1, l2, l3, l4, l5⟩ := two_laid w3 kk a.id a.code W4 Z1 Z2 hW4 hZ1 hZ2
        have FP := Lib.hid ((HFZ.out.below hb3).below l5)
        have DP := Lib.hid ((HDZ.out.below hb3).below l5)
        have BP := Lib.hid ((HBZ.out.trans (hb3.mono HBZ.out.size)).trans (l5.mono (Nat.le_trans HBZ.out.size hb3.size)))
        have L1 := Lib.hid l1; have L2 := Lib.hid l2; have L3 := Lib.hid l3; have L4 := Lib.hid l4
        have HZ1 := Lib.hid hZ1; have HZ2 := Lib.hid hZ2
        unfold ansA refA at hW4
        have CB := Lib.hid (fanswer_any w.heap.size fp pb mb s kk a.id a.code Z2 FP.out HFA.out.c0 HFA.out.c1)
        have CD := fun W (hw : DFlowAt w.heap.size dp qb s W) => Lib.hid (ranswer_any w.heap.size dp qb s kk a.id a.code W hw HFA.out.c0 HFA.out.c1)
        have hq := fanswer_len kk a.id a.code FP.out.ok.wt
        have hcd := fanswer_code s kk a.id a.code
        obtain ⟨r5, hr5⟩ : ∃ r5, fanswer s kk a.id a.code = r5 := ⟨_, rfl⟩
        rw [hr5] at CB CD hq hcd
        obtain ⟨s5, q5, d5⟩ := r5
        simp only at hcd hq
        obtain ⟨hcd0, hcd1⟩ := hcd
        have HQ5 := Lib.hid hq
        clear l1 l2 l3 l4 l5 hb3 hkk CA hZ1 hZ2 hr5 c0 c9 hq
        go_wp2_with (first | (refine wpList_store_rowZ rfl 37 (.tmp 13) (.tmp 54) rfl rfl w3.heap.size (ansA kk a.id a.code) rfl rfl 37 (ansA 0 0 0) L1.out pk_size rfl (ans_one _ _ _) Z1 HZ1.out ?_) | (refine wpList_store_rowZ rfl 56 (.tmp 14) (.tmp 55) rfl rfl (w3.heap.size + 1) (refA kk a.id a.code) rfl rfl 56 (refA 0 0 0) L2.out dpk_size rfl (ref_one _ _ _) Z2 HZ2.out ?_) | (refine wpList_load_row rfl 37 (.tmp 13) rfl w3.heap.size rfl 37 (ansA kk a.id a.code) (0, 0) _ L3.out Try.underlying37 rfl pk_size ?_) | (fail))
        (with_reducible refine CB.out.mono ?_)
        rintro e w5 ⟨v5, rfl, h5, o5, f5⟩
        have HF5 := Lib.hid h5
        have HO5 := Lib.hid o5
        have HD5 := Lib.hid (DP.out.prog f5)
        have HB5 := Lib.hid (BP.out.trans (f5.below.mono (Nat.le_refl _)))
        have L5 := Lib.hid (L4.out.fr f5 (flowS_not (by unfold flowT; decide)))
        clear h5 o5 f5 CB hW4
        go_wp2_with (first | (refine wpList_load_row rfl 56 (.tmp 14) rfl (w3.heap.size + 1) rfl 56 (refA kk a.id a.code) (0, 0) _ L5.out Try.underlying56 rfl dpk_size ?_) | (fail))
        (with_reducible refine (CD _ HD5.out).out.mono ?_)
        rintro e w6 ⟨v6, rfl, h6, o6, f6⟩
        have HD6 := Lib.hid h6
        have HR6 := Lib.hid o6
        have HF6 := Lib.hid (HF5.out.ref f6)
        have HO6 := Lib.hid (HO5.out.ref f6)
        have HB6 := Lib.hid (HB5.out.trans (f6.below.mono (Nat.le_refl _)))
        clear h6 o6 f6 CD
        go_wp2_with (first | (go_at_call 22; (with_reducible refine (same1_any _ _ _ _ q5 _ HO6.out HR6.out (by have := HQ5.out; omega)).mono ?_); rintro e w7 ⟨rfl, hb7⟩; have HF7 := Lib.hid (HF6.out.below hb7); have HD7 := Lib.hid (HD6.out.below hb7); have HB7 := Lib.hid (HB6.out.trans (hb7.mono HB6.out.size)); clear hb7) | (go_at_call 23; (with_reducible refine (same2_any _ _ fp pb mb dp qb s5 _ HF7.out HD7.out).mono ?_); rintro e w8 ⟨rfl, hb8⟩; have HF8 := Lib.hid (HF7.out.below hb8); have HD8 := Lib.hid (HD7.out.below hb8); have HB8 := Lib.hid (HB7.out.trans (hb8.mono HB7.out.size)); clear hb8) | (fail))
        go_roundw
        case rel => exact ⟨k + 1, s5, by go_num, by have := K6.out; omega, HF8, HD8, HB8⟩
        case measure => have := K6.out; simp [intOf]; omega
      · have CB := Lib.hid (fbegin_any w.heap.size fp pb mb s a.most Z HFZ.out HFA.out.m0 HFA.out.m1)
        have CD := fun W (hw : DFlowAt w.heap.size dp qb s W) => Lib.hid (rbegin_any w.heap.size dp qb s a.most W hw HFA.out.m0 HFA.out.m1)
        have DP := HDZ
        have BP := HBZ
        have hq := fbegin_len a.most HFZ.out.ok.wt HFZ.out.ok.fl
        obtain ⟨r5, hr5⟩ : ∃ r5, fbegin s a.most = r5 := ⟨_, rfl⟩
        rw [hr5] at CB CD hq
        obtain ⟨s5, q5⟩ := r5
        simp only at hq
        have HQ5 := Lib.hid hq
        clear hr5 hq
        go_wp2_with (first | (refine wpList_load_at rfl 49 (.tmp 29) rfl b (o + k * 10) rfl (actA a) _ HRG.out Try.underlying49 rfl act_size ?_) | (refine wpList_store_rowZ rfl 49 (.tmp 8) (.tmp 30) rfl rfl wr.heap.size (actA a) rfl rfl 49 (actA zAv) HAY.out act_size rfl (act_one a) Z HZ.out ?_) | (fail))
        (with_reducible refine CB.out.mono ?_)
        rintro e w5 ⟨v5, rfl, h5, o5, f5⟩
        have HF5 := Lib.hid h5
        have HO5 := Lib.hid o5
        have HD5 := Lib.hid (DP.out.prog f5)
        have HB5 := Lib.hid (BP.out.trans (f5.below.mono (Nat.le_refl _)))
        have c9 : w5.cell? ⟨wr.heap.size, 9, none⟩ = some (.int .i64 a.most) := (HAZ.out.fr f5 (flowS_not (by unfold flowT; decide))).cell 9
        clear h5 o5 f5 CB
        go_wp2_with fail
        (with_reducible refine (CD _ HD5.out).out.mono ?_)
        rintro e w6 ⟨v6, rfl, h6, o6, f6⟩
        have HD6 := Lib.hid h6
        have HR6 := Lib.hid o6
        have HF6 := Lib.hid (HF5.out.ref f6)
        have HO6 := Lib.hid (HO5.out.ref f6)
        have HB6 := Lib.hid (HB5.out.trans (f6.below.mono (Nat.le_refl _)))
        clear h6 o6 f6 CD c9
        go_wp2_with (first | (go_at_call 22; (with_reducible refine (same1_any _ _ _ _ q5 _ HO6.out HR6.out (by have := HQ5.out; omega)).mono ?_); rintro e w7 ⟨rfl, hb7⟩; have HF7 := Lib.hid (HF6.out.below hb7); have HD7 := Lib.hid (HD6.out.below hb7); have HB7 := Lib.hid (HB6.out.trans (hb7.mono HB6.out.size)); clear hb7) | (go_at_call 23; (with_reducible refine (same2_any _ _ fp pb mb dp qb s5 _ HF7.out HD7.out).mono ?_); rintro e w8 ⟨rfl, hb8⟩; have HF8 := Lib.hid (HF7.out.below hb8); have HD8 := Lib.hid (HD7.out.below hb8); have HB8 := Lib.hid (HB7.out.trans (hb8.mono HB7.out.size)); clear hb8) | (fail))
        go_roundw
        case rel => exact ⟨k + 1, s5, by go_num, by have := K6.out; omega, HF8, HD8, HB8⟩
        case measure => have := K6.out; simp [intOf]; omega
      · have CB := Lib.hid (fbegin_any w.heap.size fp pb mb s a.most Z HFZ.out HFA.out.m0 HFA.out.m1)
        have CD := fun W (hw : DFlowAt w.heap.size dp qb s W) => Lib.hid (rbegin_any w.heap.size dp qb s a.most W hw HFA.out.m0 HFA.out.m1)
        have DP := HDZ
        have BP := HBZ
        have hq := fbegin_len a.most HFZ.out.ok.wt HFZ.out.ok.fl
        obtain ⟨r5, hr5⟩ : ∃ r5, fbegin s a.most = r5 := ⟨_, rfl⟩
        rw [hr5] at CB CD hq
        obtain ⟨s5, q5⟩ := r5
        simp only at hq
        have HQ5 := Lib.hid hq
        clear hr5 hq
        go_wp2_with (first | (refine wpList_load_at rfl 49 (.tmp 29) rfl b (o + k * 10) rfl (actA a) _ HRG.out Try.underlying49 rfl act_size ?_) | (refine wpList_store_rowZ rfl 49 (.tmp 8) (.tmp 30) rfl rfl wr.heap.size (actA a) rfl rfl 49 (actA zAv) HAY.out act_size rfl (act_one a) Z HZ.out ?_) | (fail))
        (with_reducible refine CB.out.mono ?_)
        rintro e w5 ⟨v5, rfl, h5, o5, f5⟩
        have HF5 := Lib.hid h5
        have HO5 := Lib.hid o5
        have HD5 := Lib.hid (DP.out.prog f5)
        have HB5 := Lib.hid (BP.out.trans (f5.below.mono (Nat.le_refl _)))
        have c9 : w5.cell? ⟨wr.heap.size, 9, none⟩ = some (.int .i64 a.most) := (HAZ.out.fr f5 (flowS_not (by unfold flowT; decide))).cell 9
        clear h5 o5 f5 CB
        go_wp2_with fail
        (with_reducible refine (CD _ HD5.out).out.mono ?_)
        rintro e w6 ⟨v6, rfl, h6, o6, f6⟩
        have HD6 := Lib.hid h6
        have HR6 := Lib.hid o6
        have HF6 := Lib.hid (HF5.out.ref f6)
        have HO6 := Lib.hid (HO5.out.ref f6)
        have HB6 := Lib.hid (HB5.out.trans (f6.below.mono (Nat.le_refl _)))
        clear h6 o6 f6 CD c9
        go_wp2_with (first | (go_at_call 22; (with_reducible refine (same1_any _ _ _ _ q5 _ HO6.out HR6.out (by have := HQ5.out; omega)).mono ?_); rintro e w7 ⟨rfl, hb7⟩; have HF7 := Lib.hid (HF6.out.below hb7); have HD7 := Lib.hid (HD6.out.below hb7); have HB7 := Lib.hid (HB6.out.trans (hb7.mono HB6.out.size)); clear hb7) | (go_at_call 23; (with_reducible refine (same2_any _ _ fp pb mb dp qb s5 _ HF7.out HD7.out).mono ?_); rintro e w8 ⟨rfl, hb8⟩; have HF8 := Lib.hid (HF7.out.below hb8); have HD8 := Lib.hid (HD7.out.below hb8); have HB8 := Lib.hid (HB7.out.trans (hb8.mono HB7.out.size)); clear hb8) | (fail))
        go_roundw
        case rel => exact ⟨k + 1, s5, by go_num, by have := K6.out; omega, HF8, HD8, HB8⟩
        case measure => have := K6.out; simp [intOf]; omega
      · have CB := Lib.hid (fend_any w.heap.size fp pb mb s Z HFZ.out)
        obtain ⟨vf, vw, vl, LL, hdv⟩ := HDZ.out
        have HDV := Lib.hid hdv
        clear hdv
        go_wp2_with (first | (refine wpList_load_at rfl 49 (.tmp 29) rfl b (o + k * 10) rfl (actA a) _ HRG.out Try.underlying49 rfl act_size ?_) | (refine wpList_store_rowZ rfl 49 (.tmp 8) (.tmp 30) rfl rfl wr.heap.size (actA a) rfl rfl 49 (actA zAv) HAY.out act_size rfl (act_one a) Z HZ.out ?_) | (fail))
        (with_reducible refine CB.out.mono ?_)
        rintro e w5 ⟨rfl, h5, f5⟩
        have hdv : DFlowV w.heap.size dp qb s vf vw vl LL w5 := ⟨HDV.out.ok, HDV.out.hB, HDV.out.blk.fr f5 (flowS_not (by unfold flowT; decide)), HDV.out.fl.fr f5 (fun _ _ _ => flowS_not (by unfold flowT; decide)), HDV.out.wt.fr f5 (fun _ _ _ => flowS_not (by unfold flowT; decide)), HDV.out.pool.hP, HDV.out.pool.blk.fr f5 (flowS_not (by unfold flowT; decide)), HDV.out.pool.ls.fr f5 (fun _ _ _ => flowS_not (by unfold flowT; decide)), HDV.out.pool.pm⟩
        have hoff := dflow_off hdv
        have e2 := hdv.blk.cell 2
        have k2 := hdv.blk.frozen 2
        simp only [List.getElem?_toArray, List.getElem?_cons_zero, List.getElem?_cons_succ] at e2
        obtain ⟨Z6, hZ6⟩ : ∃ Z6, w5.setCell ⟨dp, 2, none⟩ (.bool false) = Z6 := ⟨_, rfl⟩
        obtain ⟨s5, hs5⟩ : ∃ s5, ({ s with on := false } : FS) = s5 := ⟨_, rfl⟩
        rw [hZ6, hs5] at hoff
        rw [hs5] at h5
        have HD6 := Lib.hid hoff.1
        have HF6 := Lib.hid (h5.ref hoff.2)
        have HB6 := Lib.hid ((HBZ.out.trans (f5.below.mono (Nat.le_refl _))).trans (hoff.2.below.mono (Nat.le_refl _)))
        have HO6 := Lib.hid (OutAt.nil 0 Z6)
        have HR6 := Lib.hid (ROutAt.nil 0 Z6)
        obtain ⟨q5, hq5⟩ : ∃ q5 : List OP, [] = q5 := ⟨_, rfl⟩
        have HQ5 := Lib.hid (show q5.length ≤ 400 from by rw [← hq5]; simp)
        rw [hq5] at HO6 HR6
        have HZ6 := Lib.hid hZ6
        clear h5 f5 CB hdv hoff hs5 hq5 hZ6
        go_wp2_with fail
        rw [HZ6.out]
        go_wp2_with (first | (go_at_call 22; (with_reducible refine (same1_any _ _ _ _ q5 _ HO6.out HR6.out (by have := HQ5.out; omega)).mono ?_); rintro e w7 ⟨rfl, hb7⟩; have HF7 := Lib.hid (HF6.out.below hb7); have HD7 := Lib.hid (HD6.out.below hb7); have HB7 := Lib.hid (HB6.out.trans (hb7.mono HB6.out.size)); clear hb7) | (go_at_call 23; (with_reducible refine (same2_any _ _ fp pb mb dp qb s5 _ HF7.out HD7.out).mono ?_); rintro e w8 ⟨rfl, hb8⟩; have HF8 := Lib.hid (HF7.out.below hb8); have HD8 := Lib.hid (HD7.out.below hb8); have HB8 := Lib.hid (HB7.out.trans (hb8.mono HB7.out.size)); clear hb8) | (fail))
        go_roundw
        case rel => exact ⟨k + 1, s5, by go_num, by have := K6.out; omega, HF8, HD8, HB8⟩
        case measure => have := K6.out; simp [intOf]; omega
      · have CB := Lib.hid (fend_any w.heap.size fp pb mb s Z HFZ.out)
        obtain ⟨vf, vw, vl, LL, hdv⟩ := HDZ.out
        have HDV := Lib.hid hdv
        clear hdv
        go_wp2_with (first | (refine wpList_load_at rfl 49 (.tmp 29) rfl b (o + k * 10) rfl (actA a) _ HRG.out Try.underlying49 rfl act_size ?_) | (refine wpList_store_rowZ rfl 49 (.tmp 8) (.tmp 30) rfl rfl wr.heap.size (actA a) rfl rfl 49 (actA zAv) HAY.out act_size rfl (act_one a) Z HZ.out ?_) | (fail))
        (with_reducible refine CB.out.mono ?_)
        rintro e w5 ⟨rfl, h5, f5⟩
        have hdv : DFlowV w.heap.size dp qb s vf vw vl LL w5 := ⟨HDV.out.ok, HDV.out.hB, HDV.out.blk.fr f5 (flowS_not (by unfold flowT; decide)), HDV.out.fl.fr f5 (fun _ _ _ => flowS_not (by unfold flowT; decide)), HDV.out.wt.fr f5 (fun _ _ _ => flowS_not (by unfold flowT; decide)), HDV.out.pool.hP, HDV.out.pool.blk.fr f5 (flowS_not (by unfold flowT; decide)), HDV.out.pool.ls.fr f5 (fun _ _ _ => flowS_not (by unfold flowT; decide)), HDV.out.pool.pm⟩
        have hoff := dflow_off hdv
        have e2 := hdv.blk.cell 2
        have k2 := hdv.blk.frozen 2
        simp only [List.getElem?_toArray, List.getElem?_cons_zero, List.getElem?_cons_succ] at e2
        obtain ⟨Z6, hZ6⟩ : ∃ Z6, w5.setCell ⟨dp, 2, none⟩ (.bool false) = Z6 := ⟨_, rfl⟩
        obtain ⟨s5, hs5⟩ : ∃ s5, ({ s with on := false } : FS) = s5 := ⟨_, rfl⟩
        rw [hZ6, hs5] at hoff
        rw [hs5] at h5
        have HD6 := Lib.hid hoff.1
        have HF6 := Lib.hid (h5.ref hoff.2)
        have HB6 := Lib.hid ((HBZ.out.trans (f5.below.mono (Nat.le_refl _))).trans (hoff.2.below.mono (Nat.le_refl _)))
        have HO6 := Lib.hid (OutAt.nil 0 Z6)
        have HR6 := Lib.hid (ROutAt.nil 0 Z6)
        obtain ⟨q5, hq5⟩ : ∃ q5 : List OP, [] = q5 := ⟨_, rfl⟩
        have HQ5 := Lib.hid (show q5.length ≤ 400 from by rw [← hq5]; simp)
        rw [hq5] at HO6 HR6
        have HZ6 := Lib.hid hZ6
        clear h5 f5 CB hdv hoff hs5 hq5 hZ6
        go_wp2_with fail
        rw [HZ6.out]
        go_wp2_with (first | (go_at_call 22; (with_reducible refine (same1_any _ _ _ _ q5 _ HO6.out HR6.out (by have := HQ5.out; omega)).mono ?_); rintro e w7 ⟨rfl, hb7⟩; have HF7 := Lib.hid (HF6.out.below hb7); have HD7 := Lib.hid (HD6.out.below hb7); have HB7 := Lib.hid (HB6.out.trans (hb7.mono HB6.out.size)); clear hb7) | (go_at_call 23; (with_reducible refine (same2_any _ _ fp pb mb dp qb s5 _ HF7.out HD7.out).mono ?_); rintro e w8 ⟨rfl, hb8⟩; have HF8 := Lib.hid (HF7.out.below hb8); have HD8 := Lib.hid (HD7.out.below hb8); have HB8 := Lib.hid (HB7.out.trans (hb8.mono HB7.out.size)); clear hb8) | (fail))
        go_roundw
        case rel => exact ⟨k + 1, s5, by go_num, by have := K6.out; omega, HF8, HD8, HB8⟩
        case measure => have := K6.out; simp [intOf]; omega
      · have CB := Lib.hid (fsend_any w.heap.size fp pb mb s a.m Z HFZ.out)
        have CD := fun W (hw : DFlowAt w.heap.size dp qb s W) => Lib.hid (rsend_any w.heap.size dp qb s a.m W hw)
        have DP := HDZ
        have BP := HBZ
        have hq := fsend_len a.m HFZ.out.ok.wt
        have hcd := fsend_code s a.m
        obtain ⟨r5, hr5⟩ : ∃ r5, fsend s a.m = r5 := ⟨_, rfl⟩
        rw [hr5] at CB CD hq hcd
        obtain ⟨s5, q5, d5⟩ := r5
        simp only at hcd hq
        obtain ⟨hcd0, hcd1⟩ := hcd
        have HQ5 := Lib.hid hq
        clear hr5 hq
        go_wp2_with (first | (refine wpList_load_at rfl 49 (.tmp 29) rfl b (o + k * 10) rfl (actA a) _ HRG.out Try.underlying49 rfl act_size ?_) | (refine wpList_store_rowZ rfl 49 (.tmp 8) (.tmp 30) rfl rfl wr.heap.size (actA a) rfl rfl 49 (actA zAv) HAY.out act_size rfl (act_one a) Z HZ.out ?_) | (refine wpList_load_at rfl 47 (.tmp 36) rfl wr.heap.size 1 rfl (omA a.m) _ (range_msg HAZ.out) Try.underlying47 rfl lmsg_size ?_) | (fail))
        (with_reducible refine CB.out.mono ?_)
        rintro e w5 ⟨v5, rfl, h5, o5, f5⟩
        have HF5 := Lib.hid h5
        have HO5 := Lib.hid o5
        have HD5 := Lib.hid (DP.out.prog f5)
        have HB5 := Lib.hid (BP.out.trans (f5.below.mono (Nat.le_refl _)))
        have HA5 := Lib.hid (HAZ.out.fr f5 (flowS_not (by unfold flowT; decide)))
        clear h5 o5 f5 CB
        go_wp2_with (first | (refine wpList_load_at rfl 47 (.tmp 43) rfl wr.heap.size 1 rfl (omA a.m) _ (range_msg HA5.out) Try.underlying47 rfl lmsg_size ?_) | (fail))
        (with_reducible refine (CD _ HD5.out).out.mono ?_)
        rintro e w6 ⟨v6, rfl, h6, o6, f6⟩
        have HD6 := Lib.hid h6
        have HR6 := Lib.hid o6
        have HF6 := Lib.hid (HF5.out.ref f6)
        have HO6 := Lib.hid (HO5.out.ref f6)
        have HB6 := Lib.hid (HB5.out.trans (f6.below.mono (Nat.le_refl _)))
        clear h6 o6 f6 CD
        go_wp2_with (first | (go_at_call 22; (with_reducible refine (same1_any _ _ _ _ q5 _ HO6.out HR6.out (by have := HQ5.out; omega)).mono ?_); rintro e w7 ⟨rfl, hb7⟩; have HF7 := Lib.hid (HF6.out.below hb7); have HD7 := Lib.hid (HD6.out.below hb7); have HB7 := Lib.hid (HB6.out.trans (hb7.mono HB6.out.size)); clear hb7) | (go_at_call 23; (with_reducible refine (same2_any _ _ fp pb mb dp qb s5 _ HF7.out HD7.out).mono ?_); rintro e w8 ⟨rfl, hb8⟩; have HF8 := Lib.hid (HF7.out.below hb8); have HD8 := Lib.hid (HD7.out.below hb8); have HB8 := Lib.hid (HB7.out.trans (hb8.mono HB7.out.size)); clear hb8) | (fail))
        go_roundw
        case rel => exact ⟨k + 1, s5, by go_num, by have := K6.out; omega, HF8, HD8, HB8⟩
        case measure => have := K6.out; simp [intOf]; omega
      · have CB := Lib.hid (fsend_any w.heap.size fp pb mb s a.m Z HFZ.out)
        have CD := fun W (hw : DFlowAt w.heap.size dp qb s W) => Lib.hid (rsend_any w.heap.size dp qb s a.m W hw)
        have DP := HDZ
        have BP := HBZ
        have hq := fsend_len a.m HFZ.out.ok.wt
        have hcd := fsend_code s a.m
        obtain ⟨r5, hr5⟩ : ∃ r5, fsend s a.m = r5 := ⟨_, rfl⟩
        rw [hr5] at CB CD hq hcd
        obtain ⟨s5, q5, d5⟩ := r5
        simp only at hcd hq
        obtain ⟨hcd0, hcd1⟩ := hcd
        have HQ5 := Lib.hid hq
        clear hr5 hq
        go_wp2_with (first | (refine wpList_load_at rfl 49 (.tmp 29) rfl b (o + k * 10) rfl (actA a) _ HRG.out Try.underlying49 rfl act_size ?_) | (refine wpList_store_rowZ rfl 49 (.tmp 8) (.tmp 30) rfl rfl wr.heap.size (actA a) rfl rfl 49 (actA zAv) HAY.out act_size rfl (act_one a) Z HZ.out ?_) | (refine wpList_load_at rfl 47 (.tmp 36) rfl wr.heap.size 1 rfl (omA a.m) _ (range_msg HAZ.out) Try.underlying47 rfl lmsg_size ?_) | (fail))
        (with_reducible refine CB.out.mono ?_)
        rintro e w5 ⟨v5, rfl, h5, o5, f5⟩
        have HF5 := Lib.hid h5
        have HO5 := Lib.hid o5
        have HD5 := Lib.hid (DP.out.prog f5)
        have HB5 := Lib.hid (BP.out.trans (f5.below.mono (Nat.le_refl _)))
        have HA5 := Lib.hid (HAZ.out.fr f5 (flowS_not (by unfold flowT; decide)))
        clear h5 o5 f5 CB
        go_wp2_with (first | (refine wpList_load_at rfl 47 (.tmp 43) rfl wr.heap.size 1 rfl (omA a.m) _ (range_msg HA5.out) Try.underlying47 rfl lmsg_size ?_) | (fail))
        (with_reducible refine (CD _ HD5.out).out.mono ?_)
        rintro e w6 ⟨v6, rfl, h6, o6, f6⟩
        have HD6 := Lib.hid h6
        have HR6 := Lib.hid o6
        have HF6 := Lib.hid (HF5.out.ref f6)
        have HO6 := Lib.hid (HO5.out.ref f6)
        have HB6 := Lib.hid (HB5.out.trans (f6.below.mono (Nat.le_refl _)))
        clear h6 o6 f6 CD
        go_wp2_with (first | (go_at_call 22; (with_reducible refine (same1_any _ _ _ _ q5 _ HO6.out HR6.out (by have := HQ5.out; omega)).mono ?_); rintro e w7 ⟨rfl, hb7⟩; have HF7 := Lib.hid (HF6.out.below hb7); have HD7 := Lib.hid (HD6.out.below hb7); have HB7 := Lib.hid (HB6.out.trans (hb7.mono HB6.out.size)); clear hb7) | (go_at_call 23; (with_reducible refine (same2_any _ _ fp pb mb dp qb s5 _ HF7.out HD7.out).mono ?_); rintro e w8 ⟨rfl, hb8⟩; have HF8 := Lib.hid (HF7.out.below hb8); have HD8 := Lib.hid (HD7.out.below hb8); have HB8 := Lib.hid (HB7.out.trans (hb8.mono HB7.out.size)); clear hb8) | (fail))
        go_roundw
        case rel => exact ⟨k + 1, s5, by go_num, by have := K6.out; omega, HF8, HD8, HB8⟩
        case measure => have := K6.out; simp [intOf]; omega
      · have CB := Lib.hid (fsend_any w.heap.size fp pb mb s a.m Z HFZ.out)
        have CD := fun W (hw : DFlowAt w.heap.size dp qb s W) => Lib.hid (rsend_any w.heap.size dp qb s a.m W hw)
        have DP := HDZ
        have BP := HBZ
        have hq := fsend_len a.m HFZ.out.ok.wt
        have hcd := fsend_code s a.m
        obtain ⟨r5, hr5⟩ : ∃ r5, fsend s a.m = r5 := ⟨_, rfl⟩
        rw [hr5] at CB CD hq hcd
        obtain ⟨s5, q5, d5⟩ := r5
        simp only at hcd hq
        obtain ⟨hcd0, hcd1⟩ := hcd
        have HQ5 := Lib.hid hq
        clear hr5 hq
        go_wp2_with (first | (refine wpList_load_at rfl 49 (.tmp 29) rfl b (o + k * 10) rfl (actA a) _ HRG.out Try.underlying49 rfl act_size ?_) | (refine wpList_store_rowZ rfl 49 (.tmp 8) (.tmp 30) rfl rfl wr.heap.size (actA a) rfl rfl 49 (actA zAv) HAY.out act_size rfl (act_one a) Z HZ.out ?_) | (refine wpList_load_at rfl 47 (.tmp 36) rfl wr.heap.size 1 rfl (omA a.m) _ (range_msg HAZ.out) Try.underlying47 rfl lmsg_size ?_) | (fail))
        (with_reducible refine CB.out.mono ?_)
        rintro e w5 ⟨v5, rfl, h5, o5, f5⟩
        have HF5 := Lib.hid h5
        have HO5 := Lib.hid o5
        have HD5 := Lib.hid (DP.out.prog f5)
        have HB5 := Lib.hid (BP.out.trans (f5.below.mono (Nat.le_refl _)))
        have HA5 := Lib.hid (HAZ.out.fr f5 (flowS_not (by unfold flowT; decide)))
        clear h5 o5 f5 CB
        go_wp2_with (first | (refine wpList_load_at rfl 47 (.tmp 43) rfl wr.heap.size 1 rfl (omA a.m) _ (range_msg HA5.out) Try.underlying47 rfl lmsg_size ?_) | (fail))
        (with_reducible refine (CD _ HD5.out).out.mono ?_)
        rintro e w6 ⟨v6, rfl, h6, o6, f6⟩
        have HD6 := Lib.hid h6
        have HR6 := Lib.hid o6
        have HF6 := Lib.hid (HF5.out.ref f6)
        have HO6 := Lib.hid (HO5.out.ref f6)
        have HB6 := Lib.hid (HB5.out.trans (f6.below.mono (Nat.le_refl _)))
        clear h6 o6 f6 CD
        go_wp2_with (first | (go_at_call 22; (with_reducible refine (same1_any _ _ _ _ q5 _ HO6.out HR6.out (by have := HQ5.out; omega)).mono ?_); rintro e w7 ⟨rfl, hb7⟩; have HF7 := Lib.hid (HF6.out.below hb7); have HD7 := Lib.hid (HD6.out.below hb7); have HB7 := Lib.hid (HB6.out.trans (hb7.mono HB6.out.size)); clear hb7) | (go_at_call 23; (with_reducible refine (same2_any _ _ fp pb mb dp qb s5 _ HF7.out HD7.out).mono ?_); rintro e w8 ⟨rfl, hb8⟩; have HF8 := Lib.hid (HF7.out.below hb8); have HD8 := Lib.hid (HD7.out.below hb8); have HB8 := Lib.hid (HB7.out.trans (hb8.mono HB7.out.size)); clear hb8) | (fail))
        go_roundw
        case rel => exact ⟨k + 1, s5, by go_num, by have := K6.out; omega, HF8, HD8, HB8⟩
        case measure => have := K6.out; simp [intOf]; omega
    · obtain rfl : k = N := by omega
      go_wp2
      go_ret
      exact ⟨rfl, hB.out⟩
end Go.Proofs.Ytnclobnnnihpfaa
