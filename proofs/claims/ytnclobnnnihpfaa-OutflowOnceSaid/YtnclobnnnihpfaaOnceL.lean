/- OutflowOnce: the walk. -/
import Derived.Test.YtnclobnnnihpfaaOnceS
namespace Go.Proofs.Ytnclobnnnihpfaa
set_option linter.unusedVariables false
set_option linter.unusedSimpArgs false
open Go.RowKit Go.Maps
set_option maxRecDepth 100000 in
set_option maxHeartbeats 8000000 in
theorem outflowOnce_walk (n0 : Int) (hn : (Lit.int .i64 n0).wf = true) (v : Value) (L : List Av) (w : World) (h : SAct w v L) :
    Calls Try.prog 3 #[.int .i64 n0, v] w fun e w' => e = .returned (.bool true) ∧ Below w.heap.size w w' := by
  obtain ⟨hn0, hn1⟩ := i64_bd hn
  obtain ⟨A, cap, rfl, hlc, hcm, hR⟩ := sact_form h
  have HFT := Lib.hid h.2
  have HR := Lib.hid hR
  have hLc : (L.length : Int) ≤ (cap : Int) := by omega
  obtain ⟨N, hN⟩ : ∃ N : Nat, min L.length 100 = N := ⟨_, rfl⟩
  have hNI : min (L.length : Int) 100 = (N : Int) := by omega
  have hNL : N ≤ L.length := by omega
  have HN := Lib.hid hN
  have CN := Lib.hid (fnew_any n0 w hn0 hn1)
  clear hn hN h hR
  have hmm := @run_makeMap Try.prog
  go_enter Try.func3, Try.ntmps3
  go_wp2_with fail
  (with_reducible refine CN.out.mono ?_)
  rintro e w1 ⟨fp, pb, mb, rfl, hf1, hb1⟩
  have H1 := Lib.hid hf1
  have B1 := Lib.hid hb1
  clear hf1 hb1 CN
  go_wp2_with fail
  obtain ⟨F0, hF0⟩ : ∃ F0, w1.heap.size = F0 := ⟨_, rfl⟩
  have FB : Hid (w.heap.size ≤ F0) := Lib.hid (by have := B1.out.size; omega)
  rw [hF0]
  obtain ⟨W5, hW5⟩ : ∃ W5, ((((w1.alloc (.cells #[.pointer (some ⟨fp, 0, none⟩)] 23)).alloc (.map #[] 0)).alloc (.cells #[.map (some (F0 + 1))] 25)).alloc (.map #[] 0)).alloc (.cells #[.map (some (F0 + 1 + 1 + 1))] 26) = W5 := ⟨_, rfl⟩
  rw [hW5]
  have HH := once_laid w.heap.size fp pb mb F0 _ w1 W5 H1.out hF0 hW5
  have H5 := Lib.hid HH.1
  have B5 := Lib.hid (B1.out.trans (HH.2.mono B1.out.size))
  clear HH hW5 hF0
  go_loopw [8, 30] (fun nv i wr => ∃ (k n : Nat) (s : FS) (sent : ByteArray → Option Int) (ns : Nat) (rel : ByteArray → Bool) (nr : Nat), nv = .int .i64 n ∧ i = .int .i64 k ∧ n ≤ k ∧ k ≤ N ∧ ns ≤ 400 * k ∧ nr ≤ 64 * k ∧ Hid (OnceW w.heap.size fp pb mb (F0 + 1) (F0 + 1 + 1 + 1) F0 (F0 + 1 + 1) (F0 + 1 + 1 + 1 + 1) s sent ns rel nr wr) ∧ Hid (Once s sent rel n) ∧ Hid (Below w.heap.size w wr)) (fun _ i _ => N - (intOf i).toNat)
  case atStart => exact ⟨0, 0, ⟨0, bounded n0, false, [], []⟩, _, 0, _, 0, rfl, rfl, Nat.le_refl _, Nat.zero_le _, Nat.zero_le _, Nat.zero_le _, H5, Lib.hid (once_new n0), B5⟩
  case round =>
    obtain ⟨k, n, s, sent, ns, rel, nr, rfl, rfl, hnk, hk, hns, hnr, hW, hO, hB⟩ := hrel
    have hNh : N ≤ 100 := by have := HN.out; omega
    have K1 : Hid (ns ≤ 400 * k) := Lib.hid hns
    have K2 : Hid (nr ≤ 64 * k) := Lib.hid hnr
    have K3 : Hid (N ≤ 100) := Lib.hid hNh
    have K4 : Hid (n ≤ k) := Lib.hid hnk
    have K5 : Hid (k ≤ N) := Lib.hid hk
    clear hnr hns hnk
    by_cases hlt : k < N
    · have hkI : (k : Int) < (N : Int) := by omega
      have hkL : k < L.length := by omega
      have K6 : Hid (k < N) := Lib.hid hlt
      obtain ⟨a, ha⟩ : ∃ a, L[k]? = some a := ⟨_, List.getElem?_eq_getElem hkL⟩
      have hfa := HFT.out a (List.mem_of_getElem? ha)
      obtain ⟨b, o, rfl, hb, hc⟩ := HR.out (by omega)
      have hrg : wr.rangeAt b (o + k * 10) (actA a).toList := fun j u hu => (hB.out.cell (p := ⟨b, o + k * 10 + j, none⟩) hb).trans (hc k a ha j u hu)
      have hA := (blk_at wr (actA zAv) 49 rfl).setRow (cs' := actA a)
      have hbZ := below_setRow ((Below.refl wr.heap.size wr).alloc (Nat.le_refl _) (.cells (actA zAv) 49)) (Nat.le_refl _) (actA a)
      obtain ⟨Y, hY⟩ : ∃ Y, wr.alloc (.cells (actA zAv) 49) = Y := ⟨_, rfl⟩
      have hAy := blk_at wr (actA zAv) 49 rfl
      obtain ⟨Z, hZ⟩ : ∃ Z, Y.setRow wr.heap.size (actA a) = Z := ⟨_, rfl⟩
      rw [hY] at hA hbZ hAy
      rw [hZ] at hA hbZ
      have HAY := Lib.hid hAy
      have HZ := Lib.hid hZ
      have HWZ := Lib.hid (hW.out.below hbZ)
      have HBZ := Lib.hid (hB.out.trans (hbZ.mono hB.out.size))
      have HRG := Lib.hid hrg
      have HAZ := Lib.hid hA
      have HFA := Lib.hid hfa
      have c0 : Z.cell? ⟨wr.heap.size, 0, none⟩ = some (.int .i64 a.act) := HAZ.out.cell 0
      have c3 : Z.cell? ⟨wr.heap.size, 3, none⟩ = some (.int .i64 a.m.qos) := HAZ.out.cell 3
      have c9 : Z.cell? ⟨wr.heap.size, 9, none⟩ = some (.int .i64 a.most) := HAZ.out.cell 9
      have zf := HWZ.out.f.cell 0
      simp only [List.getElem?_toArray, List.getElem?_cons_zero] at zf
      have hd0 := HFA.out.d0
      have hd1 := HFA.out.d1
      unfold zAv actA at hY
      clear hA hbZ hAy hZ hrg hc hfa ha hW hB
      obtain ⟨D, hD⟩ : ∃ D, a.act.tmod 5 = D := ⟨_, rfl⟩
      have hDb : D = 1 ∨ D = -1 ∨ D = 2 ∨ D = -2 ∨ D = 3 ∨ D = -3 ∨ D = 0 ∨ D = 4 ∨ D = -4 := by
        have h1 := Int.tmod_lt_of_pos a.act (b := 5) (by decide)
        have h2 := Int.lt_tmod_of_pos a.act (b := 5) (by decide)
        omega
      rcases hDb with rfl | rfl | rfl | rfl | rfl | rfl | rfl | rfl | rfl
      · have CA := Lib.hid (answer_any a Z HFA.out.c0 HFA.out.c1 HFA.out.k0 HFA.out.k1)
        go_wp2_with (first | (refine wpList_load_at rfl 49 (.tmp 32) rfl b (o + k * 10) rfl (actA a) _ HRG.out Try.underlying49 rfl act_size ?_) | (refine wpList_store_rowZ rfl 49 (.tmp 11) (.tmp 33) rfl rfl wr.heap.size (actA a) rfl rfl 49 (actA zAv) HAY.out act_size rfl (act_one a) Z HZ.out ?_) | (refine wpList_load_row rfl 49 (.tmp 11) rfl wr.heap.size rfl 49 (actA a) (0, 0) _ HAZ.out Try.underlying49 rfl act_size ?_) | (fail))
        (with_reducible refine CA.out.mono ?_)
        rintro e w3 ⟨rfl, hb3⟩
        obtain ⟨kk, hkk⟩ : ∃ kk : Int, ansK (ansI a.kind) = kk := ⟨_, rfl⟩
        rw [hkk]
        obtain ⟨W4, hW4⟩ : ∃ W4, (w3.alloc (.cells (ansA 0 0 0) 37)).alloc (.cells (refA 0 0 0) 56) = W4 := ⟨_, rfl⟩
        obtain ⟨Z1, hZ1⟩ : ∃ Z1, W4.setRow w3.heap.size (ansA kk a.id a.code) = Z1 := ⟨_, rfl⟩
        obtain ⟨Z2, hZ2⟩ : ∃ Z2, Z1.setRow (w3.heap.size + 1) (refA kk a.id a.code) = Z2 := ⟨_, rfl⟩
        obtain ⟨l1, l2, l3, l4, l5⟩ := two_laid w3 kk a.id a.code W4 Z1 Z2 hW4 hZ1 hZ2
        have WP := Lib.hid ((HWZ.out.below hb3).below l5)
        have BP := Lib.hid ((HBZ.out.trans (hb3.mono HBZ.out.size)).trans (l5.mono (Nat.le_trans HBZ.out.size hb3.size)))
        have L1 := Lib.hid l1; have L2 := Lib.hid l2; have L3 := Lib.hid l3
        have HZ1 := Lib.hid hZ1; have HZ2 := Lib.hid hZ2
        unfold ansA refA at hW4
        have zf := WP.out.f.cell 0
        simp only [List.getElem?_toArray, List.getElem?_cons_zero] at zf
        have CB := Lib.hid (fanswer_any w.heap.size fp pb mb s kk a.id a.code Z2 WP.out.flow HFA.out.c0 HFA.out.c1)
        obtain ⟨s', hl, hn⟩ := answer_once kk a.id a.code hO.out (by have := K3.out; have := K4.out; omega)
        have hq := fanswer_len kk a.id a.code hO.out.ok.wt
        obtain ⟨r5, hr5⟩ : ∃ r5, fanswer s kk a.id a.code = r5 := ⟨_, rfl⟩
        rw [hr5] at CB hl hn hq
        obtain ⟨s5, L5, d5⟩ := r5
        have HL5 := Lib.hid hl; have HN5 := Lib.hid hn; have HQ5 := Lib.hid hq
        clear l1 l2 l3 l4 l5 hb3 hkk CA hZ1 hZ2 hr5 c0 c3 c9 hl hn hq
        go_wp2_with (first | (refine wpList_store_rowZ rfl 37 (.tmp 13) (.tmp 64) rfl rfl w3.heap.size (ansA kk a.id a.code) rfl rfl 37 (ansA 0 0 0) L1.out pk_size rfl (ans_one _ _ _) Z1 HZ1.out ?_) | (refine wpList_store_rowZ rfl 56 (.tmp 14) (.tmp 65) rfl rfl (w3.heap.size + 1) (refA kk a.id a.code) rfl rfl 56 (refA 0 0 0) L2.out rpk_size rfl (ref_one _ _ _) Z2 HZ2.out ?_) | (refine wpList_load_row rfl 37 (.tmp 13) rfl w3.heap.size rfl 37 (ansA kk a.id a.code) (0, 0) _ L3.out Try.underlying37 rfl pk_size ?_) | (fail))
        (with_reducible refine CB.out.mono ?_)
        rintro e w5 ⟨v5, rfl, h5, o5, f5⟩
        have HW5 := Lib.hid (WP.out.turn h5 f5)
        have HO5 := Lib.hid o5
        have HB5 := Lib.hid (BP.out.trans (f5.below.mono (Nat.le_refl _)))
        clear h5 o5 f5 CB
        clear hW4 zf
        go_wp2_with fail
        (with_reducible refine (look_any w.heap.size w.heap.size fp pb mb (F0 + 1) (F0 + 1 + 1 + 1) F0 (F0 + 1 + 1) (F0 + 1 + 1 + 1 + 1) Z2.heap.size ns nr n s5 sent s' rel false v5 L5 w5 HW5.out HO5.out HL5.out (by have := HQ5.out; omega) HN5.out (by have := K1.out; have := K3.out; have := K6.out; omega) (by have := K2.out; have := K3.out; have := K6.out; omega) (by have := FB.out; omega) (by have := FB.out; omega) HB5.out.size).mono ?_)
        rintro e w6 ⟨rfl, hW6, hB6⟩
        have HW6 := Lib.hid hW6
        have HB6 := Lib.hid (HB5.out.trans hB6)
        have HN6 := Lib.hid (once_look HN5.out (by have := K3.out; have := K4.out; have := K6.out; omega))
        have HF6 : Hid (s5.fl.length ≤ 64) := Lib.hid HN5.out.ok.fl
        clear hW6 hB6
        go_wp2
        go_roundw
        case rel => exact ⟨k + 1, n, s5, s', ns + L5.length, _, nr + s5.fl.length, rfl, by go_num, by have := K4.out; omega, by have := K6.out; omega, by have := K1.out; have := HQ5.out; omega, by have := K2.out; have := HF6.out; omega, HW6, HN6, HB6⟩
        case measure => have := K6.out; simp [intOf]; omega
      · have CA := Lib.hid (answer_any a Z HFA.out.c0 HFA.out.c1 HFA.out.k0 HFA.out.k1)
        go_wp2_with (first | (refine wpList_load_at rfl 49 (.tmp 32) rfl b (o + k * 10) rfl (actA a) _ HRG.out Try.underlying49 rfl act_size ?_) | (refine wpList_store_rowZ rfl 49 (.tmp 11) (.tmp 33) rfl rfl wr.heap.size (actA a) rfl rfl 49 (actA zAv) HAY.out act_size rfl (act_one a) Z HZ.out ?_) | (refine wpList_load_row rfl 49 (.tmp 11) rfl wr.heap.size rfl 49 (actA a) (0, 0) _ HAZ.out Try.underlying49 rfl act_size ?_) | (fail))
        (with_reducible refine CA.out.mono ?_)
        rintro e w3 ⟨rfl, hb3⟩
        obtain ⟨kk, hkk⟩ : ∃ kk : Int, ansK (ansI a.kind) = kk := ⟨_, rfl⟩
        rw [hkk]
        obtain ⟨W4, hW4⟩ : ∃ W4, (w3.alloc (.cells (ansA 0 0 0) 37)).alloc (.cells (refA 0 0 0) 56) = W4 := ⟨_, rfl⟩
        obtain ⟨Z1, hZ1⟩ : ∃ Z1, W4.setRow w3.heap.size (ansA kk a.id a.code) = Z1 := ⟨_, rfl⟩
        obtain ⟨Z2, hZ2⟩ : ∃ Z2, Z1.setRow (w3.heap.size + 1) (refA kk a.id a.code) = Z2 := ⟨_, rfl⟩
        obtain ⟨l1, l2, l3, l4, l5⟩ := two_laid w3 kk a.id a.code W4 Z1 Z2 hW4 hZ1 hZ2
        have WP := Lib.hid ((HWZ.out.below hb3).below l5)
        have BP := Lib.hid ((HBZ.out.trans (hb3.mono HBZ.out.size)).trans (l5.mono (Nat.le_trans HBZ.out.size hb3.size)))
        have L1 := Lib.hid l1; have L2 := Lib.hid l2; have L3 := Lib.hid l3
        have HZ1 := Lib.hid hZ1; have HZ2 := Lib.hid hZ2
        unfold ansA refA at hW4
        have zf := WP.out.f.cell 0
        simp only [List.getElem?_toArray, List.getElem?_cons_zero] at zf
        have CB := Lib.hid (fanswer_any w.heap.size fp pb mb s kk a.id a.code Z2 WP.out.flow HFA.out.c0 HFA.out.c1)
        obtain ⟨s', hl, hn⟩ := answer_once kk a.id a.code hO.out (by have := K3.out; have := K4.out; omega)
        have hq := fanswer_len kk a.id a.code hO.out.ok.wt
        obtain ⟨r5, hr5⟩ : ∃ r5, fanswer s kk a.id a.code = r5 := ⟨_, rfl⟩
        rw [hr5] at CB hl hn hq
        obtain ⟨s5, L5, d5⟩ := r5
        have HL5 := Lib.hid hl; have HN5 := Lib.hid hn; have HQ5 := Lib.hid hq
        clear l1 l2 l3 l4 l5 hb3 hkk CA hZ1 hZ2 hr5 c0 c3 c9 hl hn hq
        go_wp2_with (first | (refine wpList_store_rowZ rfl 37 (.tmp 13) (.tmp 64) rfl rfl w3.heap.size (ansA kk a.id a.code) rfl rfl 37 (ansA 0 0 0) L1.out pk_size rfl (ans_one _ _ _) Z1 HZ1.out ?_) | (refine wpList_store_rowZ rfl 56 (.tmp 14) (.tmp 65) rfl rfl (w3.heap.size + 1) (refA kk a.id a.code) rfl rfl 56 (refA 0 0 0) L2.out rpk_size rfl (ref_one _ _ _) Z2 HZ2.out ?_) | (refine wpList_load_row rfl 37 (.tmp 13) rfl w3.heap.size rfl 37 (ansA kk a.id a.code) (0, 0) _ L3.out Try.underlying37 rfl pk_size ?_) | (fail))
        (with_reducible refine CB.out.mono ?_)
        rintro e w5 ⟨v5, rfl, h5, o5, f5⟩
        have HW5 := Lib.hid (WP.out.turn h5 f5)
        have HO5 := Lib.hid o5
        have HB5 := Lib.hid (BP.out.trans (f5.below.mono (Nat.le_refl _)))
        clear h5 o5 f5 CB
        clear hW4 zf
        go_wp2_with fail
        (with_reducible refine (look_any w.heap.size w.heap.size fp pb mb (F0 + 1) (F0 + 1 + 1 + 1) F0 (F0 + 1 + 1) (F0 + 1 + 1 + 1 + 1) Z2.heap.size ns nr n s5 sent s' rel false v5 L5 w5 HW5.out HO5.out HL5.out (by have := HQ5.out; omega) HN5.out (by have := K1.out; have := K3.out; have := K6.out; omega) (by have := K2.out; have := K3.out; have := K6.out; omega) (by have := FB.out; omega) (by have := FB.out; omega) HB5.out.size).mono ?_)
        rintro e w6 ⟨rfl, hW6, hB6⟩
        have HW6 := Lib.hid hW6
        have HB6 := Lib.hid (HB5.out.trans hB6)
        have HN6 := Lib.hid (once_look HN5.out (by have := K3.out; have := K4.out; have := K6.out; omega))
        have HF6 : Hid (s5.fl.length ≤ 64) := Lib.hid HN5.out.ok.fl
        clear hW6 hB6
        go_wp2
        go_roundw
        case rel => exact ⟨k + 1, n, s5, s', ns + L5.length, _, nr + s5.fl.length, rfl, by go_num, by have := K4.out; omega, by have := K6.out; omega, by have := K1.out; have := HQ5.out; omega, by have := K2.out; have := HF6.out; omega, HW6, HN6, HB6⟩
        case measure => have := K6.out; simp [intOf]; omega
      · have CB := Lib.hid (fbegin_any w.heap.size fp pb mb s a.most Z HWZ.out.flow HFA.out.m0 HFA.out.m1)
        have WP := HWZ
        have BP := HBZ
        obtain ⟨s', hl, hn⟩ := begin_once a.most hO.out (by have := K3.out; have := K4.out; omega)
        have hq := fbegin_len a.most hO.out.ok.wt hO.out.ok.fl
        obtain ⟨r5, hr5⟩ : ∃ r5, fbegin s a.most = r5 := ⟨_, rfl⟩
        rw [hr5] at CB hl hn hq
        obtain ⟨s5, L5⟩ := r5
        have HL5 := Lib.hid hl; have HN5 := Lib.hid hn; have HQ5 := Lib.hid hq
        clear hr5 hl hn hq
        go_wp2_with (first | (refine wpList_load_at rfl 49 (.tmp 32) rfl b (o + k * 10) rfl (actA a) _ HRG.out Try.underlying49 rfl act_size ?_) | (refine wpList_store_rowZ rfl 49 (.tmp 11) (.tmp 33) rfl rfl wr.heap.size (actA a) rfl rfl 49 (actA zAv) HAY.out act_size rfl (act_one a) Z HZ.out ?_) | (fail))
        (with_reducible refine CB.out.mono ?_)
        rintro e w5 ⟨v5, rfl, h5, o5, f5⟩
        have HW5 := Lib.hid (WP.out.turn h5 f5)
        have HO5 := Lib.hid o5
        have HB5 := Lib.hid (BP.out.trans (f5.below.mono (Nat.le_refl _)))
        clear h5 o5 f5 CB
        go_wp2_with fail
        (with_reducible refine (look_any w.heap.size w.heap.size fp pb mb (F0 + 1) (F0 + 1 + 1 + 1) F0 (F0 + 1 + 1) (F0 + 1 + 1 + 1 + 1) Z.heap.size ns nr n s5 sent s' rel true v5 L5 w5 HW5.out HO5.out HL5.out (by have := HQ5.out; omega) HN5.out (by have := K1.out; have := K3.out; have := K6.out; omega) (by have := K2.out; have := K3.out; have := K6.out; omega) (by have := FB.out; omega) (by have := FB.out; omega) HB5.out.size).mono ?_)
        rintro e w6 ⟨rfl, hW6, hB6⟩
        have HW6 := Lib.hid hW6
        have HB6 := Lib.hid (HB5.out.trans hB6)
        have HN6 := Lib.hid (once_look HN5.out (by have := K3.out; have := K4.out; have := K6.out; omega))
        have HF6 : Hid (s5.fl.length ≤ 64) := Lib.hid HN5.out.ok.fl
        clear hW6 hB6
        go_wp2
        go_roundw
        case rel => exact ⟨k + 1, n, s5, s', ns + L5.length, _, nr + s5.fl.length, rfl, by go_num, by have := K4.out; omega, by have := K6.out; omega, by have := K1.out; have := HQ5.out; omega, by have := K2.out; have := HF6.out; omega, HW6, HN6, HB6⟩
        case measure => have := K6.out; simp [intOf]; omega
      · have CB := Lib.hid (fbegin_any w.heap.size fp pb mb s a.most Z HWZ.out.flow HFA.out.m0 HFA.out.m1)
        have WP := HWZ
        have BP := HBZ
        obtain ⟨s', hl, hn⟩ := begin_once a.most hO.out (by have := K3.out; have := K4.out; omega)
        have hq := fbegin_len a.most hO.out.ok.wt hO.out.ok.fl
        obtain ⟨r5, hr5⟩ : ∃ r5, fbegin s a.most = r5 := ⟨_, rfl⟩
        rw [hr5] at CB hl hn hq
        obtain ⟨s5, L5⟩ := r5
        have HL5 := Lib.hid hl; have HN5 := Lib.hid hn; have HQ5 := Lib.hid hq
        clear hr5 hl hn hq
        go_wp2_with (first | (refine wpList_load_at rfl 49 (.tmp 32) rfl b (o + k * 10) rfl (actA a) _ HRG.out Try.underlying49 rfl act_size ?_) | (refine wpList_store_rowZ rfl 49 (.tmp 11) (.tmp 33) rfl rfl wr.heap.size (actA a) rfl rfl 49 (actA zAv) HAY.out act_size rfl (act_one a) Z HZ.out ?_) | (fail))
        (with_reducible refine CB.out.mono ?_)
        rintro e w5 ⟨v5, rfl, h5, o5, f5⟩
        have HW5 := Lib.hid (WP.out.turn h5 f5)
        have HO5 := Lib.hid o5
        have HB5 := Lib.hid (BP.out.trans (f5.below.mono (Nat.le_refl _)))
        clear h5 o5 f5 CB
        go_wp2_with fail
        (with_reducible refine (look_any w.heap.size w.heap.size fp pb mb (F0 + 1) (F0 + 1 + 1 + 1) F0 (F0 + 1 + 1) (F0 + 1 + 1 + 1 + 1) Z.heap.size ns nr n s5 sent s' rel true v5 L5 w5 HW5.out HO5.out HL5.out (by have := HQ5.out; omega) HN5.out (by have := K1.out; have := K3.out; have := K6.out; omega) (by have := K2.out; have := K3.out; have := K6.out; omega) (by have := FB.out; omega) (by have := FB.out; omega) HB5.out.size).mono ?_)
        rintro e w6 ⟨rfl, hW6, hB6⟩
        have HW6 := Lib.hid hW6
        have HB6 := Lib.hid (HB5.out.trans hB6)
        have HN6 := Lib.hid (once_look HN5.out (by have := K3.out; have := K4.out; have := K6.out; omega))
        have HF6 : Hid (s5.fl.length ≤ 64) := Lib.hid HN5.out.ok.fl
        clear hW6 hB6
        go_wp2
        go_roundw
        case rel => exact ⟨k + 1, n, s5, s', ns + L5.length, _, nr + s5.fl.length, rfl, by go_num, by have := K4.out; omega, by have := K6.out; omega, by have := K1.out; have := HQ5.out; omega, by have := K2.out; have := HF6.out; omega, HW6, HN6, HB6⟩
        case measure => have := K6.out; simp [intOf]; omega
      · have CB := Lib.hid (fend_any w.heap.size fp pb mb s Z HWZ.out.flow)
        have HN5 := Lib.hid (end_once hO.out)
        obtain ⟨s5, hs5⟩ : ∃ s5, ({ s with on := false } : FS) = s5 := ⟨_, rfl⟩
        rw [hs5] at CB HN5
        clear hs5
        go_wp2_with (first | (refine wpList_load_at rfl 49 (.tmp 32) rfl b (o + k * 10) rfl (actA a) _ HRG.out Try.underlying49 rfl act_size ?_) | (refine wpList_store_rowZ rfl 49 (.tmp 11) (.tmp 33) rfl rfl wr.heap.size (actA a) rfl rfl 49 (actA zAv) HAY.out act_size rfl (act_one a) Z HZ.out ?_) | (fail))
        (with_reducible refine CB.out.mono ?_)
        rintro e w5 ⟨rfl, h5, f5⟩
        have HW5 := Lib.hid (HWZ.out.turn h5 f5)
        have HB5 := Lib.hid (HBZ.out.trans (f5.below.mono (Nat.le_refl _)))
        clear h5 f5 CB
        go_wp2
        go_roundw
        case rel => exact ⟨k + 1, n, s5, sent, ns, rel, nr, rfl, by go_num, by have := K4.out; omega, by have := K6.out; omega, by have := K1.out; omega, by have := K2.out; omega, HW5, HN5, HB5⟩
        case measure => have := K6.out; simp [intOf]; omega
      · have CB := Lib.hid (fend_any w.heap.size fp pb mb s Z HWZ.out.flow)
        have HN5 := Lib.hid (end_once hO.out)
        obtain ⟨s5, hs5⟩ : ∃ s5, ({ s with on := false } : FS) = s5 := ⟨_, rfl⟩
        rw [hs5] at CB HN5
        clear hs5
        go_wp2_with (first | (refine wpList_load_at rfl 49 (.tmp 32) rfl b (o + k * 10) rfl (actA a) _ HRG.out Try.underlying49 rfl act_size ?_) | (refine wpList_store_rowZ rfl 49 (.tmp 11) (.tmp 33) rfl rfl wr.heap.size (actA a) rfl rfl 49 (actA zAv) HAY.out act_size rfl (act_one a) Z HZ.out ?_) | (fail))
        (with_reducible refine CB.out.mono ?_)
        rintro e w5 ⟨rfl, h5, f5⟩
        have HW5 := Lib.hid (HWZ.out.turn h5 f5)
        have HB5 := Lib.hid (HBZ.out.trans (f5.below.mono (Nat.le_refl _)))
        clear h5 f5 CB
        go_wp2
        go_roundw
        case rel => exact ⟨k + 1, n, s5, sent, ns, rel, nr, rfl, by go_num, by have := K4.out; omega, by have := K6.out; omega, by have := K1.out; omega, by have := K2.out; omega, HW5, HN5, HB5⟩
        case measure => have := K6.out; simp [intOf]; omega
      · have hn9 : n ≤ 900 := by have := K3.out; have := K4.out; omega
        have HWN := Lib.hid (wrap_succ n (by omega))
        obtain ⟨W4, hW4⟩ : ∃ W4, Z.alloc (.cells #[.int .u8 (wrap64 ((n : Int) + 1) % 256), .int .u8 (wrap64 ((n : Int) + 1) / 256 % 256)] 5) = W4 := ⟨_, rfl⟩
        have hcv := pay_conv n (by omega) (wrap64 ((n : Int) + 1)) HWN.out Z W4 hW4
        have bW : Below Z.heap.size Z W4 := by rw [← hW4]; exact (Below.refl _ _).alloc (Nat.le_refl _) _
        have WP := Lib.hid (HWZ.out.below bW)
        have BP := Lib.hid (HBZ.out.trans (bW.mono HBZ.out.size))
        have CB := Lib.hid (fsend_any w.heap.size fp pb mb s ⟨⟨#[116]⟩, pay (n + 1), a.m.qos, false, ⟨#[]⟩⟩ W4 WP.out.flow)
        obtain ⟨s', hl, hn⟩ := send_once (m := ⟨⟨#[116]⟩, pay (n + 1), a.m.qos, false, ⟨#[]⟩⟩) hO.out (by omega) rfl
        have hq := fsend_len ⟨⟨#[116]⟩, pay (n + 1), a.m.qos, false, ⟨#[]⟩⟩ hO.out.ok.wt
        obtain ⟨r5, hr5⟩ : ∃ r5, fsend s ⟨⟨#[116]⟩, pay (n + 1), a.m.qos, false, ⟨#[]⟩⟩ = r5 := ⟨_, rfl⟩
        rw [hr5] at CB hl hn hq
        obtain ⟨s5, L5, d5⟩ := r5
        simp only [omA] at CB
        have HL5 := Lib.hid hl; have HN5 := Lib.hid hn; have HQ5 := Lib.hid hq
        clear hr5 hl hn hq bW hn9
        go_wp2_with (first | (refine wpList_load_at rfl 49 (.tmp 32) rfl b (o + k * 10) rfl (actA a) _ HRG.out Try.underlying49 rfl act_size ?_) | (refine wpList_store_rowZ rfl 49 (.tmp 11) (.tmp 33) rfl rfl wr.heap.size (actA a) rfl rfl 49 (actA zAv) HAY.out act_size rfl (act_one a) Z HZ.out ?_) | (fail))
        (with_reducible refine CB.out.mono ?_)
        rintro e w5 ⟨v5, rfl, h5, o5, f5⟩
        have HW5 := Lib.hid (WP.out.turn h5 f5)
        have HO5 := Lib.hid o5
        have HB5 := Lib.hid (BP.out.trans (f5.below.mono (Nat.le_refl _)))
        clear h5 o5 f5 CB
        go_wp2_with fail
        (with_reducible refine (look_any w.heap.size w.heap.size fp pb mb (F0 + 1) (F0 + 1 + 1 + 1) F0 (F0 + 1 + 1) (F0 + 1 + 1 + 1 + 1) W4.heap.size ns nr (n + 1) s5 sent s' rel false v5 L5 w5 HW5.out HO5.out HL5.out (by have := HQ5.out; omega) HN5.out (by have := K1.out; have := K3.out; have := K6.out; omega) (by have := K2.out; have := K3.out; have := K6.out; omega) (by have := FB.out; omega) (by have := FB.out; omega) HB5.out.size).mono ?_)
        rintro e w6 ⟨rfl, hW6, hB6⟩
        have HW6 := Lib.hid hW6
        have HB6 := Lib.hid (HB5.out.trans hB6)
        have HN6 := Lib.hid (once_look HN5.out (by have := K3.out; have := K4.out; have := K6.out; omega))
        have HF6 : Hid (s5.fl.length ≤ 64) := Lib.hid HN5.out.ok.fl
        clear hW6 hB6
        go_wp2
        go_roundw
        case rel => exact ⟨k + 1, (n + 1), s5, s', ns + L5.length, _, nr + s5.fl.length, (by rw [HWN.out]), by go_num, by have := K4.out; omega, by have := K6.out; omega, by have := K1.out; have := HQ5.out; omega, by have := K2.out; have := HF6.out; omega, HW6, HN6, HB6⟩
        case measure => have := K6.out; simp [intOf]; omega
      · have hn9 : n ≤ 900 := by have := K3.out; have := K4.out; omega
        have HWN := Lib.hid (wrap_succ n (by omega))
        obtain ⟨W4, hW4⟩ : ∃ W4, Z.alloc (.cells #[.int .u8 (wrap64 ((n : Int) + 1) % 256), .int .u8 (wrap64 ((n : Int) + 1) / 256 % 256)] 5) = W4 := ⟨_, rfl⟩
        have hcv := pay_conv n (by omega) (wrap64 ((n : Int) + 1)) HWN.out Z W4 hW4
        have bW : Below Z.heap.size Z W4 := by rw [← hW4]; exact (Below.refl _ _).alloc (Nat.le_refl _) _
        have WP := Lib.hid (HWZ.out.below bW)
        have BP := Lib.hid (HBZ.out.trans (bW.mono HBZ.out.size))
        have CB := Lib.hid (fsend_any w.heap.size fp pb mb s ⟨⟨#[116]⟩, pay (n + 1), a.m.qos, false, ⟨#[]⟩⟩ W4 WP.out.flow)
        obtain ⟨s', hl, hn⟩ := send_once (m := ⟨⟨#[116]⟩, pay (n + 1), a.m.qos, false, ⟨#[]⟩⟩) hO.out (by omega) rfl
        have hq := fsend_len ⟨⟨#[116]⟩, pay (n + 1), a.m.qos, false, ⟨#[]⟩⟩ hO.out.ok.wt
        obtain ⟨r5, hr5⟩ : ∃ r5, fsend s ⟨⟨#[116]⟩, pay (n + 1), a.m.qos, false, ⟨#[]⟩⟩ = r5 := ⟨_, rfl⟩
        rw [hr5] at CB hl hn hq
        obtain ⟨s5, L5, d5⟩ := r5
        simp only [omA] at CB
        have HL5 := Lib.hid hl; have HN5 := Lib.hid hn; have HQ5 := Lib.hid hq
        clear hr5 hl hn hq bW hn9
        go_wp2_with (first | (refine wpList_load_at rfl 49 (.tmp 32) rfl b (o + k * 10) rfl (actA a) _ HRG.out Try.underlying49 rfl act_size ?_) | (refine wpList_store_rowZ rfl 49 (.tmp 11) (.tmp 33) rfl rfl wr.heap.size (actA a) rfl rfl 49 (actA zAv) HAY.out act_size rfl (act_one a) Z HZ.out ?_) | (fail))
        (with_reducible refine CB.out.mono ?_)
        rintro e w5 ⟨v5, rfl, h5, o5, f5⟩
        have HW5 := Lib.hid (WP.out.turn h5 f5)
        have HO5 := Lib.hid o5
        have HB5 := Lib.hid (BP.out.trans (f5.below.mono (Nat.le_refl _)))
        clear h5 o5 f5 CB
        go_wp2_with fail
        (with_reducible refine (look_any w.heap.size w.heap.size fp pb mb (F0 + 1) (F0 + 1 + 1 + 1) F0 (F0 + 1 + 1) (F0 + 1 + 1 + 1 + 1) W4.heap.size ns nr (n + 1) s5 sent s' rel false v5 L5 w5 HW5.out HO5.out HL5.out (by have := HQ5.out; omega) HN5.out (by have := K1.out; have := K3.out; have := K6.out; omega) (by have := K2.out; have := K3.out; have := K6.out; omega) (by have := FB.out; omega) (by have := FB.out; omega) HB5.out.size).mono ?_)
        rintro e w6 ⟨rfl, hW6, hB6⟩
        have HW6 := Lib.hid hW6
        have HB6 := Lib.hid (HB5.out.trans hB6)
        have HN6 := Lib.hid (once_look HN5.out (by have := K3.out; have := K4.out; have := K6.out; omega))
        have HF6 : Hid (s5.fl.length ≤ 64) := Lib.hid HN5.out.ok.fl
        clear hW6 hB6
        go_wp2
        go_roundw
        case rel => exact ⟨k + 1, (n + 1), s5, s', ns + L5.length, _, nr + s5.fl.length, (by rw [HWN.out]), by go_num, by have := K4.out; omega, by have := K6.out; omega, by have := K1.out; have := HQ5.out; omega, by have := K2.out; have := HF6.out; omega, HW6, HN6, HB6⟩
        case measure => have := K6.out; simp [intOf]; omega
      · have hn9 : n ≤ 900 := by have := K3.out; have := K4.out; omega
        have HWN := Lib.hid (wrap_succ n (by omega))
        obtain ⟨W4, hW4⟩ : ∃ W4, Z.alloc (.cells #[.int .u8 (wrap64 ((n : Int) + 1) % 256), .int .u8 (wrap64 ((n : Int) + 1) / 256 % 256)] 5) = W4 := ⟨_, rfl⟩
        have hcv := pay_conv n (by omega) (wrap64 ((n : Int) + 1)) HWN.out Z W4 hW4
        have bW : Below Z.heap.size Z W4 := by rw [← hW4]; exact (Below.refl _ _).alloc (Nat.le_refl _) _
        have WP := Lib.hid (HWZ.out.below bW)
        have BP := Lib.hid (HBZ.out.trans (bW.mono HBZ.out.size))
        have CB := Lib.hid (fsend_any w.heap.size fp pb mb s ⟨⟨#[116]⟩, pay (n + 1), a.m.qos, false, ⟨#[]⟩⟩ W4 WP.out.flow)
        obtain ⟨s', hl, hn⟩ := send_once (m := ⟨⟨#[116]⟩, pay (n + 1), a.m.qos, false, ⟨#[]⟩⟩) hO.out (by omega) rfl
        have hq := fsend_len ⟨⟨#[116]⟩, pay (n + 1), a.m.qos, false, ⟨#[]⟩⟩ hO.out.ok.wt
        obtain ⟨r5, hr5⟩ : ∃ r5, fsend s ⟨⟨#[116]⟩, pay (n + 1), a.m.qos, false, ⟨#[]⟩⟩ = r5 := ⟨_, rfl⟩
        rw [hr5] at CB hl hn hq
        obtain ⟨s5, L5, d5⟩ := r5
        simp only [omA] at CB
        have HL5 := Lib.hid hl; have HN5 := Lib.hid hn; have HQ5 := Lib.hid hq
        clear hr5 hl hn hq bW hn9
        go_wp2_with (first | (refine wpList_load_at rfl 49 (.tmp 32) rfl b (o + k * 10) rfl (actA a) _ HRG.out Try.underlying49 rfl act_size ?_) | (refine wpList_store_rowZ rfl 49 (.tmp 11) (.tmp 33) rfl rfl wr.heap.size (actA a) rfl rfl 49 (actA zAv) HAY.out act_size rfl (act_one a) Z HZ.out ?_) | (fail))
        (with_reducible refine CB.out.mono ?_)
        rintro e w5 ⟨v5, rfl, h5, o5, f5⟩
        have HW5 := Lib.hid (WP.out.turn h5 f5)
        have HO5 := Lib.hid o5
        have HB5 := Lib.hid (BP.out.trans (f5.below.mono (Nat.le_refl _)))
        clear h5 o5 f5 CB
        go_wp2_with fail
        (with_reducible refine (look_any w.heap.size w.heap.size fp pb mb (F0 + 1) (F0 + 1 + 1 + 1) F0 (F0 + 1 + 1) (F0 + 1 + 1 + 1 + 1) W4.heap.size ns nr (n + 1) s5 sent s' rel false v5 L5 w5 HW5.out HO5.out HL5.out (by have := HQ5.out; omega) HN5.out (by have := K1.out; have := K3.out; have := K6.out; omega) (by have := K2.out; have := K3.out; have := K6.out; omega) (by have := FB.out; omega) (by have := FB.out; omega) HB5.out.size).mono ?_)
        rintro e w6 ⟨rfl, hW6, hB6⟩
        have HW6 := Lib.hid hW6
        have HB6 := Lib.hid (HB5.out.trans hB6)
        have HN6 := Lib.hid (once_look HN5.out (by have := K3.out; have := K4.out; have := K6.out; omega))
        have HF6 : Hid (s5.fl.length ≤ 64) := Lib.hid HN5.out.ok.fl
        clear hW6 hB6
        go_wp2
        go_roundw
        case rel => exact ⟨k + 1, (n + 1), s5, s', ns + L5.length, _, nr + s5.fl.length, (by rw [HWN.out]), by go_num, by have := K4.out; omega, by have := K6.out; omega, by have := K1.out; have := HQ5.out; omega, by have := K2.out; have := HF6.out; omega, HW6, HN6, HB6⟩
        case measure => have := K6.out; simp [intOf]; omega
    · obtain rfl : k = N := by omega
      go_wp2_with fail
      (with_reducible refine (fwakes_any _).mono ?_)
      rintro e w3 ⟨rfl, hb3⟩
      have B3 := Lib.hid (hB.out.trans (hb3.mono hB.out.size))
      clear hb3
      go_wp2
      go_ret
      exact ⟨rfl, B3.out⟩
end Go.Proofs.Ytnclobnnnihpfaa
