/- OutflowWindow: the walk. -/
import Derived.Test.YtnclobnnnihpfaaNilL
import Derived.Test.YtnclobnnnihpfaaWinP
import Derived.Lib.MinMax
namespace Go.Proofs.Ytnclobnnnihpfaa
set_option linter.unusedVariables false
set_option linter.unusedSimpArgs false
open Go.RowKit Go.Maps

def zAv : Av := ⟨0, ⟨⟨#[]⟩, ⟨#[]⟩, 0, false, ⟨#[]⟩⟩, 0, 0, 0, 0⟩
theorem act_one (a : Av) : (actA a).all (·.oneCell') = true := by simp [actA]; simp [Value.oneCell']
theorem own_form {w : World} {B n size : Nat} {e : TypeId} {v : Value} {xs : List Value} (h : w.ownsRow B e size v n xs) : ∃ ao cap, v = .slice ao n cap := by
  obtain ⟨ao, cap, e, -⟩ := (Sl.of_own h).form
  exact ⟨ao, cap, e⟩
theorem sact_form {w : World} {v : Value} {L : List Av} (h : SAct w v L) : ∃ A cap, v = .slice A L.length cap ∧ L.length ≤ cap ∧ cap ≤ maxLen ∧ ARow w A L := by
  rcases h.1 with ⟨rfl, rfl⟩ | ⟨a, cap, rfl, h1, h2, h3⟩
  · exact ⟨none, 0, rfl, Nat.le_refl _, Nat.zero_le _, fun h => absurd h (Nat.lt_irrefl 0)⟩
  · exact ⟨some a, cap, rfl, h1, h2, h3⟩
theorem ARow.below {w w' : World} {A : Option Addr} {L : List Av} (h : ARow w A L) (m : Below w.heap.size w w') : ARow w' A L := by
  intro hp
  obtain ⟨b, o, rfl, hb, hc⟩ := h hp
  exact ⟨b, o, rfl, Nat.lt_of_lt_of_le hb m.size, fun i q hq j u hu => (m.cell (p := ⟨b, o + i * 10 + j, none⟩) hb).trans (hc i q hq j u hu)⟩
set_option maxRecDepth 100000 in
set_option maxHeartbeats 8000000 in
theorem outflowWindow_walk (n0 : Int) (hn : (Lit.int .i64 n0).wf = true) (v : Value) (L : List Av) (w : World) (h : SAct w v L) :
    Calls Try.prog 4 #[.int .i64 n0, v] w fun e w' => e = .returned (.bool true) ∧ Below w.heap.size w w' := by
  obtain ⟨hn0, hn1⟩ := i64_bd hn
  obtain ⟨A, cap, rfl, hlc, hcm, hR⟩ := sact_form h
  have HFT := Lib.hid h.2
  have HR := Lib.hid hR
  have hLc : (L.length : Int) ≤ (cap : Int) := by omega
  obtain ⟨N, hN⟩ : ∃ N : Nat, min L.length 100 = N := ⟨_, rfl⟩
  have hNI : min (L.length : Int) 100 = (N : Int) := by omega
  have hNL : N ≤ L.length := by omega
  have HN := Lib.hid hN
  obtain ⟨Bd, hBd⟩ : ∃ Bd : Int, max 1 (min n0 64) = Bd := ⟨_, rfl⟩
  have CN := Lib.hid (fnew_any n0 w hn0 hn1)
  clear hn hN h hR
  go_enter Try.func4, Try.ntmps4
  go_wp2_with fail
  (with_reducible refine CN.out.mono ?_)
  rintro e w1 ⟨fp, pb, mb, rfl, hf1, hb1⟩
  have H1 := Lib.hid hf1
  have B1 := Lib.hid hb1
  clear hf1 hb1 CN
  go_wp2_with fail
  -- the loop (gen_win.py)
  go_loopw [6, 24] (fun bd i wr => ∃ (k : Nat) (s : FS), i = .int .i64 k ∧ k ≤ N ∧ bd = .int .i64 s.most ∧ Hid (FlowAt w.heap.size fp pb mb s wr) ∧ Hid (Below w.heap.size w wr)) (fun _ i _ => N - (intOf i).toNat)
  case atStart => exact ⟨0, ⟨0, bounded n0, false, [], []⟩, rfl, by omega, by rw [← hBd]; rfl, H1, B1⟩
  case round =>
    obtain ⟨k, s, rfl, hk, rfl, hF, hB⟩ := hrel
    by_cases hlt : k < N
    · have hkI : (k : Int) < (N : Int) := by omega
      have hkL : k < L.length := by omega
      obtain ⟨a, ha⟩ : ∃ a, L[k]? = some a := ⟨_, List.getElem?_eq_getElem hkL⟩
      have hfa := HFT.out a (List.mem_of_getElem? ha)
      obtain ⟨b, o, rfl, hb, hc⟩ := HR.out (by omega)
      have hrg : wr.rangeAt b (o + k * 10) (actA a).toList := fun j u hu => (hB.out.cell (p := ⟨b, o + k * 10 + j, none⟩) hb).trans (hc k a ha j u hu)
      have hA := (blk_at wr (actA zAv) 49 rfl).setRow (cs' := actA a)
      have hbZ := below_setRow ((Below.refl wr.heap.size wr).alloc (Nat.le_refl _) (.cells (actA zAv) 49)) (Nat.le_refl _) (actA a)
      obtain ⟨Y, hY⟩ : ∃ Y, wr.alloc (.cells (actA zAv) 49) = Y := ⟨_, rfl⟩
      have hAy := blk_at wr (actA zAv) 49 rfl
      obtain ⟨Z, hZ⟩ : ∃ Z, Y.setRow wr.heap.size (actA a) = Z := ⟨_, rfl⟩
      rw [hY] at hA hbZ hAy
      rw [hZ] at hA hbZ
      have HAY := Lib.hid hAy
      have HZ := Lib.hid hZ
      have HFZ := Lib.hid (hF.out.below hbZ)
      have HBZ := Lib.hid (hB.out.trans (hbZ.mono hB.out.size))
      have HRG := Lib.hid hrg
      have HAZ := Lib.hid hA
      have HFA := Lib.hid hfa
      unfold zAv actA at hY
      clear hA hbZ hAy hZ hrg hc hfa ha
      go_wp2_with (first | (refine wpList_load_at rfl 49 (.tmp 26) rfl b (o + k * 10) rfl (actA a) _ HRG.out Try.underlying49 rfl act_size ?_) | (refine wpList_store_rowZ rfl 49 (.tmp 8) (.tmp 27) rfl rfl wr.heap.size (actA a) rfl rfl 49 (actA zAv) HAY.out act_size rfl (act_one a) Z HZ.out ?_) | (fail))
      (with_reducible refine (flights_any w.heap.size fp pb mb s Z HFZ.out).mono ?_)
      rintro e w2 ⟨v2, rfl, ho2, hb2⟩
      obtain ⟨ao2, cap2, rfl⟩ := own_form ho2
      have HF2 := Lib.hid (HFZ.out.below hb2)
      have HB2 := Lib.hid (HBZ.out.trans (hb2.mono HBZ.out.size))
      have HA2 := Lib.hid (HAZ.out.of_below hb2)
      have c0 : w2.cell? ⟨wr.heap.size, 0, none⟩ = some (.int .i64 a.act) := HA2.out.cell 0
      have c9 : w2.cell? ⟨wr.heap.size, 9, none⟩ = some (.int .i64 a.most) := HA2.out.cell 9
      have hd0 := HFA.out.d0
      have hd1 := HFA.out.d1
      clear ho2 hb2 HRG HFZ HBZ HAZ HAY
      obtain ⟨D, hD⟩ : ∃ D, a.act.tmod 5 = D := ⟨_, rfl⟩
      have hDb : D = 1 ∨ D = -1 ∨ D = 2 ∨ D = -2 ∨ D = 3 ∨ D = -3 ∨ D = 0 ∨ D = 4 ∨ D = -4 := by
        have h1 := Int.tmod_lt_of_pos a.act (b := 5) (by decide)
        have h2 := Int.lt_tmod_of_pos a.act (b := 5) (by decide)
        omega
      rcases hDb with rfl | rfl | rfl | rfl | rfl | rfl | rfl | rfl | rfl
      · have CA := Lib.hid (answer_any a w2 HFA.out.c0 HFA.out.c1 HFA.out.k0 HFA.out.k1)
        go_wp2_with (first | (refine wpList_load_row rfl 49 (.tmp 8) rfl wr.heap.size rfl 49 (actA a) (0, 0) _ HA2.out Try.underlying49 rfl act_size ?_) | (fail))
        (with_reducible refine CA.out.mono ?_)
        rintro e w3 ⟨rfl, hb3⟩
        obtain ⟨kk, hkk⟩ : ∃ kk : Int, ansK (ansI a.kind) = kk := ⟨_, rfl⟩
        rw [hkk]
        obtain ⟨W4, hW4⟩ : ∃ W4, (w3.alloc (.cells (ansA 0 0 0) 37)).alloc (.cells (refA 0 0 0) 56) = W4 := ⟨_, rfl⟩
        obtain ⟨Z1, hZ1⟩ : ∃ Z1, W4.setRow w3.heap.size (ansA kk a.id a.code) = Z1 := ⟨_, rfl⟩
        obtain ⟨Z2, hZ2⟩ : ∃ Z2, Z1.setRow (w3.heap.size + 1) (refA kk a.id a.code) = Z2 := ⟨_, rfl⟩
        obtain ⟨l1, l2, l3, l4, l5⟩ := two_laid w3 kk a.id a.code W4 Z1 Z2 hW4 hZ1 hZ2
        have HF4 := Lib.hid ((HF2.out.below hb3).below l5)
        have HB4 := Lib.hid ((HB2.out.trans (hb3.mono HB2.out.size)).trans (l5.mono (Nat.le_trans HB2.out.size hb3.size)))
        have L1 := Lib.hid l1; have L2 := Lib.hid l2; have L3 := Lib.hid l3
        have HZ1 := Lib.hid hZ1; have HZ2 := Lib.hid hZ2
        unfold ansA refA at hW4
        have hm5 := (win_answer s kk a.id a.code).1
        have hl5 := (win_answer s kk a.id a.code).2
        have CB := Lib.hid (fanswer_any w.heap.size fp pb mb s kk a.id a.code Z2 HF4.out HFA.out.c0 HFA.out.c1)
        obtain ⟨r5, hr5⟩ : ∃ r5, fanswer s kk a.id a.code = r5 := ⟨_, rfl⟩
        rw [hr5] at CB hm5 hl5
        obtain ⟨s5, q5, d5⟩ := r5
        simp only at hm5 hl5
        clear l1 l2 l3 l4 l5 hb3 hkk CA hZ1 hZ2 hr5 c0 c9
        go_wp2_with (first | (refine wpList_store_rowZ rfl 37 (.tmp 10) (.tmp 44) rfl rfl w3.heap.size (ansA kk a.id a.code) rfl rfl 37 (ansA 0 0 0) L1.out pk_size rfl (ans_one _ _ _) Z1 HZ1.out ?_) | (refine wpList_store_rowZ rfl 56 (.tmp 11) (.tmp 45) rfl rfl (w3.heap.size + 1) (refA kk a.id a.code) rfl rfl 56 (refA 0 0 0) L2.out rpk_size rfl (ref_one _ _ _) Z2 HZ2.out ?_) | (refine wpList_load_row rfl 37 (.tmp 10) rfl w3.heap.size rfl 37 (ansA kk a.id a.code) (0, 0) _ L3.out Try.underlying37 rfl pk_size ?_) | (fail))
        (with_reducible refine CB.out.mono ?_)
        rintro e w5 ⟨v5, rfl, h5, _, f5⟩
        have HF5 := Lib.hid h5
        have HB5 := Lib.hid (HB4.out.trans (f5.below.mono (Nat.le_refl _)))
        clear h5 f5 CB hW4
        go_wp2_with fail
        (with_reducible refine (flights_any w.heap.size fp pb mb s5 w5 HF5.out).mono ?_)
        rintro e w6 ⟨v6, rfl, ho6, hb6⟩
        obtain ⟨ao6, cap6, rfl⟩ := own_form ho6
        have HF6 := Lib.hid (HF5.out.below hb6)
        have HB6 := Lib.hid (HB5.out.trans (hb6.mono HB5.out.size))
        clear ho6 hb6 HF5 HB5
        by_cases hg : s.most < (s5.fl.length : Int)
        · have hg2 : ¬ (s.fl.length : Int) < (s5.fl.length : Int) := by omega
          go_wp2
          go_roundw
          case rel => exact ⟨k + 1, s5, by go_num, by omega, by rw [hm5], HF6, HB6⟩
          case measure => simp [intOf]; omega
        · go_wp2
          go_roundw
          case rel => exact ⟨k + 1, s5, by go_num, by omega, by rw [hm5], HF6, HB6⟩
          case measure => simp [intOf]; omega
      · have CA := Lib.hid (answer_any a w2 HFA.out.c0 HFA.out.c1 HFA.out.k0 HFA.out.k1)
        go_wp2_with (first | (refine wpList_load_row rfl 49 (.tmp 8) rfl wr.heap.size rfl 49 (actA a) (0, 0) _ HA2.out Try.underlying49 rfl act_size ?_) | (fail))
        (with_reducible refine CA.out.mono ?_)
        rintro e w3 ⟨rfl, hb3⟩
        obtain ⟨kk, hkk⟩ : ∃ kk : Int, ansK (ansI a.kind) = kk := ⟨_, rfl⟩
        rw [hkk]
        obtain ⟨W4, hW4⟩ : ∃ W4, (w3.alloc (.cells (ansA 0 0 0) 37)).alloc (.cells (refA 0 0 0) 56) = W4 := ⟨_, rfl⟩
        obtain ⟨Z1, hZ1⟩ : ∃ Z1, W4.setRow w3.heap.size (ansA kk a.id a.code) = Z1 := ⟨_, rfl⟩
        obtain ⟨Z2, hZ2⟩ : ∃ Z2, Z1.setRow (w3.heap.size + 1) (refA kk a.id a.code) = Z2 := ⟨_, rfl⟩
        obtain ⟨l1, l2, l3, l4, l5⟩ := two_laid w3 kk a.id a.code W4 Z1 Z2 hW4 hZ1 hZ2
        have HF4 := Lib.hid ((HF2.out.below hb3).below l5)
        have HB4 := Lib.hid ((HB2.out.trans (hb3.mono HB2.out.size)).trans (l5.mono (Nat.le_trans HB2.out.size hb3.size)))
        have L1 := Lib.hid l1; have L2 := Lib.hid l2; have L3 := Lib.hid l3
        have HZ1 := Lib.hid hZ1; have HZ2 := Lib.hid hZ2
        unfold ansA refA at hW4
        have hm5 := (win_answer s kk a.id a.code).1
        have hl5 := (win_answer s kk a.id a.code).2
        have CB := Lib.hid (fanswer_any w.heap.size fp pb mb s kk a.id a.code Z2 HF4.out HFA.out.c0 HFA.out.c1)
        obtain ⟨r5, hr5⟩ : ∃ r5, fanswer s kk a.id a.code = r5 := ⟨_, rfl⟩
        rw [hr5] at CB hm5 hl5
        obtain ⟨s5, q5, d5⟩ := r5
        simp only at hm5 hl5
        clear l1 l2 l3 l4 l5 hb3 hkk CA hZ1 hZ2 hr5 c0 c9
        go_wp2_with (first | (refine wpList_store_rowZ rfl 37 (.tmp 10) (.tmp 44) rfl rfl w3.heap.size (ansA kk a.id a.code) rfl rfl 37 (ansA 0 0 0) L1.out pk_size rfl (ans_one _ _ _) Z1 HZ1.out ?_) | (refine wpList_store_rowZ rfl 56 (.tmp 11) (.tmp 45) rfl rfl (w3.heap.size + 1) (refA kk a.id a.code) rfl rfl 56 (refA 0 0 0) L2.out rpk_size rfl (ref_one _ _ _) Z2 HZ2.out ?_) | (refine wpList_load_row rfl 37 (.tmp 10) rfl w3.heap.size rfl 37 (ansA kk a.id a.code) (0, 0) _ L3.out Try.underlying37 rfl pk_size ?_) | (fail))
        (with_reducible refine CB.out.mono ?_)
        rintro e w5 ⟨v5, rfl, h5, _, f5⟩
        have HF5 := Lib.hid h5
        have HB5 := Lib.hid (HB4.out.trans (f5.below.mono (Nat.le_refl _)))
        clear h5 f5 CB hW4
        go_wp2_with fail
        (with_reducible refine (flights_any w.heap.size fp pb mb s5 w5 HF5.out).mono ?_)
        rintro e w6 ⟨v6, rfl, ho6, hb6⟩
        obtain ⟨ao6, cap6, rfl⟩ := own_form ho6
        have HF6 := Lib.hid (HF5.out.below hb6)
        have HB6 := Lib.hid (HB5.out.trans (hb6.mono HB5.out.size))
        clear ho6 hb6 HF5 HB5
        by_cases hg : s.most < (s5.fl.length : Int)
        · have hg2 : ¬ (s.fl.length : Int) < (s5.fl.length : Int) := by omega
          go_wp2
          go_roundw
          case rel => exact ⟨k + 1, s5, by go_num, by omega, by rw [hm5], HF6, HB6⟩
          case measure => simp [intOf]; omega
        · go_wp2
          go_roundw
          case rel => exact ⟨k + 1, s5, by go_num, by omega, by rw [hm5], HF6, HB6⟩
          case measure => simp [intOf]; omega
      · have CB := Lib.hid (fbegin_any w.heap.size fp pb mb s a.most w2 HF2.out HFA.out.m0 HFA.out.m1)
        have hm5 := (win_begin s a.most).1
        have hl5 := (win_begin s a.most).2
        obtain ⟨r5, hr5⟩ : ∃ r5, fbegin s a.most = r5 := ⟨_, rfl⟩
        rw [hr5] at CB hm5 hl5
        obtain ⟨s5, q5⟩ := r5
        simp only at hm5 hl5
        obtain ⟨bd, hbd⟩ : ∃ bd : Int, max 1 (min a.most 64) = bd := ⟨_, rfl⟩
        have hbe : bounded a.most = bd := hbd
        rw [hbe] at hm5 hl5
        clear hr5 hbe
        go_wp2_with fail
        (with_reducible refine CB.out.mono ?_)
        rintro e w5 ⟨v5, rfl, h5, _, f5⟩
        have HF5 := Lib.hid h5
        have HB5 := Lib.hid (HB2.out.trans (f5.below.mono (Nat.le_refl _)))
        have c9 : w5.cell? ⟨wr.heap.size, 9, none⟩ = some (.int .i64 a.most) := (HA2.out.fr f5 (flowS_not (by unfold flowT; decide))).cell 9
        clear h5 f5 CB
        go_wp2_with fail
        (with_reducible refine (flights_any w.heap.size fp pb mb s5 w5 HF5.out).mono ?_)
        rintro e w6 ⟨v6, rfl, ho6, hb6⟩
        obtain ⟨ao6, cap6, rfl⟩ := own_form ho6
        have HF6 := Lib.hid (HF5.out.below hb6)
        have HB6 := Lib.hid (HB5.out.trans (hb6.mono HB5.out.size))
        clear ho6 hb6 HF5 HB5
        by_cases hg : bd < (s5.fl.length : Int)
        · have hg2 : ¬ (s.fl.length : Int) < (s5.fl.length : Int) := by omega
          go_wp2
          go_roundw
          case rel => exact ⟨k + 1, s5, by go_num, by omega, by rw [hm5], HF6, HB6⟩
          case measure => simp [intOf]; omega
        · go_wp2
          go_roundw
          case rel => exact ⟨k + 1, s5, by go_num, by omega, by rw [hm5], HF6, HB6⟩
          case measure => simp [intOf]; omega
      · have CB := Lib.hid (fbegin_any w.heap.size fp pb mb s a.most w2 HF2.out HFA.out.m0 HFA.out.m1)
        have hm5 := (win_begin s a.most).1
        have hl5 := (win_begin s a.most).2
        obtain ⟨r5, hr5⟩ : ∃ r5, fbegin s a.most = r5 := ⟨_, rfl⟩
        rw [hr5] at CB hm5 hl5
        obtain ⟨s5, q5⟩ := r5
        simp only at hm5 hl5
        obtain ⟨bd, hbd⟩ : ∃ bd : Int, max 1 (min a.most 64) = bd := ⟨_, rfl⟩
        have hbe : bounded a.most = bd := hbd
        rw [hbe] at hm5 hl5
        clear hr5 hbe
        go_wp2_with fail
        (with_reducible refine CB.out.mono ?_)
        rintro e w5 ⟨v5, rfl, h5, _, f5⟩
        have HF5 := Lib.hid h5
        have HB5 := Lib.hid (HB2.out.trans (f5.below.mono (Nat.le_refl _)))
        have c9 : w5.cell? ⟨wr.heap.size, 9, none⟩ = some (.int .i64 a.most) := (HA2.out.fr f5 (flowS_not (by unfold flowT; decide))).cell 9
        clear h5 f5 CB
        go_wp2_with fail
        (with_reducible refine (flights_any w.heap.size fp pb mb s5 w5 HF5.out).mono ?_)
        rintro e w6 ⟨v6, rfl, ho6, hb6⟩
        obtain ⟨ao6, cap6, rfl⟩ := own_form ho6
        have HF6 := Lib.hid (HF5.out.below hb6)
        have HB6 := Lib.hid (HB5.out.trans (hb6.mono HB5.out.size))
        clear ho6 hb6 HF5 HB5
        by_cases hg : bd < (s5.fl.length : Int)
        · have hg2 : ¬ (s.fl.length : Int) < (s5.fl.length : Int) := by omega
          go_wp2
          go_roundw
          case rel => exact ⟨k + 1, s5, by go_num, by omega, by rw [hm5], HF6, HB6⟩
          case measure => simp [intOf]; omega
        · go_wp2
          go_roundw
          case rel => exact ⟨k + 1, s5, by go_num, by omega, by rw [hm5], HF6, HB6⟩
          case measure => simp [intOf]; omega
      · have CB := Lib.hid (fend_any w.heap.size fp pb mb s w2 HF2.out)
        have hm5 : ({ s with on := false } : FS).most = s.most := rfl
        have hl5 : (({ s with on := false } : FS).fl.length : Int) ≤ max (s.fl.length : Int) s.most := by simp only; omega
        obtain ⟨s5, hs5⟩ : ∃ s5, ({ s with on := false } : FS) = s5 := ⟨_, rfl⟩
        rw [hs5] at CB hm5 hl5
        clear hs5
        go_wp2_with fail
        (with_reducible refine CB.out.mono ?_)
        rintro e w5 ⟨rfl, h5, f5⟩
        have HF5 := Lib.hid h5
        have HB5 := Lib.hid (HB2.out.trans (f5.below.mono (Nat.le_refl _)))
        clear h5 f5 CB
        go_wp2_with fail
        (with_reducible refine (flights_any w.heap.size fp pb mb s5 w5 HF5.out).mono ?_)
        rintro e w6 ⟨v6, rfl, ho6, hb6⟩
        obtain ⟨ao6, cap6, rfl⟩ := own_form ho6
        have HF6 := Lib.hid (HF5.out.below hb6)
        have HB6 := Lib.hid (HB5.out.trans (hb6.mono HB5.out.size))
        clear ho6 hb6 HF5 HB5
        by_cases hg : s.most < (s5.fl.length : Int)
        · have hg2 : ¬ (s.fl.length : Int) < (s5.fl.length : Int) := by omega
          go_wp2
          go_roundw
          case rel => exact ⟨k + 1, s5, by go_num, by omega, by rw [hm5], HF6, HB6⟩
          case measure => simp [intOf]; omega
        · go_wp2
          go_roundw
          case rel => exact ⟨k + 1, s5, by go_num, by omega, by rw [hm5], HF6, HB6⟩
          case measure => simp [intOf]; omega
      · have CB := Lib.hid (fend_any w.heap.size fp pb mb s w2 HF2.out)
        have hm5 : ({ s with on := false } : FS).most = s.most := rfl
        have hl5 : (({ s with on := false } : FS).fl.length : Int) ≤ max (s.fl.length : Int) s.most := by simp only; omega
        obtain ⟨s5, hs5⟩ : ∃ s5, ({ s with on := false } : FS) = s5 := ⟨_, rfl⟩
        rw [hs5] at CB hm5 hl5
        clear hs5
        go_wp2_with fail
        (with_reducible refine CB.out.mono ?_)
        rintro e w5 ⟨rfl, h5, f5⟩
        have HF5 := Lib.hid h5
        have HB5 := Lib.hid (HB2.out.trans (f5.below.mono (Nat.le_refl _)))
        clear h5 f5 CB
        go_wp2_with fail
        (with_reducible refine (flights_any w.heap.size fp pb mb s5 w5 HF5.out).mono ?_)
        rintro e w6 ⟨v6, rfl, ho6, hb6⟩
        obtain ⟨ao6, cap6, rfl⟩ := own_form ho6
        have HF6 := Lib.hid (HF5.out.below hb6)
        have HB6 := Lib.hid (HB5.out.trans (hb6.mono HB5.out.size))
        clear ho6 hb6 HF5 HB5
        by_cases hg : s.most < (s5.fl.length : Int)
        · have hg2 : ¬ (s.fl.length : Int) < (s5.fl.length : Int) := by omega
          go_wp2
          go_roundw
          case rel => exact ⟨k + 1, s5, by go_num, by omega, by rw [hm5], HF6, HB6⟩
          case measure => simp [intOf]; omega
        · go_wp2
          go_roundw
          case rel => exact ⟨k + 1, s5, by go_num, by omega, by rw [hm5], HF6, HB6⟩
          case measure => simp [intOf]; omega
      · have CB := Lib.hid (fsend_any w.heap.size fp pb mb s a.m w2 HF2.out)
        have hm5 := (win_send s a.m).1
        have hl5 := (win_send s a.m).2
        obtain ⟨r5, hr5⟩ : ∃ r5, fsend s a.m = r5 := ⟨_, rfl⟩
        rw [hr5] at CB hm5 hl5
        obtain ⟨s5, q5, d5⟩ := r5
        simp only at hm5 hl5
        clear hr5
        go_wp2_with (first | (refine wpList_load_at rfl 47 (.tmp 35) rfl wr.heap.size 1 rfl (omA a.m) _ (range_msg HA2.out) Try.underlying47 rfl lmsg_size ?_) | (fail))
        (with_reducible refine CB.out.mono ?_)
        rintro e w5 ⟨v5, rfl, h5, _, f5⟩
        have HF5 := Lib.hid h5
        have HB5 := Lib.hid (HB2.out.trans (f5.below.mono (Nat.le_refl _)))
        clear h5 f5 CB
        go_wp2_with fail
        (with_reducible refine (flights_any w.heap.size fp pb mb s5 w5 HF5.out).mono ?_)
        rintro e w6 ⟨v6, rfl, ho6, hb6⟩
        obtain ⟨ao6, cap6, rfl⟩ := own_form ho6
        have HF6 := Lib.hid (HF5.out.below hb6)
        have HB6 := Lib.hid (HB5.out.trans (hb6.mono HB5.out.size))
        clear ho6 hb6 HF5 HB5
        by_cases hg : s.most < (s5.fl.length : Int)
        · have hg2 : ¬ (s.fl.length : Int) < (s5.fl.length : Int) := by omega
          go_wp2
          go_roundw
          case rel => exact ⟨k + 1, s5, by go_num, by omega, by rw [hm5], HF6, HB6⟩
          case measure => simp [intOf]; omega
        · go_wp2
          go_roundw
          case rel => exact ⟨k + 1, s5, by go_num, by omega, by rw [hm5], HF6, HB6⟩
          case measure => simp [intOf]; omega
      · have CB := Lib.hid (fsend_any w.heap.size fp pb mb s a.m w2 HF2.out)
        have hm5 := (win_send s a.m).1
        have hl5 := (win_send s a.m).2
        obtain ⟨r5, hr5⟩ : ∃ r5, fsend s a.m = r5 := ⟨_, rfl⟩
        rw [hr5] at CB hm5 hl5
        obtain ⟨s5, q5, d5⟩ := r5
        simp only at hm5 hl5
        clear hr5
        go_wp2_with (first | (refine wpList_load_at rfl 47 (.tmp 35) rfl wr.heap.size 1 rfl (omA a.m) _ (range_msg HA2.out) Try.underlying47 rfl lmsg_size ?_) | (fail))
        (with_reducible refine CB.out.mono ?_)
        rintro e w5 ⟨v5, rfl, h5, _, f5⟩
        have HF5 := Lib.hid h5
        have HB5 := Lib.hid (HB2.out.trans (f5.below.mono (Nat.le_refl _)))
        clear h5 f5 CB
        go_wp2_with fail
        (with_reducible refine (flights_any w.heap.size fp pb mb s5 w5 HF5.out).mono ?_)
        rintro e w6 ⟨v6, rfl, ho6, hb6⟩
        obtain ⟨ao6, cap6, rfl⟩ := own_form ho6
        have HF6 := Lib.hid (HF5.out.below hb6)
        have HB6 := Lib.hid (HB5.out.trans (hb6.mono HB5.out.size))
        clear ho6 hb6 HF5 HB5
        by_cases hg : s.most < (s5.fl.length : Int)
        · have hg2 : ¬ (s.fl.length : Int) < (s5.fl.length : Int) := by omega
          go_wp2
          go_roundw
          case rel => exact ⟨k + 1, s5, by go_num, by omega, by rw [hm5], HF6, HB6⟩
          case measure => simp [intOf]; omega
        · go_wp2
          go_roundw
          case rel => exact ⟨k + 1, s5, by go_num, by omega, by rw [hm5], HF6, HB6⟩
          case measure => simp [intOf]; omega
      · have CB := Lib.hid (fsend_any w.heap.size fp pb mb s a.m w2 HF2.out)
        have hm5 := (win_send s a.m).1
        have hl5 := (win_send s a.m).2
        obtain ⟨r5, hr5⟩ : ∃ r5, fsend s a.m = r5 := ⟨_, rfl⟩
        rw [hr5] at CB hm5 hl5
        obtain ⟨s5, q5, d5⟩ := r5
        simp only at hm5 hl5
        clear hr5
        go_wp2_with (first | (refine wpList_load_at rfl 47 (.tmp 35) rfl wr.heap.size 1 rfl (omA a.m) _ (range_msg HA2.out) Try.underlying47 rfl lmsg_size ?_) | (fail))
        (with_reducible refine CB.out.mono ?_)
        rintro e w5 ⟨v5, rfl, h5, _, f5⟩
        have HF5 := Lib.hid h5
        have HB5 := Lib.hid (HB2.out.trans (f5.below.mono (Nat.le_refl _)))
        clear h5 f5 CB
        go_wp2_with fail
        (with_reducible refine (flights_any w.heap.size fp pb mb s5 w5 HF5.out).mono ?_)
        rintro e w6 ⟨v6, rfl, ho6, hb6⟩
        obtain ⟨ao6, cap6, rfl⟩ := own_form ho6
        have HF6 := Lib.hid (HF5.out.below hb6)
        have HB6 := Lib.hid (HB5.out.trans (hb6.mono HB5.out.size))
        clear ho6 hb6 HF5 HB5
        by_cases hg : s.most < (s5.fl.length : Int)
        · have hg2 : ¬ (s.fl.length : Int) < (s5.fl.length : Int) := by omega
          go_wp2
          go_roundw
          case rel => exact ⟨k + 1, s5, by go_num, by omega, by rw [hm5], HF6, HB6⟩
          case measure => simp [intOf]; omega
        · go_wp2
          go_roundw
          case rel => exact ⟨k + 1, s5, by go_num, by omega, by rw [hm5], HF6, HB6⟩
          case measure => simp [intOf]; omega
    · obtain rfl : k = N := by omega
      go_wp2_with fail
      (with_reducible refine (fwakes_any _).mono ?_)
      rintro e w3 ⟨rfl, hb3⟩
      have B3 := Lib.hid (hB.out.trans (hb3.mono hB.out.size))
      clear hb3
      go_wp2
      go_ret
      exact ⟨rfl, B3.out⟩
end Go.Proofs.Ytnclobnnnihpfaa
