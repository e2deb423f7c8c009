/- OutflowFull: the walk. -/
import Derived.Test.YtnclobnnnihpfaaFWakes
import Derived.Test.YtnclobnnnihpfaaFullP
import Derived.Deep.RegionHeld3
import Derived.Deep.RegionWith
namespace Go.Proofs.Ytnclobnnnihpfaa
set_option linter.unusedVariables false
set_option linter.unusedSimpArgs false
open Go.RowKit Go.Maps

theorem Sl.mono {B B' n size : Nat} {w : World} {e : TypeId} {v : Value} {xs : List Value} (h : Sl B w e size v n xs) (hB : B' ≤ B) : Sl B' w e size v n xs := by
  refine ⟨h.1, ?_⟩
  rcases h.2 with c | ⟨g, o, cap, cur, h1, h2, r⟩
  · exact .inl c
  · exact .inr ⟨g, o, cap, cur, h1, by omega, r⟩
theorem OpAt.mono {C C' : Nat} {w : World} {p : OP} {pv : Value} (h : OpAt C w p pv) (hC : C' ≤ C) : OpAt C' w p pv := by
  cases p with
  | pub x id dup => exact PvAt.mono (h : PvAt C w x.tag pv) hC
  | rel id => exact h
theorem OutAt.mono {C C' : Nat} {w : World} {v : Value} {L : List OP} (h : OutAt C w v L) (hC : C' ≤ C) : OutAt C' w v L := by
  obtain ⟨pvs, h1, h2, h3⟩ := h
  exact ⟨pvs, h1, h2.mono hC, fun i p pv a b => (h3 i p pv a b).mono hC⟩
theorem own_form {w : World} {B n size : Nat} {e : TypeId} {v : Value} {xs : List Value} (h : w.ownsRow B e size v n xs) : ∃ ao cap, v = .slice ao n cap := by
  obtain ⟨ao, cap, e, -⟩ := (Sl.of_own h).form
  exact ⟨ao, cap, e⟩
theorem r_load_str {a : Act} {o : Oper} {t : Operand} {ad : Addr} {W : World} {x : ByteArray} (ho : o.op = .load 9 t) (ht : a.eval t = .pointer (some ad)) (hc : W.cell? ad = some (.string x)) : (execOp a.eval o).run Try.prog W = .ok (.value (.string x)) W := by
  unfold execOp
  simp [ho, ht, Instr.loadAt, Instr.sureAddr, loadVar, isAgg, run_underlying Try.underlying9, run_load, hc]
theorem r_shr8 {a : Act} {o : Oper} {t : Operand} {W : World} {j : Nat} (ho : o.op = .binOp .shr 3 t (.const (.int .u64 8)) 63) (ht : a.eval t = .int .i64 (j : Int)) (hj : (0 : Int) ≤ (j : Int)) (hj2 : (j : Int) < 1000000) : (execOp a.eval o).run Try.prog W = .ok (.value (.int .i64 ((j : Int) / 256))) W := by
  have e : a.eval (.const (.int .u64 8)) = .int .u64 8 := rfl
  unfold execOp
  simp only [ho, ht, e]
  go_simp
def fpay (i : Nat) : ByteArray := ⟨#[UInt8.ofNat ((i : Int) % 256).toNat, UInt8.ofNat ((i : Int) / 256).toNat]⟩
theorem fpay_run (k : Nat) (W : World) : (convert 64 9 (.slice (some ⟨W.heap.size, 0, none⟩) 2 2)).run Try.prog (W.alloc (.cells #[.int .u8 ((k : Int) % 256), .int .u8 ((k : Int) / 256)] 5)) = .ok (.string (fpay k)) (W.alloc (.cells #[.int .u8 ((k : Int) % 256), .int .u8 ((k : Int) / 256)] 5)) := by
  refine run_convert_bytes_arg (W.alloc (.cells #[.int .u8 ((k : Int) % 256), .int .u8 ((k : Int) / 256)] 5)) 64 5 Try.underlying64 Try.underlying5 W.heap.size 0 2 2 [(k : Int) % 256, (k : Int) / 256] rfl (fun i hi => ?_) 9 Try.underlying9
  have hb := blk_at W #[.int .u8 ((k : Int) % 256), .int .u8 ((k : Int) / 256)] 5 rfl
  match i, hi with
  | 0, _ => exact hb.cell 0
  | 1, _ => exact hb.cell 1
set_option maxRecDepth 100000 in
set_option maxHeartbeats 4000000 in
theorem outflowFull_walk (n0 : Int) (hn : (Lit.int .i64 n0).wf = true) (q0 : Int) (hq : (Lit.int .i64 q0).wf = true) (w : World) :
    Calls Try.prog 5 #[.int .i64 n0, .int .i64 q0] w fun e w' => e = .returned (.bool true) ∧ Below w.heap.size w w' := by
  obtain ⟨hn0, hn1⟩ := i64_bd hn
  obtain ⟨hq0, hq1⟩ := i64_bd hq
  obtain ⟨X, hX⟩ : ∃ X : Int, (if 0 < n0 then n0 else 0) = X := ⟨_, rfl⟩
  obtain ⟨Y, hY⟩ : ∃ Y : Int, (if 0 < q0 then q0 else 0) = Y := ⟨_, rfl⟩
  have hX0 : 0 ≤ X := by rw [← hX]; split <;> omega
  have hX1 : X ≤ 9223372036854775807 := by rw [← hX]; split <;> omega
  have hY0 : 0 ≤ Y := by rw [← hY]; split <;> omega
  have hY1 : Y ≤ 9223372036854775807 := by rw [← hY]; split <;> omega
  obtain ⟨N, hN, hN6⟩ : ∃ N : Nat, X % 600 = (N : Int) ∧ N < 600 := ⟨(X % 600).toNat, by omega, by omega⟩
  obtain ⟨q, hqe, hq1', hq2⟩ : ∃ q : Int, 1 + Y % 2 = q ∧ 1 ≤ q ∧ q ≤ 2 := ⟨_, rfl, by omega, by omega⟩
  clear hn hq hn0 hn1 hq0 hq1
  go_enter Try.func5, Try.ntmps5
  go_wp2_with fail
  rw [hN]
  have HN := Lib.hid hN
  clear hN hqe hX hY hX0 hX1 hY0 hY1
  (with_reducible refine (fnew_any 1 w (by decide) (by decide)).mono ?_)
  rintro e w1 ⟨fp, pb, mb, rfl, hf1, hb1⟩
  have H1 := Lib.hid (show FlowAt w.heap.size fp pb mb (fuS fpay q 0) w1 from hf1)
  have B1 := Lib.hid hb1
  clear hf1 hb1 HN
  go_wp2_with fail
  go_loopw [6, 24] (fun t i wr => ∃ k : Nat, t = .int .i64 ((min k 256 : Nat) : Int) ∧ i = .int .i64 k ∧ k ≤ N ∧ Hid (FlowAt w.heap.size fp pb mb (fuS fpay q k) wr) ∧ Hid (Below w.heap.size w wr)) (fun _ i _ => N - (intOf i).toNat)
  case atStart => exact ⟨0, rfl, rfl, by omega, H1, B1⟩
  case round =>
    obtain ⟨k, rfl, rfl, hk, hF, hB⟩ := hrel
    by_cases hlt : k < N
    · have hkN : (k : Int) < (N : Int) := by omega
      have hcv := fpay_run k wr
      have hal := (Below.refl wr.heap.size wr).alloc (Nat.le_refl _) (.cells #[.int .u8 ((k : Int) % 256), .int .u8 ((k : Int) / 256)] 5)
      have HFX := Lib.hid (hF.out.below hal)
      have HBX := Lib.hid (hB.out.trans (hal.mono hB.out.size))
      obtain ⟨X1, hX1⟩ : ∃ X1, wr.alloc (.cells #[.int .u8 ((k : Int) % 256), .int .u8 ((k : Int) / 256)] 5) = X1 := ⟨_, rfl⟩
      rw [hX1] at HFX HBX hcv
      have HX1 := Lib.hid hX1
      clear hX1 hal
      have CS := Lib.hid (fsend_any w.heap.size fp pb mb _ (fuM fpay q k) X1 HFX.out)
      go_wp2_with (first | (rw [show wr.alloc (.cells #[.int .u8 ((k : Int) % 256), .int .u8 ((k : Int) / 256)] 5) = X1 from HX1.out]) | (refine wpList_buildTo rfl 43 _ rfl (some 37) rfl (omA (fuM fpay q k)) (by kernel_rfl) ?_) | (fail))
      (with_reducible refine CS.out.mono ?_)
      rintro e w2 ⟨v2, rfl, h2, o2, r2⟩
      have R2 := Lib.hid (HBX.out.trans (r2.below.mono (Nat.le_refl _)))
      by_cases hk2 : k < 256
      · rw [fu_send_lt fpay q hq1' hq2 hk2] at h2 ⊢
        have H2 := Lib.hid h2
        have hkI : (k : Int) < 256 := by omega
        have HM := Lib.hid (show min k 256 = k from by omega)
        have HM1 := Lib.hid (show min (k + 1) 256 = k + 1 from by omega)
        simp only [HM.out]
        clear h2 o2 r2 hcv CS
        go_wp2
        go_roundw
        case rel => exact ⟨k + 1, by rw [HM1.out]; go_num, by go_num, by omega, H2, R2⟩
        case measure => simp [intOf]; omega
      · rw [fu_send_ge fpay q hq1' hq2 (by omega)] at h2 ⊢
        have H2 := Lib.hid h2
        have hkI : ¬ (k : Int) < 256 := by omega
        have HM := Lib.hid (show min k 256 = 256 from by omega)
        have HM1 := Lib.hid (show min (k + 1) 256 = 256 from by omega)
        simp only [HM.out]
        clear h2 o2 r2 hcv CS
        go_wp2
        go_roundw
        case rel => exact ⟨k + 1, by rw [HM1.out], by go_num, by omega, H2, R2⟩
        case measure => simp [intOf]; omega
    · obtain rfl : k = N := by omega
      obtain ⟨T, hT⟩ : ∃ T, min k 256 = T := ⟨_, rfl⟩
      have hT256 : T ≤ 256 := by omega
      have HT := Lib.hid hT
      rw [hT]
      clear hT
      go_wp2_with fail
      (with_reducible refine (fwakes_any _).mono ?_)
      rintro e w3 ⟨rfl, hb3⟩
      have H3 := Lib.hid (hF.out.below hb3)
      have B3 := Lib.hid (hB.out.trans (hb3.mono hB.out.size))
      clear hb3
      go_wp2_with fail
      (with_reducible refine (waiting_any w.heap.size fp pb mb _ w3 H3.out).mono ?_)
      rintro e w4 ⟨v4, rfl, ho4, hb4⟩
      obtain ⟨ao4, cap4, rfl⟩ := own_form ho4
      rw [fuS_len, HT.out]
      have H4 := Lib.hid (H3.out.below hb4)
      have B4 := Lib.hid (B3.out.trans (hb4.mono B3.out.size))
      clear ho4 hb4
      go_wp2_with fail
      (with_reducible refine (fbegin_any w.heap.size fp pb mb _ 1 w4 H4.out (by decide) (by decide)).mono ?_)
      rintro e w5 ⟨v5, rfl, h5, o5, r5⟩
      rw [fu_begin fpay q hq1' HT.out.symm] at h5 o5
      have H5 := Lib.hid h5
      have O5 := Lib.hid (o5.mono B4.out.size)
      have B5 := Lib.hid (B4.out.trans (r5.below.mono (Nat.le_refl _)))
      clear h5 o5 r5
      go_wp2_with fail
      go_loopw [10, 71] (fun v i wr => ∃ k : Nat, i = .int .i64 k ∧ k ≤ T ∧ Hid (FlowAt w.heap.size fp pb mb (fuA fpay q T k) wr) ∧ Hid (OutAt w.heap.size wr v (fuO fpay q T k)) ∧ Hid (Below w.heap.size w wr)) (fun _ i _ => T - (intOf i).toNat)
      case atStart => exact ⟨0, rfl, by omega, H5, O5, B5⟩
      case round =>
        obtain ⟨j, rfl, hj, hFj, hOj, hBj⟩ := hrel
        by_cases hjt : j < T
        · have hjT : (j : Int) < (T : Int) := by omega
          have hout := hOj.out
          unfold fuO at hout
          rw [if_pos hjt] at hout
          obtain ⟨g, o, cap, pv, rfl, _, _, _, hcl⟩ := hout.at (i := 0) rfl
          have c4 := hcl 4 _ rfl
          have c6 := hcl 6 _ rfl
          simp only [Nat.zero_mul, Nat.add_zero, List.length_cons, List.length_nil, Nat.zero_add] at c4 c6 ⊢
          clear hout hcl
          have hcv : (convert 64 9 (.slice (some ⟨wr.heap.size, 0, none⟩) 2 2)).run Try.prog (wr.alloc (.cells #[.int .u8 (IntKind.u8.wrap (j : Int)), .int .u8 (IntKind.u8.wrap ((j : Int) / 256))] 5)).drew = .ok (.string (fpay j)) (wr.alloc (.cells #[.int .u8 (IntKind.u8.wrap (j : Int)), .int .u8 (IntKind.u8.wrap ((j : Int) / 256))] 5)).drew := by
            have h1 : IntKind.u8.wrap (j : Int) = (j : Int) % 256 := by rw [IntKind.wrap_u8]
            have h2 : IntKind.u8.wrap ((j : Int) / 256) = (j : Int) / 256 := by rw [IntKind.wrap_u8]; omega
            rw [h1, h2]
            exact fpay_run j wr.drew
          have s0 : wr.drew.cell? ⟨g, o + 6, none⟩ = some (.string (fpay j)) := c6
          have hgl : g < wr.drew.heap.size := World.block_lt_of_cell? wr _ c6
          have s1 : ∀ ob, (wr.drew.alloc ob).cell? ⟨g, o + 6, none⟩ = some (.string (fpay j)) := fun ob => (World.cell?_alloc_past _ _ _ hgl).trans s0
          go_wp2_with fail
          -- region 19 (gen_full19.py)
          refine wp_region_held (S := fun X => X.cell? ⟨g, o + 6, none⟩ = some (.string (fpay j))) (by kernel_rfl) ?_
          change wpAnyH _ _ _ _ _ _ _ _ wr.drew
          refine' wpAnyH_takeD (i := 0) (d := 74) (v := ?v0) (hi := ?hi0) ?hd0 (by kernel_rfl) (by kernel_rfl) (by kernel_rfl) (fun _ _ _ h => h) (Or.inl ⟨?hw0, ?hy0⟩) s0 ?rest0
          case hi0 => (simp only [List.getElem?_toArray, List.getElem?_cons_succ, List.getElem?_cons_zero]; rfl)
          case hd0 => rfl
          case hw0 => rfl
          case hy0 => (intro W hW; (try dsimp only at hW); go_simp; (try with_reducible rfl))
          simp only [Act.put, List.setIfInBounds_toArray, List.set_cons_succ, List.set_cons_zero]
          refine' wpAnyH_takeD (i := 1) (d := 75) (v := ?v1) (hi := ?hi1) ?hd1 (by kernel_rfl) (by kernel_rfl) (by kernel_rfl) (fun _ _ _ h => h) (Or.inl ⟨?hw1, ?hy1⟩) s0 ?rest1
          case hi1 => (simp only [List.getElem?_toArray, List.getElem?_cons_succ, List.getElem?_cons_zero]; rfl)
          case hd1 => rfl
          case hw1 => rfl
          case hy1 => (intro W hW; (try dsimp only at hW); go_simp; (try with_reducible rfl))
          simp only [Act.put, List.setIfInBounds_toArray, List.set_cons_succ, List.set_cons_zero]
          refine' wpAnyH_takeD (i := 2) (d := 76) (v := ?v2) (hi := ?hi2) ?hd2 (by kernel_rfl) (by kernel_rfl) (by kernel_rfl) (fun _ _ _ h => h) (Or.inl ⟨?hw2, ?hy2⟩) s0 ?rest2
          case hi2 => (simp only [List.getElem?_toArray, List.getElem?_cons_succ, List.getElem?_cons_zero]; rfl)
          case hd2 => rfl
          case hw2 => rfl
          case hy2 => (intro W hW; (try dsimp only at hW); go_simp; (try with_reducible rfl))
          simp only [Act.put, List.setIfInBounds_toArray, List.set_cons_succ, List.set_cons_zero]
          refine' wpAnyH_takeD (i := 3) (d := 77) (v := ?v3) (hi := ?hi3) ?hd3 (by kernel_rfl) (by kernel_rfl) (by kernel_rfl) (fun _ _ _ h => h) (Or.inl ⟨?hw3, ?hy3⟩) s0 ?rest3
          case hi3 => (simp only [List.getElem?_toArray, List.getElem?_cons_succ, List.getElem?_cons_zero]; rfl)
          case hd3 => rfl
          case hw3 => rfl
          case hy3 => (intro W hW; (try dsimp only at hW); go_simp; (try with_reducible rfl))
          simp only [Act.put, List.setIfInBounds_toArray, List.set_cons_succ, List.set_cons_zero]
          refine' wpAnyH_takeD (i := 4) (d := 78) (v := ?v4) (hi := ?hi4) ?hd4 (by kernel_rfl) (by kernel_rfl) (by kernel_rfl) (fun _ _ _ h => h) (Or.inl ⟨?hw4, ?hy4⟩) s0 ?rest4
          case hi4 => (simp only [List.getElem?_toArray, List.getElem?_cons_succ, List.getElem?_cons_zero]; rfl)
          case hd4 => rfl
          case hw4 => rfl
          case hy4 => (intro W hW; (try dsimp only at hW); go_simp; (try with_reducible rfl))
          simp only [Act.put, List.setIfInBounds_toArray, List.set_cons_succ, List.set_cons_zero]
          refine' wpAnyH_takeD (i := 5) (d := 79) (v := ?v5) (hi := ?hi5) ?hd5 (by kernel_rfl) (by kernel_rfl) (by kernel_rfl) (fun _ _ _ h => h) (Or.inl ⟨?hw5, ?hy5⟩) s0 ?rest5
          case hi5 => (simp only [List.getElem?_toArray, List.getElem?_cons_succ, List.getElem?_cons_zero]; rfl)
          case hd5 => rfl
          case hw5 => rfl
          case hy5 => (intro W hW; (try dsimp only at hW); go_simp; (try with_reducible rfl))
          simp only [Act.put, List.setIfInBounds_toArray, List.set_cons_succ, List.set_cons_zero]
          refine' wpAnyH_takeD (i := 6) (d := 80) (v := ?v6) (hi := ?hi6) ?hd6 (by kernel_rfl) (by kernel_rfl) (by kernel_rfl) (fun _ _ _ h => h) (Or.inl ⟨?hw6, ?hy6⟩) s0 ?rest6
          case hi6 => (simp only [List.getElem?_toArray, List.getElem?_cons_succ, List.getElem?_cons_zero]; rfl)
          case hd6 => rfl
          case hw6 => rfl
          case hy6 => (intro W hW; (try dsimp only at hW); go_simp; (try with_reducible rfl))
          simp only [Act.put, List.setIfInBounds_toArray, List.set_cons_succ, List.set_cons_zero]
          refine' wpAnyH_takeD (i := 7) (d := 81) (v := ?v7) (hi := ?hi7) ?hd7 (by kernel_rfl) (by kernel_rfl) (by kernel_rfl) (fun _ _ _ h => h) (Or.inl ⟨?hw7, ?hy7⟩) s0 ?rest7
          case hi7 => (simp only [List.getElem?_toArray, List.getElem?_cons_succ, List.getElem?_cons_zero]; rfl)
          case hd7 => rfl
          case hw7 => rfl
          case hy7 => (intro W hW; (try dsimp only at hW); go_simp; (try with_reducible rfl))
          simp only [Act.put, List.setIfInBounds_toArray, List.set_cons_succ, List.set_cons_zero]
          refine' wpAnyH_takeD (i := 8) (d := 82) (v := ?v8) (hi := ?hi8) ?hd8 (by kernel_rfl) (by kernel_rfl) (by kernel_rfl) (fun _ _ _ h => h) (Or.inl ⟨?hw8, ?hy8⟩) s0 ?rest8
          case hi8 => (simp only [List.getElem?_toArray, List.getElem?_cons_succ, List.getElem?_cons_zero]; rfl)
          case hd8 => rfl
          case hw8 => rfl
          case hy8 => (intro W hW; (try dsimp only at hW); go_simp; (try with_reducible rfl))
          simp only [Act.put, List.setIfInBounds_toArray, List.set_cons_succ, List.set_cons_zero]
          refine' wpAnyH_takeD (i := 9) (d := 83) (v := ?v9) (hi := ?hi9) ?hd9 (by kernel_rfl) (by kernel_rfl) (by kernel_rfl) (fun _ _ _ h => h) (Or.inl ⟨?hw9, ?hy9⟩) s0 ?rest9
          case hi9 => (simp only [List.getElem?_toArray, List.getElem?_cons_succ, List.getElem?_cons_zero]; rfl)
          case hd9 => rfl
          case hw9 => rfl
          case hy9 => (intro W hW; (try dsimp only at hW); go_simp; (try with_reducible rfl))
          simp only [Act.put, List.setIfInBounds_toArray, List.set_cons_succ, List.set_cons_zero]
          refine' wpAnyH_takeD (i := 10) (d := 84) (v := ?v10) (hi := ?hi10) ?hd10 (by kernel_rfl) (by kernel_rfl) (by kernel_rfl) (fun _ _ _ h => h) (Or.inl ⟨?hw10, ?hy10⟩) s0 ?rest10
          case hi10 => (simp only [List.getElem?_toArray, List.getElem?_cons_succ, List.getElem?_cons_zero]; rfl)
          case hd10 => rfl
          case hw10 => rfl
          case hy10 => (intro W hW; (try dsimp only at hW); go_simp; (try with_reducible rfl))
          simp only [Act.put, List.setIfInBounds_toArray, List.set_cons_succ, List.set_cons_zero]
          refine' wpAnyH_takeD (i := 11) (d := 85) (v := ?v11) (hi := ?hi11) ?hd11 (by kernel_rfl) (by kernel_rfl) (by kernel_rfl) (fun _ _ _ h => h) (Or.inl ⟨?hw11, ?hy11⟩) s0 ?rest11
          case hi11 => (simp only [List.getElem?_toArray, List.getElem?_cons_succ, List.getElem?_cons_zero]; rfl)
          case hd11 => rfl
          case hw11 => rfl
          case hy11 => (intro W hW; (try dsimp only at hW); go_simp; (try with_reducible rfl))
          simp only [Act.put, List.setIfInBounds_toArray, List.set_cons_succ, List.set_cons_zero]
          refine' wpAnyH_takeD (i := 12) (d := 86) (v := ?v12) (hi := ?hi12) ?hd12 (by kernel_rfl) (by kernel_rfl) (by kernel_rfl) (fun _ _ _ h => h) (Or.inl ⟨?hw12, ?hy12⟩) s0 ?rest12
          case hi12 => (simp only [List.getElem?_toArray, List.getElem?_cons_succ, List.getElem?_cons_zero]; rfl)
          case hd12 => rfl
          case hw12 => rfl
          case hy12 => (intro W hW; (try dsimp only at hW); go_simp; (try with_reducible rfl))
          simp only [Act.put, List.setIfInBounds_toArray, List.set_cons_succ, List.set_cons_zero]
          have s1' : (wr.alloc (.cells #[.int .u8 (IntKind.u8.wrap (j : Int)), .int .u8 (IntKind.u8.wrap ((j : Int) / 256))] 5)).drew.cell? ⟨g, o + 6, none⟩ = some (.string (fpay j)) := s1 (.cells #[.int .u8 (IntKind.u8.wrap (j : Int)), .int .u8 (IntKind.u8.wrap ((j : Int) / 256))] 5)
          refine wpAnyH_one (i := 13) (by kernel_rfl) ?_
          refine' wpOp_val2 (w' := (wr.alloc (.cells #[.int .u8 (IntKind.u8.wrap (j : Int)), .int .u8 (IntKind.u8.wrap ((j : Int) / 256))] 5)).drew) (v := .slice (some ⟨wr.heap.size, 0, none⟩) 2 2) ?ho13 ?hw13 ?run13 ⟨s1', ?rest13⟩
          case ho13 => (simp only [List.getElem?_toArray, List.getElem?_cons_succ, List.getElem?_cons_zero]; rfl)
          case hw13 => rfl
          case run13 => (go_simp; (try with_reducible rfl))
          simp only [Act.put, List.setIfInBounds_toArray, List.set_cons_succ, List.set_cons_zero]
          refine wpAnyH_one (i := 14) (by kernel_rfl) ?_
          refine' wpOp_val2 (w' := (wr.alloc (.cells #[.int .u8 (IntKind.u8.wrap (j : Int)), .int .u8 (IntKind.u8.wrap ((j : Int) / 256))] 5)).drew) (v := .string (fpay j)) ?ho14 ?hw14 ?run14 ⟨s1', ?rest14⟩
          case ho14 => (simp only [List.getElem?_toArray, List.getElem?_cons_succ, List.getElem?_cons_zero]; rfl)
          case hw14 => rfl
          case run14 => (go_simp; (try with_reducible rfl))
          simp only [Act.put, List.setIfInBounds_toArray, List.set_cons_succ, List.set_cons_zero]
          refine' wpAnyH_takeD (i := 15) (d := 89) (v := ?v15) (hi := ?hi15) ?hd15 (by kernel_rfl) (by kernel_rfl) (by kernel_rfl) (fun _ _ _ h => h) (Or.inl ⟨?hw15, ?hy15⟩) s1' ?rest15
          case hi15 => (simp only [List.getElem?_toArray, List.getElem?_cons_succ, List.getElem?_cons_zero]; rfl)
          case hd15 => rfl
          case hw15 => rfl
          case hy15 => (intro W hW; (try dsimp only at hW); go_simp; (try with_reducible rfl))
          simp only [Act.put, List.setIfInBounds_toArray, List.set_cons_succ, List.set_cons_zero]
          refine' wpAnyH_takeD (i := 16) (d := 90) (v := ?v16) (hi := ?hi16) ?hd16 (by kernel_rfl) (by kernel_rfl) (by kernel_rfl) (fun _ _ _ h => h) (Or.inl ⟨?hw16, ?hy16⟩) s1' ?rest16
          case hi16 => (simp only [List.getElem?_toArray, List.getElem?_cons_succ, List.getElem?_cons_zero]; rfl)
          case hd16 => rfl
          case hw16 => rfl
          case hy16 => (intro W hW; (try dsimp only at hW); go_simp; (try with_reducible rfl))
          simp only [Act.put, List.setIfInBounds_toArray, List.set_cons_succ, List.set_cons_zero]
          refine wpAnyH_done (by kernel_rfl) ?_ _
          have hal := ((Below.refl wr.heap.size wr).alloc (Nat.le_refl _) (.cells #[.int .u8 (IntKind.u8.wrap (j : Int)), .int .u8 (IntKind.u8.wrap ((j : Int) / 256))] 5)).drew
          have c4' : (wr.alloc (.cells #[.int .u8 (IntKind.u8.wrap (j : Int)), .int .u8 (IntKind.u8.wrap ((j : Int) / 256))] 5)).drew.cell? ⟨g, o + 4, none⟩ = some (.int .i64 ((j : Int) + 1)) := (World.cell?_alloc_past _ _ _ hgl).trans c4
          have HF9 := Lib.hid (hFj.out.below hal)
          have HB9 := Lib.hid (hBj.out.trans (hal.mono hBj.out.size))
          clear hal c4 c6 s0 s1 s1' hcv
          obtain ⟨W9, hW9⟩ : ∃ W9, (wr.alloc (.cells #[.int .u8 (IntKind.u8.wrap (j : Int)), .int .u8 (IntKind.u8.wrap ((j : Int) / 256))] 5)).drew = W9 := ⟨_, rfl⟩
          rw [hW9] at HF9 HB9 c4' ⊢
          clear hW9
          obtain rfl | rfl : q = 1 ∨ q = 2 := by omega
          · have hans := fu_ack fpay 1 rfl (by omega) hjt
            have CA := Lib.hid (fanswer_any w.heap.size fp pb mb _ 4 ((j : Int) + 1) 0 W9 HF9.out (by decide) (by decide))
            rw [hans] at CA
            clear hans
            go_wp2_with (first | (refine wpList_buildTo rfl 37 _ rfl (some 136) rfl (ansA 4 ((j : Int) + 1) 0) (by kernel_rfl) ?_) | (fail))
            (with_reducible refine CA.out.mono ?_)
            rintro e w2 ⟨v2, rfl, h2, o2, r2⟩
            have H2 := Lib.hid h2
            have O2 := Lib.hid (o2.mono HB9.out.size)
            have R2 := Lib.hid (HB9.out.trans (r2.below.mono (Nat.le_refl _)))
            clear h2 o2 r2 CA c4'
            go_wp2
            go_roundw
            case rel => exact ⟨j + 1, by go_num, by omega, H2, O2, R2⟩
            case measure => simp [intOf]; omega
          · have hans := fu_rec fpay 2 rfl (by omega) hjt
            have CA := Lib.hid (fanswer_any w.heap.size fp pb mb _ 5 ((j : Int) + 1) 0 W9 HF9.out (by decide) (by decide))
            rw [hans] at CA
            clear hans
            go_wp2_with (first | (refine wpList_buildTo rfl 37 _ rfl (some 100) rfl (ansA 5 ((j : Int) + 1) 0) (by kernel_rfl) ?_) | (fail))
            (with_reducible refine CA.out.mono ?_)
            rintro e w2 ⟨v2, rfl, h2, o2, r2⟩
            have H2 := Lib.hid h2
            obtain ⟨g2, o2', cap2, pv2, rfl, _, _, _, hcl2⟩ := o2.at (i := 0) rfl
            have e0 := hcl2 0 _ rfl
            have e4 := hcl2 4 _ rfl
            simp only [Nat.zero_mul, Nat.add_zero, List.length_cons, List.length_nil, Nat.zero_add] at e0 e4 ⊢
            have R2 := Lib.hid (HB9.out.trans (r2.below.mono (Nat.le_refl _)))
            clear h2 o2 r2 CA c4' hcl2
            have hans := fu_comp fpay 2 rfl (by omega) hjt
            have CB := Lib.hid (fanswer_any w.heap.size fp pb mb _ 7 ((j : Int) + 1) 0 w2 H2.out (by decide) (by decide))
            rw [hans] at CB
            clear hans
            go_wp2_with (first | (refine wpList_buildTo rfl 37 _ rfl (some 129) rfl (ansA 7 ((j : Int) + 1) 0) (by kernel_rfl) ?_) | (fail))
            (with_reducible refine CB.out.mono ?_)
            rintro e w3 ⟨v3, rfl, h3, o3, r3⟩
            have H3 := Lib.hid h3
            have O3 := Lib.hid (o3.mono R2.out.size)
            have R3 := Lib.hid (R2.out.trans (r3.below.mono (Nat.le_refl _)))
            clear h3 o3 r3 CB e0 e4
            go_wp2
            go_roundw
            case rel => exact ⟨j + 1, by go_num, by omega, H3, O3, R3⟩
            case measure => simp [intOf]; omega
          -- region 19 done
        · obtain rfl : j = T := by omega
          have hout := hOj.out
          rw [fuO_end] at hout
          obtain ⟨aoz, capz, rfl⟩ := hout.form
          have hfl := hFj.out
          rw [fuA_end] at hfl
          have HFL := Lib.hid hfl
          clear hout hfl
          simp only [List.length_nil]
          go_wp2_with fail
          (with_reducible refine (flights_any w.heap.size fp pb mb _ _ HFL.out).mono ?_)
          rintro e w6 ⟨v6, rfl, ho6, hb6⟩
          obtain ⟨ao6, cap6, rfl⟩ := own_form ho6
          have H6 := Lib.hid (HFL.out.below hb6)
          have B6 := Lib.hid (hBj.out.trans (hb6.mono hBj.out.size))
          clear ho6 hb6
          go_wp2_with fail
          (with_reducible refine (waiting_any w.heap.size fp pb mb _ _ H6.out).mono ?_)
          rintro e w7 ⟨v7, rfl, ho7, hb7⟩
          obtain ⟨ao7, cap7, rfl⟩ := own_form ho7
          have B7 := Lib.hid (B6.out.trans (hb7.mono B6.out.size))
          clear ho7 hb7
          simp only [List.length_nil]
          go_wp2
          go_ret
          exact ⟨rfl, B7.out⟩
end Go.Proofs.Ytnclobnnnihpfaa
