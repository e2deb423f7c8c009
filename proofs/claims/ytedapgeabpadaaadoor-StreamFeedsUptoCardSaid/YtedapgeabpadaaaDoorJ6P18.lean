/- Parts of the proof, joined: RgO, RgT, RgX, RgF. -/
import Derived.Test.YtedapgeabpadaaaDoorJ6P17
import Derived.Deep.DeepCutAuto
import Derived.IntWalk
import Derived.Test.YtedapgeabpadaaaDoorJ6P12
import Derived.Test.YtedapgeabpadaaaDoorJ6P11
import Derived.Test.YtedapgeabpadaaaDoorJ6P10
import Derived.Laws.CopyOwn
set_option linter.unusedVariables false
set_option linter.unusedSimpArgs false
namespace Go.Proofs.YtedapgeabpadaaaDoor
open Go.RowKit Pl Go.PlainAid Go.Shelf

set_option maxHeartbeats 32000000 in
set_option maxRecDepth 100000 in
theorem dconn_any (B : Nat) (s : ByteArray) (t : Tt) (p : Pk) (m : Hs) (w : World) (hs : s.size ≤ 140737488351232) (hr : Rg s t) (hB : B ≤ w.heap.size) (hd : PkD B w p m) :
    Calls Tryd.prog 60 #[.agg (inA s t.1 t.2), .agg (pkA .i64 p m)] w (DwPost B w s (dConn s p t)) := by
  obtain ⟨a, c⟩ := t
  simp only
  have h0 := Dw.new s (a, c) p m hB hd
  obtain ⟨W, hW⟩ : ∃ W, (((w.alloc (.cells (inA s a c) 118)).alloc (.cells (pkA .i64 p m) 52)).alloc (.cells (inA eS 0 0) 118)).alloc (.cells (pkA .i64 zPk nHs) 52) = W := ⟨_, rfl⟩
  rw [hW] at h0
  have H0 := Lib.hid h0
  have HW := Lib.hid (show (((w.alloc (.cells (inA s a c) 118)).alloc (.cells (pkA .i64 p m) 52)).alloc (.cells #[.string ⟨#[]⟩, .int .i64 0, .int .i64 0] 118)).alloc (.cells #[.int .i64 0, .bool false, .bool false, .int .i64 0, .int .i64 0, .string ⟨#[]⟩, .string ⟨#[]⟩, .int .i64 0, .slice none 0 0, .slice none 0 0, .string ⟨#[]⟩, .bool false, .int .i64 0, .bool false, .string ⟨#[]⟩, .string ⟨#[]⟩, .int .i64 0, .bool false, .slice none 0 0, .bool false, .bool false, .string ⟨#[]⟩, .string ⟨#[]⟩, .bool false, .slice none 0 0, .slice none 0 0] 52) = W from hW)
  have HR0 : Hid (Rg s (a, c)) := Lib.hid hr
  clear h0 hW hd hr
  have hBh := hB
  go_enter Tryd.func60, Tryd.ntmps60
  have C1 := dtext' s (a, c) W hs HR0.out
  obtain ⟨⟨⟨a1, c1⟩, n⟩, e1⟩ : ∃ x, dText s (a, c) = x := ⟨_, rfl⟩
  rw [e1] at C1
  simp only at C1
  have C1 := Lib.hid C1
  have E1 := Lib.hid e1
  clear e1
  go_wp2_with (first | (rw [HW.out]) | (refine wpList_load_row rfl 118 (.tmp 2) rfl (w.heap.size) rfl 118 _ (0, 0) _ H0.out.r Tryd.underlying118 rfl in_size ?_) | (fail))
  refine C1.out.mono ?_
  rintro e w1 ⟨rfl, b1⟩
  have H1 := Lib.hid (H0.out.step b1)
  clear C1
  have HR1 : Hid (Rg s (a1, c1)) := Lib.hid (by have h := dText_rg HR0.out; rw [E1.out] at h; exact h)
  obtain ⟨Z2, hZ2⟩ : ∃ Z, w1.setRow w.heap.size (inA s a1 c1) = Z := ⟨_, rfl⟩
  have h := H1.out.put (a1, c1)
  simp only at h
  rw [hZ2] at h
  have H2 := Lib.hid h
  have HZ2 := Lib.hid hZ2
  clear h hZ2
  have r2 : Z2.cell? ⟨w.heap.size, 2, none⟩ = some (.int .i64 c1) := H2.out.r.cell 2
  obtain ⟨bb, hbb⟩ : ∃ b, decide (c1 = 0 ∧ n ≠ name5) = b := ⟨_, rfl⟩
  have HBB := Lib.hid hbb
  clear hbb
  go_upto_region 2 with (first | (refine wpList_store_rowN rfl 118 (.tmp 2) (.tmp 25) rfl rfl (w.heap.size) (inA s a1 c1) rfl rfl 118 (inA s a c) H1.out.r in_size rfl (in_one _ _ _) Z2 HZ2.out ?_) | (fail))
  go_cut [33] (fun v X => v = .bool bb ∧ Z2 = X)
  case first => as_aux_lemma =>
    by_cases hc : c1 = 0
    · have d1 : (c1 == 0) = true := by simpa using hc
      by_cases hn : n = name5
      · have d2 : (n.toList == [77, 81, 84, 84]) = true := by rw [hn, ByteArray.toList_eq]; rfl
        have d3 : (n.toList != [77, 81, 84, 84]) = false := by rw [bne, d2]; rfl
        have dd := Lib.hid (show decide (c1 = 0 ∧ n ≠ name5) = false from decide_eq_false (fun h => h.2 hn))
        clear hc hn
        go_wp2_with fail
        go_meet
        exact ⟨by rw [← HBB.out, dd.out], rfl⟩
      · have d2 : (n.toList == [77, 81, 84, 84]) = false := str_ne hn
        have d3 : (n.toList != [77, 81, 84, 84]) = true := by rw [bne, d2]; rfl
        have dd := Lib.hid (show decide (c1 = 0 ∧ n ≠ name5) = true from decide_eq_true ⟨hc, hn⟩)
        clear hc hn
        go_wp2_with fail
        go_meet
        exact ⟨by rw [← HBB.out, dd.out], rfl⟩
    · have d1 : (c1 == 0) = false := beq_eq_false_iff_ne.2 hc
      have dd := Lib.hid (show decide (c1 = 0 ∧ n ≠ name5) = false from decide_eq_false (fun h => hc h.1))
      clear hc
      go_wp2_with fail
      go_meet
      exact ⟨by rw [← HBB.out, dd.out], rfl⟩
  case rest =>
  obtain ⟨rfl, rfl⟩ := hcut
  clear r2
  go_upto_if 33 with fail
  go_cut [8] (fun _ X => ∃ c', Hid (con1 n (a1, c1) = (a1, c')) ∧ Hid (Dw B w s (a1, c') (p) (m) X))
  case first => as_aux_lemma =>
    cases bb
    · have hx : con1 n (a1, c1) = (a1, c1) := by
        have hcc := of_decide_eq_false HBB.out
        unfold con1; split
        · rename_i h; exact dFail_stk (fun c => hcc ⟨c, h⟩)
        · rfl
      have HX1 := Lib.hid hx
      clear hx
      go_wp2_with fail
      go_meet
      exact ⟨c1, HX1, H2⟩
    · have hf := dFail_pair a1 c1 129
      obtain ⟨cf, hcf⟩ : ∃ y, (dFail (a1, c1) 129).2 = y := ⟨_, rfl⟩
      rw [hcf] at hf
      have hx : con1 n (a1, c1) = (a1, cf) := by
        have hcc := of_decide_eq_true HBB.out
        unfold con1; rw [if_pos hcc.2]; exact hf
      have C := dfail' s (a1, c1) 129 Z2
      rw [hf] at C
      simp only at C
      have C := Lib.hid C
      have HX1 := Lib.hid hx
      clear hx hf hcf
      go_wp2_with (first | (refine wpList_load_row rfl 118 (.tmp 2) rfl (w.heap.size) rfl 118 _ (0, 0) _ H2.out.r Tryd.underlying118 rfl in_size ?_) | (fail))
      refine C.out.mono ?_
      rintro e wf ⟨rfl, bf⟩
      have h := (H2.out.step bf).put (a1, cf)
      simp only at h
      obtain ⟨Zf, hZf⟩ : ∃ Z, wf.setRow w.heap.size (inA s a1 cf) = Z := ⟨_, rfl⟩
      rw [hZf] at h
      have HF := Lib.hid (H2.out.step bf)
      have HF1 := Lib.hid h
      have HZF := Lib.hid hZf
      clear h hZf bf C
      go_wp2_with (first | (refine wpList_store_rowN rfl 118 (.tmp 2) (.tmp 35) rfl rfl (w.heap.size) (inA s a1 cf) rfl rfl 118 (inA s a1 c1) HF.out.r in_size rfl (in_one _ _ _) Zf HZF.out ?_) | (fail))
      go_meet
      exact ⟨cf, HX1, HF1⟩
  case rest =>
  obtain ⟨uc, uE, uD⟩ := hcut
  obtain ⟨uW, rfl⟩ : ∃ V, V = wc := ⟨_, rfl⟩
  have Q1 := Lib.hid (show dConn s p (a, c) = dVer s p (a1, uc) by unfold dConn; rw [E1.out]; simp only; rw [uE.out])
  have RU : Hid (Rg s (a1, uc)) := Lib.hid HR1.out
  clear uE
  have C3 := dnum' s 1 (a1, uc) uW hs RU.out
  obtain ⟨⟨⟨a2, c2⟩, v⟩, e3⟩ : ∃ x, dNum s 1 (a1, uc) = x := ⟨_, rfl⟩
  rw [e3] at C3
  simp only at C3
  have C3 := Lib.hid C3
  have E3 := Lib.hid e3
  clear e3
  go_wp2_with (first | (refine wpList_load_row rfl 118 (.tmp 2) rfl (w.heap.size) rfl 118 _ (0, 0) _ uD.out.r Tryd.underlying118 rfl in_size ?_) | (fail))
  refine C3.out.mono ?_
  rintro e w3 ⟨rfl, b3⟩
  have H3 := Lib.hid (uD.out.step b3)
  clear C3
  have HR3 : Hid (Rg s (a2, c2)) := Lib.hid (by have h := dNum_rg (k := 1) RU.out; rw [E3.out] at h; exact h)
  obtain ⟨Z4, hZ4⟩ : ∃ Z, w3.setRow w.heap.size (inA s a2 c2) = Z := ⟨_, rfl⟩
  have h := H3.out.put (a2, c2)
  simp only at h
  rw [hZ4] at h
  have H4 := Lib.hid h
  have HZ4 := Lib.hid hZ4
  clear h hZ4
  have r2 : Z4.cell? ⟨w.heap.size, 2, none⟩ = some (.int .i64 c2) := H4.out.r.cell 2
  obtain ⟨bb, hbb⟩ : ∃ b, decide (c2 = 0 ∧ v ≠ 5) = b := ⟨_, rfl⟩
  have HBB := Lib.hid hbb
  clear hbb
  go_upto_region 5 with (first | (refine wpList_store_rowN rfl 118 (.tmp 2) (.tmp 39) rfl rfl (w.heap.size) (inA s a2 c2) rfl rfl 118 (inA s a1 uc) H3.out.r in_size rfl (in_one _ _ _) Z4 HZ4.out ?_) | (fail))
  go_cut [47] (fun v X => v = .bool bb ∧ Z4 = X)
  case first => as_aux_lemma =>
    by_cases hc : c2 = 0
    · have d1 : (c2 == 0) = true := by simpa using hc
      by_cases hn : v = 5
      · have d2 : (v == 5) = true := by simpa using hn
        have d3 : (v != 5) = false := by rw [bne, d2]; rfl
        have dd := Lib.hid (show decide (c2 = 0 ∧ v ≠ 5) = false from decide_eq_false (fun h => h.2 hn))
        clear hc hn
        go_wp2_with fail
        go_meet
        exact ⟨by rw [← HBB.out, dd.out], rfl⟩
      · have d2 : (v == 5) = false := beq_eq_false_iff_ne.2 hn
        have d3 : (v != 5) = true := by rw [bne, d2]; rfl
        have dd := Lib.hid (show decide (c2 = 0 ∧ v ≠ 5) = true from decide_eq_true ⟨hc, hn⟩)
        clear hc hn
        go_wp2_with fail
        go_meet
        exact ⟨by rw [← HBB.out, dd.out], rfl⟩
    · have d1 : (c2 == 0) = false := beq_eq_false_iff_ne.2 hc
      have dd := Lib.hid (show decide (c2 = 0 ∧ v ≠ 5) = false from decide_eq_false (fun h => hc h.1))
      clear hc
      go_wp2_with fail
      go_meet
      exact ⟨by rw [← HBB.out, dd.out], rfl⟩
  case rest =>
  obtain ⟨rfl, rfl⟩ := hcut
  clear r2
  go_upto_if 47 with fail
  go_cut [9] (fun _ X => ∃ c', Hid (con2 v (a2, c2) = (a2, c')) ∧ Hid (Dw B w s (a2, c') (p) (m) X))
  case first => as_aux_lemma =>
    cases bb
    · have hx : con2 v (a2, c2) = (a2, c2) := by
        have hcc := of_decide_eq_false HBB.out
        unfold con2; split
        · rename_i h; exact dFail_stk (fun c => hcc ⟨c, h⟩)
        · rfl
      have HX1 := Lib.hid hx
      clear hx
      go_wp2_with fail
      go_meet
      exact ⟨c2, HX1, H4⟩
    · have hf := dFail_pair a2 c2 132
      obtain ⟨cf, hcf⟩ : ∃ y, (dFail (a2, c2) 132).2 = y := ⟨_, rfl⟩
      rw [hcf] at hf
      have hx : con2 v (a2, c2) = (a2, cf) := by
        have hcc := of_decide_eq_true HBB.out
        unfold con2; rw [if_pos hcc.2]; exact hf
      have C := dfail' s (a2, c2) 132 Z4
      rw [hf] at C
      simp only at C
      have C := Lib.hid C
      have HX1 := Lib.hid hx
      clear hx hf hcf
      go_wp2_with (first | (refine wpList_load_row rfl 118 (.tmp 2) rfl (w.heap.size) rfl 118 _ (0, 0) _ H4.out.r Tryd.underlying118 rfl in_size ?_) | (fail))
      refine C.out.mono ?_
      rintro e wf ⟨rfl, bf⟩
      have h := (H4.out.step bf).put (a2, cf)
      simp only at h
      obtain ⟨Zf, hZf⟩ : ∃ Z, wf.setRow w.heap.size (inA s a2 cf) = Z := ⟨_, rfl⟩
      rw [hZf] at h
      have HF := Lib.hid (H4.out.step bf)
      have HF1 := Lib.hid h
      have HZF := Lib.hid hZf
      clear h hZf bf C
      go_wp2_with (first | (refine wpList_store_rowN rfl 118 (.tmp 2) (.tmp 49) rfl rfl (w.heap.size) (inA s a2 cf) rfl rfl 118 (inA s a2 c2) HF.out.r in_size rfl (in_one _ _ _) Zf HZF.out ?_) | (fail))
      go_meet
      exact ⟨cf, HX1, HF1⟩
  case rest =>
  obtain ⟨xc, xE, xD⟩ := hcut
  obtain ⟨xW, rfl⟩ : ∃ V, V = wc := ⟨_, rfl⟩
  have Q2 := Lib.hid (show dConn s p (a, c) = dFl s p (a2, xc) by rw [Q1.out]; unfold dVer; rw [E3.out]; simp only; rw [xE.out])
  have RX : Hid (Rg s (a2, xc)) := Lib.hid HR3.out
  clear xE Q1
  have hfb := dNum_bd1 s (a2, xc)
  have C5 := dnum' s 1 (a2, xc) xW hs RX.out
  obtain ⟨⟨⟨a3, c3⟩, f⟩, e5⟩ : ∃ x, dNum s 1 (a2, xc) = x := ⟨_, rfl⟩
  rw [e5] at C5
  simp only at C5
  have C5 := Lib.hid C5
  have E5 := Lib.hid e5
  clear e5
  go_wp2_with (first | (refine wpList_load_row rfl 118 (.tmp 2) rfl (w.heap.size) rfl 118 _ (0, 0) _ xD.out.r Tryd.underlying118 rfl in_size ?_) | (fail))
  refine C5.out.mono ?_
  rw [E5.out] at hfb
  simp only at hfb
  obtain ⟨hf0, hf1⟩ := hfb
  rintro e w5 ⟨rfl, b5⟩
  have H5 := Lib.hid (xD.out.step b5)
  clear C5
  have HR5 : Hid (Rg s (a3, c3)) := Lib.hid (by have h := dNum_rg (k := 1) RX.out; rw [E5.out] at h; exact h)
  obtain ⟨Z6, hZ6⟩ : ∃ Z, w5.setRow w.heap.size (inA s a3 c3) = Z := ⟨_, rfl⟩
  have h := H5.out.put (a3, c3)
  simp only at h
  rw [hZ6] at h
  have H6 := Lib.hid h
  have HZ6 := Lib.hid hZ6
  clear h hZ6
  obtain ⟨bcl, hbcl⟩ : ∃ y, decide (f / 2 % 2 = 1) = y := ⟨_, rfl⟩
  have CK := isset_any f 2 Z6 hf0 hf1 (by decide) (by decide)
  rw [hbcl] at CK
  have CK := Lib.hid CK
  have HBcl := Lib.hid hbcl
  clear hbcl
  go_wp2_with (first | (refine wpList_store_rowN rfl 118 (.tmp 2) (.tmp 53) rfl rfl (w.heap.size) (inA s a3 c3) rfl rfl 118 (inA s a2 xc) H5.out.r in_size rfl (in_one _ _ _) Z6 HZ6.out ?_) | (fail))
  refine CK.out.mono ?_
  rintro e wk ⟨rfl, rfl⟩
  clear CK
  have g11 := H6.out.k.cell 11
  have q11 := H6.out.k.frozen 11
  simp only [pkA, List.getElem?_toArray, List.getElem?_cons_zero, List.getElem?_cons_succ] at g11
  obtain ⟨Y7, hY7⟩ : ∃ Y, Z6.setCell ⟨w.heap.size + 1, 11, none⟩ (.bool bcl) = Y := ⟨_, rfl⟩
  have h := H6.out.set 11 (.bool bcl) (({ p with clean := bcl } : Pk)) (m) rfl (H6.out.d.keep ⟨rfl, rfl, rfl, rfl, rfl⟩)
  rw [hY7] at h
  have H7 := Lib.hid h
  clear h
  obtain ⟨bhw, hbhw⟩ : ∃ y, decide (f / 4 % 2 = 1) = y := ⟨_, rfl⟩
  have CK := isset_any f 4 Y7 hf0 hf1 (by decide) (by decide)
  rw [hbhw] at CK
  have CK := Lib.hid CK
  have HBhw := Lib.hid hbhw
  clear hbhw
  go_wp2_with (first | (fail))
  refine CK.out.mono ?_
  rintro e wk ⟨rfl, rfl⟩
  clear CK
  have g13 := H7.out.k.cell 13
  have q13 := H7.out.k.frozen 13
  simp only [pkA, List.getElem?_toArray, List.getElem?_cons_zero, List.getElem?_cons_succ] at g13
  obtain ⟨Y8, hY8⟩ : ∃ Y, Y7.setCell ⟨w.heap.size + 1, 13, none⟩ (.bool bhw) = Y := ⟨_, rfl⟩
  have h := H7.out.set 13 (.bool bhw) (({ ({ p with clean := bcl } : Pk) with hasWill := bhw } : Pk)) (m) rfl (H7.out.d.keep ⟨rfl, rfl, rfl, rfl, rfl⟩)
  rw [hY8] at h
  have H8 := Lib.hid h
  clear h
  obtain ⟨bwr, hbwr⟩ : ∃ y, decide (f / 32 % 2 = 1) = y := ⟨_, rfl⟩
  have CK := isset_any f 32 Y8 hf0 hf1 (by decide) (by decide)
  rw [hbwr] at CK
  have CK := Lib.hid CK
  have HBwr := Lib.hid hbwr
  clear hbwr
  go_wp2_with (first | (fail))
  refine CK.out.mono ?_
  rintro e wk ⟨rfl, rfl⟩
  clear CK
  have g17 := H8.out.k.cell 17
  have q17 := H8.out.k.frozen 17
  simp only [pkA, List.getElem?_toArray, List.getElem?_cons_zero, List.getElem?_cons_succ] at g17
  obtain ⟨Y9, hY9⟩ : ∃ Y, Y8.setCell ⟨w.heap.size + 1, 17, none⟩ (.bool bwr) = Y := ⟨_, rfl⟩
  have h := H8.out.set 17 (.bool bwr) (({ ({ ({ p with clean := bcl } : Pk) with hasWill := bhw } : Pk) with wr := bwr } : Pk)) (m) rfl (H8.out.d.keep ⟨rfl, rfl, rfl, rfl, rfl⟩)
  rw [hY9] at h
  have H9 := Lib.hid h
  clear h
  obtain ⟨bhp, hbhp⟩ : ∃ y, decide (f / 64 % 2 = 1) = y := ⟨_, rfl⟩
  have CK := isset_any f 64 Y9 hf0 hf1 (by decide) (by decide)
  rw [hbhp] at CK
  have CK := Lib.hid CK
  have HBhp := Lib.hid hbhp
  clear hbhp
  go_wp2_with (first | (fail))
  refine CK.out.mono ?_
  rintro e wk ⟨rfl, rfl⟩
  clear CK
  have g20 := H9.out.k.cell 20
  have q20 := H9.out.k.frozen 20
  simp only [pkA, List.getElem?_toArray, List.getElem?_cons_zero, List.getElem?_cons_succ] at g20
  obtain ⟨Y10, hY10⟩ : ∃ Y, Y9.setCell ⟨w.heap.size + 1, 20, none⟩ (.bool bhp) = Y := ⟨_, rfl⟩
  have h := H9.out.set 20 (.bool bhp) (({ ({ ({ ({ p with clean := bcl } : Pk) with hasWill := bhw } : Pk) with wr := bwr } : Pk) with hasPass := bhp } : Pk)) (m) rfl (H9.out.d.keep ⟨rfl, rfl, rfl, rfl, rfl⟩)
  rw [hY10] at h
  have H10 := Lib.hid h
  clear h
  obtain ⟨bhu, hbhu⟩ : ∃ y, decide (f / 128 % 2 = 1) = y := ⟨_, rfl⟩
  have CK := isset_any f 128 Y10 hf0 hf1 (by decide) (by decide)
  rw [hbhu] at CK
  have CK := Lib.hid CK
  have HBhu := Lib.hid hbhu
  clear hbhu
  go_wp2_with (first | (fail))
  refine CK.out.mono ?_
  rintro e wk ⟨rfl, rfl⟩
  clear CK
  have g19 := H10.out.k.cell 19
  have q19 := H10.out.k.frozen 19
  simp only [pkA, List.getElem?_toArray, List.getElem?_cons_zero, List.getElem?_cons_succ] at g19
  obtain ⟨Y11, hY11⟩ : ∃ Y, Y10.setCell ⟨w.heap.size + 1, 19, none⟩ (.bool bhu) = Y := ⟨_, rfl⟩
  have h := H10.out.set 19 (.bool bhu) (({ ({ ({ ({ ({ p with clean := bcl } : Pk) with hasWill := bhw } : Pk) with wr := bwr } : Pk) with hasPass := bhp } : Pk) with hasUser := bhu } : Pk)) (m) rfl (H10.out.d.keep ⟨rfl, rfl, rfl, rfl, rfl⟩)
  rw [hY11] at h
  have H11 := Lib.hid h
  clear h
  obtain ⟨q, hq⟩ : ∃ q, f / 8 % 4 = q := ⟨_, rfl⟩
  have q8 : f.tdiv 8 = f / 8 := Int.tdiv_eq_ediv_of_nonneg hf0
  have m8 : (f / 8).tmod 4 = q := by rw [Int.tmod_eq_emod_of_nonneg (by omega), hq]
  obtain ⟨e2, he2⟩ : ∃ q, f % 2 = q := ⟨_, rfl⟩
  have m2 : f.tmod 2 = e2 := by rw [Int.tmod_eq_emod_of_nonneg hf0, he2]
  have HQ := Lib.hid hq
  have HE2 := Lib.hid he2
  clear hq he2
  have g16 := H11.out.k.cell 16
  have q16 := H11.out.k.frozen 16
  simp only [pkA, List.getElem?_toArray, List.getElem?_cons_zero, List.getElem?_cons_succ] at g16
  obtain ⟨Y12, hY12⟩ : ∃ Y, Y11.setCell ⟨w.heap.size + 1, 16, none⟩ (.int .i64 q) = Y := ⟨_, rfl⟩
  have h := H11.out.set 16 (.int .i64 q) (({ ({ ({ ({ ({ ({ p with clean := bcl } : Pk) with hasWill := bhw } : Pk) with wr := bwr } : Pk) with hasPass := bhp } : Pk) with hasUser := bhu } : Pk) with wq := q } : Pk)) (m) rfl (H11.out.d.keep ⟨rfl, rfl, rfl, rfl, rfl⟩)
  rw [hY12] at h
  have H12 := Lib.hid h
  clear h
  have hcs : cSet p f = ({ ({ ({ ({ ({ ({ p with clean := bcl } : Pk) with hasWill := bhw } : Pk) with wr := bwr } : Pk) with hasPass := bhp } : Pk) with hasUser := bhu } : Pk) with wq := q } : Pk) := by unfold cSet; rw [HBcl.out, HBhw.out, HBwr.out, HBhp.out, HBhu.out, HQ.out]
  have k13 : Y12.cell? ⟨w.heap.size + 1, 13, none⟩ = some (.bool bhw) := H12.out.k.cell 13
  have k16 : Y12.cell? ⟨w.heap.size + 1, 16, none⟩ = some (.int .i64 q) := H12.out.k.cell 16
  have k17 : Y12.cell? ⟨w.heap.size + 1, 17, none⟩ = some (.bool bwr) := H12.out.k.cell 17
  have hw1 : (cSet p f).hasWill = bhw := by rw [hcs]
  have HP := H12
  rw [← hcs] at HP
  obtain ⟨p1, hp1⟩ : ∃ y, cSet p f = y := ⟨_, rfl⟩
  rw [hp1] at HP hw1
  have HP1 := Lib.hid hp1
  have HW1 := Lib.hid hw1
  clear hcs hp1 hw1
  obtain ⟨bb, hbb⟩ : ∃ b, decide (badFl f) = b := ⟨_, rfl⟩
  have HBB := Lib.hid hbb
  clear hbb
  go_upto_region 14 with (first | (fail))
  go_cut [100] (fun v X => v = .bool bb ∧ Y12 = X)
  case first => as_aux_lemma =>
    by_cases h1 : e2 = 1
    · have d1 : (e2 == 1) = true := by simpa using h1
      have H1 := Lib.hid h1
      clear h1
      have dd := Lib.hid (show decide (badFl f) = true from decide_eq_true (by unfold badFl; have h1 := HE2.out; have h2 := HQ.out; have h5 := H1.out; omega))
      go_wp2_with fail
      go_meet
      exact ⟨by rw [← HBB.out, dd.out], rfl⟩
    have d1 : (e2 == 1) = false := beq_eq_false_iff_ne.2 h1
    have H1 := Lib.hid h1
    clear h1
    by_cases h2 : q = 3
    · have d2 : (q == 3) = true := by simpa using h2
      have H2 := Lib.hid h2
      clear h2
      have dd := Lib.hid (show decide (badFl f) = true from decide_eq_true (by unfold badFl; have h1 := HE2.out; have h2 := HQ.out; have h5 := H2.out; omega))
      go_wp2_with fail
      go_meet
      exact ⟨by rw [← HBB.out, dd.out], rfl⟩
    have d2 : (q == 3) = false := beq_eq_false_iff_ne.2 h2
    have H2 := Lib.hid h2
    clear h2
    cases bhw
    · by_cases h3 : 0 < q
      · have d3 : decide (0 < q) = true := by simpa using h3
        have H3 := Lib.hid h3
        clear h3
        have dd := Lib.hid (show decide (badFl f) = true from decide_eq_true (by unfold badFl; have h1 := HE2.out; have h2 := HQ.out; have h3 := HBhw.out; have h4 := HBwr.out; simp only [decide_eq_true_eq, decide_eq_false_iff_not] at h3 h4; have h5 := H3.out; omega))
        go_wp2_with fail
        go_meet
        exact ⟨by rw [← HBB.out, dd.out], rfl⟩
      have d3 : decide (0 < q) = false := by simpa using h3
      have H3 := Lib.hid h3
      clear h3
      cases bwr
      · skip
        have dd := Lib.hid (show decide (badFl f) = false from decide_eq_false (by unfold badFl; have h1 := HE2.out; have h2 := HQ.out; have h3 := HBhw.out; have h4 := HBwr.out; simp only [decide_eq_true_eq, decide_eq_false_iff_not] at h3 h4; have h5 := H1.out; have h6 := H2.out; have h7 := H3.out; omega))
        go_wp2_with fail
        go_meet
        exact ⟨by rw [← HBB.out, dd.out], rfl⟩
      · skip
        have dd := Lib.hid (show decide (badFl f) = true from decide_eq_true (by unfold badFl; have h1 := HE2.out; have h2 := HQ.out; have h3 := HBhw.out; have h4 := HBwr.out; simp only [decide_eq_true_eq, decide_eq_false_iff_not] at h3 h4; have h5 := H1.out; have h6 := H2.out; have h7 := H3.out; omega))
        go_wp2_with fail
        go_meet
        exact ⟨by rw [← HBB.out, dd.out], rfl⟩
    · skip
      have dd := Lib.hid (show decide (badFl f) = false from decide_eq_false (by unfold badFl; have h1 := HE2.out; have h2 := HQ.out; have h3 := HBhw.out; simp only [decide_eq_true_eq] at h3; have h5 := H1.out; have h6 := H2.out; omega))
      go_wp2_with fail
      go_meet
      exact ⟨by rw [← HBB.out, dd.out], rfl⟩
  case rest =>
  obtain ⟨rfl, rfl⟩ := hcut
  clear k13 k16 k17
  go_upto_if 100 with fail
  go_cut [9] (fun _ X => ∃ c', Hid (con3 f (a3, c3) = (a3, c')) ∧ Hid (Dw B w s (a3, c') (p1) (m) X))
  case first => as_aux_lemma =>
    cases bb
    · have hx : con3 f (a3, c3) = (a3, c3) := by
        have hcc := of_decide_eq_false HBB.out
        unfold con3; rw [if_neg hcc]
      have HX1 := Lib.hid hx
      clear hx
      go_wp2_with fail
      go_meet
      exact ⟨c3, HX1, HP⟩
    · have hf := dFail_pair a3 c3 129
      obtain ⟨cf, hcf⟩ : ∃ y, (dFail (a3, c3) 129).2 = y := ⟨_, rfl⟩
      rw [hcf] at hf
      have hx : con3 f (a3, c3) = (a3, cf) := by
        have hcc := of_decide_eq_true HBB.out
        unfold con3; rw [if_pos hcc]; exact hf
      have C := dfail' s (a3, c3) 129 Y12
      rw [hf] at C
      simp only at C
      have C := Lib.hid C
      have HX1 := Lib.hid hx
      clear hx hf hcf
      go_wp2_with (first | (refine wpList_load_row rfl 118 (.tmp 2) rfl (w.heap.size) rfl 118 _ (0, 0) _ HP.out.r Tryd.underlying118 rfl in_size ?_) | (fail))
      refine C.out.mono ?_
      rintro e wf ⟨rfl, bf⟩
      have h := (HP.out.step bf).put (a3, cf)
      simp only at h
      obtain ⟨Zf, hZf⟩ : ∃ Z, wf.setRow w.heap.size (inA s a3 cf) = Z := ⟨_, rfl⟩
      rw [hZf] at h
      have HF := Lib.hid (HP.out.step bf)
      have HF1 := Lib.hid h
      have HZF := Lib.hid hZf
      clear h hZf bf C
      go_wp2_with (first | (refine wpList_store_rowN rfl 118 (.tmp 2) (.tmp 102) rfl rfl (w.heap.size) (inA s a3 cf) rfl rfl 118 (inA s a3 c3) HF.out.r in_size rfl (in_one _ _ _) Zf HZF.out ?_) | (fail))
      go_meet
      exact ⟨cf, HX1, HF1⟩
  case rest =>
  obtain ⟨yc, yE, yD⟩ := hcut
  have Q3 := Lib.hid (show dConn s p (a, c) = dKeep s p1 (a3, yc) by rw [Q2.out]; unfold dFl; rw [E5.out]; simp only; rw [HP1.out, yE.out])
  have RY : Hid (Rg s (a3, yc)) := Lib.hid HR5.out
  exact ‹∀ a w', Code.wp _ _ _ a w' → _› _ _ (dcon_B B s a3 yc p1 m w _ _ hs hBh Q3 yD RY)
end Go.Proofs.YtedapgeabpadaaaDoor

set_option linter.unusedVariables false
set_option linter.unusedSimpArgs false
namespace Go.Proofs.YtedapgeabpadaaaDoor
open Go.RowKit Pl Go.PlainAid Go.Shelf

set_option maxHeartbeats 8000000 in
set_option maxRecDepth 100000 in
theorem dbody_1 (B : Nat) (s : ByteArray) (t : Tt) (p : Pk) (m : Hs) (w : World) (hs : s.size ≤ 140737488351232) (hr : Rg s t) (hB : B ≤ w.heap.size) (hd : PkD B w p m) (hk : p.kind = 1) :
    Calls Tryd.prog 39 #[.agg (inA s t.1 t.2), .agg (pkA .i64 p m)] w (DwPost B w s (dKind s p t)) := by
  have EK := Lib.hid (show dKind s p t = dConn s p t by unfold dKind; rw [if_pos (by omega)])
  have t1 : (p.kind == 1) = true := by rw [hk]; rfl
  obtain ⟨a, c⟩ := t
  simp only
  have h0 := Dw.new s (a, c) p m hB hd
  obtain ⟨W, hW⟩ : ∃ W, (((w.alloc (.cells (inA s a c) 118)).alloc (.cells (pkA .i64 p m) 52)).alloc (.cells (inA eS 0 0) 118)).alloc (.cells (pkA .i64 zPk nHs) 52) = W := ⟨_, rfl⟩
  rw [hW] at h0
  have H0 := Lib.hid h0
  have HW := Lib.hid (show (((w.alloc (.cells (inA s a c) 118)).alloc (.cells (pkA .i64 p m) 52)).alloc (.cells #[.string ⟨#[]⟩, .int .i64 0, .int .i64 0] 118)).alloc (.cells #[.int .i64 0, .bool false, .bool false, .int .i64 0, .int .i64 0, .string ⟨#[]⟩, .string ⟨#[]⟩, .int .i64 0, .slice none 0 0, .slice none 0 0, .string ⟨#[]⟩, .bool false, .int .i64 0, .bool false, .string ⟨#[]⟩, .string ⟨#[]⟩, .int .i64 0, .bool false, .slice none 0 0, .bool false, .bool false, .string ⟨#[]⟩, .string ⟨#[]⟩, .bool false, .slice none 0 0, .slice none 0 0] 52) = W from hW)
  have HR0 : Hid (Rg s (a, c)) := Lib.hid hr
  clear h0 hW hd hr
  have k0 : W.cell? ⟨w.heap.size + 1, 0, none⟩ = some (.int .i64 p.kind) := H0.out.k.cell 0
  clear hk
  go_enter Tryd.func39, Tryd.ntmps39
  have C1 := dconn_any B s (a, c) p m W hs HR0.out (Nat.le_trans hB H0.out.bl.size) H0.out.d
  obtain ⟨⟨⟨a9, c9⟩, p9⟩, e1⟩ : ∃ x, dConn s p (a, c) = x := ⟨_, rfl⟩
  rw [e1] at C1
  have C1 := Lib.hid C1
  have E1 := Lib.hid e1
  clear e1
  go_wp2_with (first | (rw [HW.out]) | (refine wpList_load_row rfl 118 (.tmp 2) rfl (w.heap.size) rfl 118 _ (0, 0) _ H0.out.r Tryd.underlying118 rfl in_size ?_) | (refine wpList_load_row rfl 52 (.tmp 3) rfl (w.heap.size + 1) rfl 52 _ (0, 0) _ H0.out.k Tryd.underlying52 rfl dpk_size ?_) | (fail))
  refine C1.out.mono ?_
  rintro e w1 ⟨mr, rfl, hdr, b1⟩
  simp only at hdr ⊢
  have hst := H0.out.step b1
  have hrc := hst.retc (u := (a9, c9)) hdr (Nat.le_refl _)
  simp only at hrc
  obtain ⟨Za, hZa⟩ : ∃ Z, w1.setRow (w.heap.size + 2) (inA s a9 c9) = Z := ⟨_, rfl⟩
  rw [hZa] at hrc
  obtain ⟨Zb, hZb⟩ : ∃ Z, Za.setRow (w.heap.size + 3) (pkA .i64 p9 mr) = Z := ⟨_, rfl⟩
  rw [hZb] at hrc
  have HRC := Lib.hid hrc
  have HST := Lib.hid hst
  have HZa := Lib.hid hZa
  have HZb := Lib.hid hZb
  clear hrc hst hZa hZb hdr b1 C1
  go_wp2_with (first | (refine wpList_store_rowN rfl 118 (.tmp 4) (.tmp 27) rfl rfl (w.heap.size + 2) (inA s a9 c9) rfl rfl 118 (inA eS 0 0) HST.out.q in_size rfl (in_one _ _ _) Za HZa.out ?_) | (refine wpList_store_rowN rfl 52 (.tmp 5) (.tmp 28) rfl rfl (w.heap.size + 3) (pkA .i64 p9 mr) rfl rfl 52 (pkA .i64 zPk nHs) HRC.out.1 dpk_size rfl (dpk_one _ _) Zb HZb.out ?_) | (fail))
  refine bodyPost_ret (v := .tuple #[.agg (inA s a9 c9), .agg (pkA .i64 p9 mr)]) (results_two_rows (P := Tryd.prog) (t1 := 4) (t2 := 5) (ty1 := 118) (ty2 := 52) (by kernel_rfl) _ _ (w.heap.size + 2) (w.heap.size + 3) 118 52 _ _ _ _ rfl rfl HRC.out.2.1 HRC.out.2.2.1 Tryd.underlying118 rfl in_size Tryd.underlying52 rfl dpk_size) rfl ?_
  exact dwPost_mk (a := a9) (c := c9) (p := p9) (m := mr) (by rw [EK.out, E1.out]) HRC.out.2.2.2.1 HRC.out.2.2.2.2
theorem dbody_any (B : Nat) (s : ByteArray) (t : Tt) (p : Pk) (m : Hs) (w : World) (hs : s.size ≤ 140737488351232) (hr : Rg s t) (hB : B ≤ w.heap.size) (hd : PkD B w p m) (hz : p.codes = [] ∧ p.subs = [] ∧ p.filters = []) (hm : m.c = nHd ∧ m.s = nHd ∧ m.f = nHd) :
    Calls Tryd.prog 39 #[.agg (inA s t.1 t.2), .agg (pkA .i64 p m)] w (DwPost B w s (dKind s p t)) := by
  by_cases h1 : p.kind = 1
  · exact dbody_1 B s t p m w hs hr hB hd h1
  by_cases h2 : p.kind = 2
  · exact dbody_2 B s t p m w hs hr hB hd h2
  by_cases h3 : p.kind = 3
  · exact dbody_3 B s t p m w hs hr hB hd h3
  by_cases h4 : p.kind = 4
  · exact dbody_4 B s t p m w hs hr hB hd h4
  by_cases h5 : p.kind = 5
  · exact dbody_5 B s t p m w hs hr hB hd h5
  by_cases h6 : p.kind = 6
  · exact dbody_6 B s t p m w hs hr hB hd h6
  by_cases h7 : p.kind = 7
  · exact dbody_7 B s t p m w hs hr hB hd h7
  by_cases h8 : p.kind = 8
  · exact dbody_8 B s t p m w hs hr hB hd hz hm h8
  by_cases h9 : p.kind = 9
  · exact dbody_9 B s t p m w hs hr hB hd hz hm h9
  by_cases h10 : p.kind = 10
  · exact dbody_10 B s t p m w hs hr hB hd hz hm h10
  by_cases h11 : p.kind = 11
  · exact dbody_11 B s t p m w hs hr hB hd hz hm h11
  by_cases h14 : p.kind = 14
  · exact dbody_14 B s t p m w hs hr hB hd h14
  by_cases h15 : p.kind = 15
  · exact dbody_15 B s t p m w hs hr hB hd h15
  exact dbody_o B s t p m w hs hr hB hd ⟨⟨h1, h2, h3, h4, h5, h6, h7⟩, ⟨h8, h9, h10, h11, h14, h15⟩⟩
end Go.Proofs.YtedapgeabpadaaaDoor

set_option linter.unusedVariables false
set_option linter.unusedSimpArgs false
namespace Go.Proofs.YtedapgeabpadaaaDoor
open Go.RowKit Pl Go.PlainAid Go.Shelf

/-- The worlds of Get's head. -/
theorem dg_worlds (w : World) (k : Int) (W C D E : World) (hW : (w.alloc (.cells (pkA .i64 zPk nHs) 52)).alloc (.cells (pkA .i64 zPk nHs) 52) = W) (hC : W.setRow (w.heap.size + 1) (pkA .i64 zPk nHs) = C) (hD : C.alloc (.cells (pkA .i64 zPk nHs) 52) = D) (hE : D.setRow (w.heap.size + 2) (pkA .i64 { zPk with kind := k } nHs) = E) :
    Blk W (w.heap.size + 1) (pkA .i64 zPk nHs) 52 ∧ C.heap.size = w.heap.size + 2 ∧ Blk D (w.heap.size + 2) (pkA .i64 zPk nHs) 52 ∧ Dg w (w.heap.size + 1) (w.heap.size + 2) { zPk with kind := k } E := by
  have b0 := (Below.refl w.heap.size w).alloc (Nat.le_refl _) (.cells (pkA .i64 zPk nHs) 52)
  have k0 := (blkAt w (pkA .i64 zPk nHs) 52 rfl).alloc (.cells (pkA .i64 zPk nHs) 52)
  have k1 := blkAt (w.alloc (.cells (pkA .i64 zPk nHs) 52)) (pkA .i64 zPk nHs) 52 (b := w.heap.size + 1) (by simp)
  have b1 := b0.alloc b0.size (.cells (pkA .i64 zPk nHs) 52)
  rw [hW] at k0 k1 b1
  have sz : W.heap.size = w.heap.size + 2 := by rw [← hW]; simp
  have k0' := k0.row1 (g' := w.heap.size + 1) (by omega) (pkA .i64 zPk nHs)
  have k1' := k1.row0 (pkA .i64 zPk nHs)
  have b2 := below_setRow (g := w.heap.size + 1) b1 (by omega) (pkA .i64 zPk nHs)
  have sc : (W.setRow (w.heap.size + 1) (pkA .i64 zPk nHs)).heap.size = w.heap.size + 2 := by rw [← sz]; simp [World.setRow]
  rw [hC] at k0' k1' b2 sc
  have k2 := blkAt C (pkA .i64 zPk nHs) 52 (b := w.heap.size + 2) sc.symm
  have k0'' := k0'.alloc (.cells (pkA .i64 zPk nHs) 52)
  have k1'' := k1'.alloc (.cells (pkA .i64 zPk nHs) 52)
  have b3 := b2.alloc b2.size (.cells (pkA .i64 zPk nHs) 52)
  rw [hD] at k2 k0'' k1'' b3
  subst hE
  exact ⟨k1, sc, k2, below_setRow b3 (by omega) _, k0''.row1 (by omega) _, k1''.row1 (by omega) _, k2.row0 _, by omega⟩
theorem Dg.set {w X : World} {gn gk : Nat} {p p' : Pk} (h : Dg w gn gk p X) (hk : gk ≠ w.heap.size) (hn : gn ≠ gk) (hl : w.heap.size ≤ gk) (i : Nat) (v : Value) (e : (pkA .i64 p nHs).setIfInBounds i v = pkA .i64 p' nHs) : Dg w gn gk p' (X.setCell ⟨gk, i, none⟩ v) :=
  ⟨h.bl.setCell (by show w.heap.size ≤ gk; exact hl) v, h.r.other (Ne.symm hk) i v, h.n.other hn i v, by rw [← e]; exact h.k.set i v, h.ng⟩
set_option maxHeartbeats 8000000 in
set_option maxRecDepth 100000 in
theorem dget_0 (s : ByteArray) (w : World) (h0 : s.size = 0) : Calls Tryd.prog 19 #[.string s] w (DgPost w (zPk, 242)) := by
  obtain ⟨k, hk⟩ : ∃ k : Int, 0 = k := ⟨_, rfl⟩
  obtain ⟨W, hW⟩ : ∃ W, (w.alloc (.cells (pkA .i64 zPk nHs) 52)).alloc (.cells (pkA .i64 zPk nHs) 52) = W := ⟨_, rfl⟩
  obtain ⟨C, hC⟩ : ∃ C, W.setRow (w.heap.size + 1) (pkA .i64 zPk nHs) = C := ⟨_, rfl⟩
  obtain ⟨D, hD⟩ : ∃ D, C.alloc (.cells (pkA .i64 zPk nHs) 52) = D := ⟨_, rfl⟩
  obtain ⟨E, hE⟩ : ∃ E, D.setRow (w.heap.size + 2) (pkA .i64 { zPk with kind := k } nHs) = E := ⟨_, rfl⟩
  obtain ⟨B1, hsz, B2, hG⟩ := dg_worlds w k W C D E hW hC hD hE
  rw [zpk_i64] at hW hD
  have HW := Lib.hid hW
  have HC := Lib.hid hC
  have HD := Lib.hid hD
  have HE := Lib.hid hE
  have HB1 := Lib.hid B1
  have HB2 := Lib.hid B2
  have HG := Lib.hid hG
  have k0 : E.cell? ⟨w.heap.size + 2, 0, none⟩ = some (.int .i64 k) := hG.k.cell 0
  obtain ⟨Z, hZ, hZr, hZb⟩ := hG.nil
  have HZ := Lib.hid hZ
  have HZR := Lib.hid hZr
  have HZB := Lib.hid hZb
  clear hW hC hD hE B1 B2 hG hZ hZr hZb
  have hW2 := (HW.out)
  obtain ⟨Y, hY⟩ : ∃ Y, C.setRow w.heap.size (pkA .i64 zPk nHs) = Y := ⟨_, rfl⟩
  have hc : Dg w (w.heap.size + 1) (w.heap.size + 1) zPk C := by
    have b0 := (Below.refl w.heap.size w).alloc (Nat.le_refl _) (.cells (pkA .i64 zPk nHs) 52)
    have q0 := (blkAt w (pkA .i64 zPk nHs) 52 rfl).alloc (.cells (pkA .i64 zPk nHs) 52)
    have b1 := b0.alloc b0.size (.cells (pkA .i64 zPk nHs) 52)
    rw [zpk_i64] at q0 b1
    rw [hW2] at q0 b1
    rw [← HC.out]
    exact ⟨below_setRow b1 (by omega) _, q0.row1 (by omega) _, HB1.out.row0 _, HB1.out.row0 _, by omega⟩
  have HDC := Lib.hid hc
  have y1 := hc.r.row0 (pkA .i64 zPk nHs)
  have y2 := below_setRow hc.bl (Nat.le_refl _) (pkA .i64 zPk nHs)
  rw [hY] at y1 y2
  have HY := Lib.hid hY
  have Y1 := Lib.hid y1
  have Y2 := Lib.hid y2
  have h0I : ((s.size : Int) == 0) = true := by simp [h0]
  have he : s.toList.isEmpty = true := by rw [ByteArray.toList_eq]; simp; exact Array.eq_empty_of_size_eq_zero h0
  clear hc hW2 hY y1 y2 h0 hk
  go_enter Tryd.func19, Tryd.ntmps19
  go_wp2_with (first | (rw [HW.out]) | (refine wpList_buildTo rfl 52 _ rfl (some 14) rfl (pkA .i64 zPk nHs) (by kernel_rfl) ?_) | (refine wpList_store_rowN rfl 52 (.tmp 4) (.tmp 14) rfl rfl (w.heap.size + 1) (pkA .i64 zPk nHs) rfl rfl 52 (pkA .i64 zPk nHs) HB1.out dpk_size rfl (dpk_one _ _) C HC.out ?_) | (refine wpList_load_row rfl 52 (.tmp 4) rfl (w.heap.size + 1) rfl 52 _ (0, 0) _ HDC.out.n Tryd.underlying52 rfl dpk_size ?_) | (refine wpList_store_rowN rfl 52 (.tmp 2) (.tmp 18) rfl rfl (w.heap.size) (pkA .i64 zPk nHs) rfl rfl 52 (pkA .i64 zPk nHs) HDC.out.r dpk_size rfl (dpk_one _ _) Y HY.out ?_) | (fail))
  refine bodyPost_ret (v := .tuple #[.agg (pkA .i64 zPk nHs), .int .i64 242]) (results_row_tmp (t1 := 2) (t2 := 3) (ty1 := 52) (by kernel_rfl) _ _ w.heap.size 52 _ _ _ rfl rfl Y1.out Tryd.underlying52 rfl dpk_size) rfl ?_
  exact ⟨nHs, rfl, PkD.zero _ _, Y2.out⟩
set_option maxHeartbeats 16000000 in
set_option maxRecDepth 100000 in
theorem dget_1 (s : ByteArray) (w : World) (h1 : 1 ≤ s.size) (hs : s.size ≤ 140737488351232) : Calls Tryd.prog 19 #[.string s] w (DgPost w (pkGet s)) := by
  have hbt := get_bt s
  have hb0 := bt_nonneg s 0
  have hb1 := bt_le s 0
  have h0I : ((s.size : Int) == 0) = false := beq_eq_false_iff_ne.2 (by omega)
  have he : s.toList.isEmpty = false := by
    rw [ByteArray.toList_eq]
    cases hc : s.data.toList with
    | nil => exact absurd (by show s.data.size = 0; rw [← Array.length_toList, hc]; rfl) (show ¬ s.size = 0 by omega)
    | cons x l => rfl
  have h1I : (0 : Int) < (s.size : Int) := by omega
  obtain ⟨RES, hres⟩ : ∃ RES, pkGet s = RES := ⟨_, rfl⟩
  have HN : Hid (hdO (bt s 0) = none → RES = (zPk, 129)) := Lib.hid (fun h => by rw [← hres]; exact gtail_bad (by omega) h)
  have HS : Hid (∀ p, hdO (bt s 0) = some p → RES = gTail s p) := Lib.hid (fun p h => by rw [← hres]; exact gtail_of (by omega) h)
  rw [hres]
  clear hres
  obtain ⟨b, hb⟩ : ∃ b, bt s 0 = b := ⟨_, rfl⟩
  have hdo : hdO (bt s 0) = hdO b := by rw [hb]
  have HDO := Lib.hid hdo
  rw [hb] at hb0 hb1
  have q16 : b.tdiv 16 = b / 16 := Int.tdiv_eq_ediv_of_nonneg hb0
  have m16 : b.tmod 16 = b % 16 := Int.tmod_eq_emod_of_nonneg hb0
  obtain ⟨k, hk⟩ : ∃ k, b / 16 = k := ⟨_, rfl⟩
  obtain ⟨f, hf⟩ : ∃ f, b % 16 = f := ⟨_, rfl⟩
  rw [hk] at q16
  rw [hf] at m16
  have hk0' : 0 ≤ k := by omega
  have hk15 : k ≤ 15 := by omega
  have hf0 : 0 ≤ f := by omega
  have hf15 : f ≤ 15 := by omega
  have HK := Lib.hid hk
  have HF := Lib.hid hf
  clear hk hf hdo
  obtain ⟨W, hW⟩ : ∃ W, (w.alloc (.cells (pkA .i64 zPk nHs) 52)).alloc (.cells (pkA .i64 zPk nHs) 52) = W := ⟨_, rfl⟩
  obtain ⟨C, hC⟩ : ∃ C, W.setRow (w.heap.size + 1) (pkA .i64 zPk nHs) = C := ⟨_, rfl⟩
  obtain ⟨D, hD⟩ : ∃ D, C.alloc (.cells (pkA .i64 zPk nHs) 52) = D := ⟨_, rfl⟩
  obtain ⟨E, hE⟩ : ∃ E, D.setRow (w.heap.size + 2) (pkA .i64 { zPk with kind := k } nHs) = E := ⟨_, rfl⟩
  obtain ⟨B1, hsz, B2, hG⟩ := dg_worlds w k W C D E hW hC hD hE
  rw [zpk_i64] at hW hD
  have HW := Lib.hid hW
  have HC := Lib.hid hC
  have HD := Lib.hid hD
  have HE := Lib.hid hE
  have HB1 := Lib.hid B1
  have HB2 := Lib.hid B2
  have HG := Lib.hid hG
  have k0 : E.cell? ⟨w.heap.size + 2, 0, none⟩ = some (.int .i64 k) := hG.k.cell 0
  obtain ⟨Z, hZ, hZr, hZb⟩ := hG.nil
  have HZ := Lib.hid hZ
  have HZR := Lib.hid hZr
  have HZB := Lib.hid hZb
  clear hW hC hD hE B1 B2 hG hZ hZr hZb
  by_cases hk0 : k = 0
  · have hn : RES = (zPk, 129) := HN.out (by rw [HDO.out]; unfold hdO; rw [if_pos (by rw [HK.out]; exact hk0)])
    have kb : (k == 0) = true := by simpa using hk0
    clear hk0
    rw [hn]
    go_enter Tryd.func19, Tryd.ntmps19
    go_wp2_with (first | (rw [HW.out]) | (refine wpList_buildTo rfl 52 _ rfl (some 14) rfl (pkA .i64 zPk nHs) (by kernel_rfl) ?_) | (refine wpList_store_rowN rfl 52 (.tmp 4) (.tmp 14) rfl rfl (w.heap.size + 1) (pkA .i64 zPk nHs) rfl rfl 52 (pkA .i64 zPk nHs) HB1.out dpk_size rfl (dpk_one _ _) C HC.out ?_) | (refine wpList_buildTo rfl 52 _ rfl (some 24) rfl (pkA .i64 { zPk with kind := k } nHs) (by kernel_rfl) ?_) | (rw [HD.out]) | (refine wpList_store_rowN rfl 52 (.tmp 6) (.tmp 24) rfl rfl (w.heap.size + 2) (pkA .i64 { zPk with kind := k } nHs) rfl rfl 52 (pkA .i64 zPk nHs) HB2.out dpk_size rfl (dpk_one _ _) E HE.out ?_) | (refine wpList_load_row rfl 52 (.tmp 4) rfl (w.heap.size + 1) rfl 52 _ (0, 0) _ HG.out.n Tryd.underlying52 rfl dpk_size ?_) | (refine wpList_store_rowN rfl 52 (.tmp 2) (.tmp 30) rfl rfl (w.heap.size) (pkA .i64 zPk nHs) rfl rfl 52 (pkA .i64 zPk nHs) HG.out.r dpk_size rfl (dpk_one _ _) Z HZ.out ?_) | (fail))
    refine bodyPost_ret (v := .tuple #[.agg (pkA .i64 zPk nHs), .int .i64 129]) (results_row_tmp (t1 := 2) (t2 := 3) (ty1 := 52) (by kernel_rfl) _ _ w.heap.size 52 _ _ _ rfl rfl HZR.out Tryd.underlying52 rfl dpk_size) rfl ?_
    exact ⟨nHs, rfl, PkD.zero _ _, HZB.out⟩
  · have kb : (k == 0) = false := beq_eq_false_iff_ne.2 hk0
    by_cases hk3 : k = 3
    · have k3 : (k == 3) = true := by simpa using hk3
      have CI := fun n (h1 : 0 < n) (h2 : n ≤ 255) (X : World) => isset_any f n X hf0 (by omega) h1 h2
      have C8 := CI 8 (by decide) (by decide)
      have C1 := CI 1 (by decide) (by decide)
      obtain ⟨d, hd⟩ : ∃ d : Bool, decide (f / 8 % 2 = 1) = d := ⟨_, rfl⟩
      obtain ⟨r, hr⟩ : ∃ r : Bool, decide (f / 1 % 2 = 1) = r := ⟨_, rfl⟩
      rw [hd] at C8
      rw [hr] at C1
      have C8 := Lib.hid C8
      have C1 := Lib.hid C1
      have q2 : f.tdiv 2 = f / 2 := Int.tdiv_eq_ediv_of_nonneg hf0
      have m4 : (f / 2).tmod 4 = f / 2 % 4 := Int.tmod_eq_emod_of_nonneg (by omega)
      obtain ⟨q, hq⟩ : ∃ q, f / 2 % 4 = q := ⟨_, rfl⟩
      rw [hq] at m4
      have HQ0 := Lib.hid (show 0 ≤ q ∧ q < 4 from by omega)
      have hh : hdO b = if q < 3 ∧ (d = false ∨ 0 < q) then some { zPk with kind := k, dup := d, q := q, ret := r } else none := by
        have hf' := HF.out
        unfold hdO
        rw [if_neg (by rw [HK.out]; exact hk0), if_pos (by rw [HK.out]; exact hk3)]
        have g1 : b / 2 % 4 = q := by rw [← hq, ← hf']; omega
        have g2 : decide (b / 8 % 2 = 1) = d := by rw [← hd, ← hf']; congr 1; rw [eq_iff_iff]; omega
        have g3 : decide (b % 2 = 1) = r := by rw [← hr, ← hf']; congr 1; rw [eq_iff_iff]; omega
        have g4 : (b / 8 % 2 = 0) ↔ d = false := by rw [← g2, decide_eq_false_iff_not]; omega
        rw [g1, g2, g3, hk3]
        simp only [g4]
      have HH := Lib.hid hh
      clear hd hr hq hh CI
      have z1 : E.cell? ⟨w.heap.size + 2, 1, none⟩ = some (.bool false) := HG.out.k.cell 1
      have z2 : E.cell? ⟨w.heap.size + 2, 2, none⟩ = some (.bool false) := HG.out.k.cell 2
      have z3 : E.cell? ⟨w.heap.size + 2, 3, none⟩ = some (.int .i64 0) := HG.out.k.cell 3
      have zf1 := HG.out.k.frozen 1
      have zf2 := HG.out.k.frozen 2
      have zf3 := HG.out.k.frozen 3
      have g1 := HG.out.set (p' := ({ zPk with kind := k, dup := d } : Pk)) (by omega) (by omega) (by omega) 1 (.bool d) rfl
      have g2 := g1.set (p' := ({ zPk with kind := k, dup := d, ret := r } : Pk)) (by omega) (by omega) (by omega) 2 (.bool r) rfl
      have g3 := g2.set (p' := ({ zPk with kind := k, dup := d, q := q, ret := r } : Pk)) (by omega) (by omega) (by omega) 3 (.int .i64 q) rfl
      obtain ⟨X, hX⟩ : ∃ X, ((E.setCell ⟨w.heap.size + 2, 1, none⟩ (.bool d)).setCell ⟨w.heap.size + 2, 2, none⟩ (.bool r)).setCell ⟨w.heap.size + 2, 3, none⟩ (.int .i64 q) = X := ⟨_, rfl⟩
      rw [hX] at g3
      have x1 : X.cell? ⟨w.heap.size + 2, 1, none⟩ = some (.bool d) := g3.k.cell 1
      have x3 : X.cell? ⟨w.heap.size + 2, 3, none⟩ = some (.int .i64 q) := g3.k.cell 3
      have GX := Lib.hid g3
      obtain ⟨ZX, hZ, hZr, hZb⟩ := g3.nil
      have HZX := Lib.hid hZ
      have HZXR := Lib.hid hZr
      have HZXB := Lib.hid hZb
      clear g1 g2 g3 hZ hZr hZb hk3 hk0
      by_cases hq3 : q = 3
      · have hn : RES = (zPk, 129) := HN.out (by rw [HDO.out, HH.out, if_neg (fun c => by omega)])
        have qb : (q == 3) = true := by simpa using hq3
        clear hq3
        rw [hn]

        go_enter Tryd.func19, Tryd.ntmps19
        go_wp2_with (first | (rw [HW.out]) | (refine wpList_buildTo rfl 52 _ rfl (some 14) rfl (pkA .i64 zPk nHs) (by kernel_rfl) ?_) | (refine wpList_store_rowN rfl 52 (.tmp 4) (.tmp 14) rfl rfl (w.heap.size + 1) (pkA .i64 zPk nHs) rfl rfl 52 (pkA .i64 zPk nHs) HB1.out dpk_size rfl (dpk_one _ _) C HC.out ?_) | (refine wpList_buildTo rfl 52 _ rfl (some 24) rfl (pkA .i64 { zPk with kind := k } nHs) (by kernel_rfl) ?_) | (rw [HD.out]) | (refine wpList_store_rowN rfl 52 (.tmp 6) (.tmp 24) rfl rfl (w.heap.size + 2) (pkA .i64 { zPk with kind := k } nHs) rfl rfl 52 (pkA .i64 zPk nHs) HB2.out dpk_size rfl (dpk_one _ _) E HE.out ?_) | (go_at_call 37; first | (with_reducible refine (C8.out _).mono ?_) | (with_reducible refine (C1.out _).mono ?_); rintro e YI ⟨rfl, rfl⟩) | (refine wpList_load_row rfl 52 (.tmp 4) rfl (w.heap.size + 1) rfl 52 _ (0, 0) _ GX.out.n Tryd.underlying52 rfl dpk_size ?_) | (refine wpList_store_rowN rfl 52 (.tmp 2) (.tmp 56) rfl rfl (w.heap.size) (pkA .i64 zPk nHs) rfl rfl 52 (pkA .i64 zPk nHs) GX.out.r dpk_size rfl (dpk_one _ _) ZX HZX.out ?_) | (fail))
        refine bodyPost_ret (v := .tuple #[.agg (pkA .i64 zPk nHs), .int .i64 129]) (results_row_tmp (t1 := 2) (t2 := 3) (ty1 := 52) (by kernel_rfl) _ _ w.heap.size 52 _ _ _ rfl rfl HZXR.out Tryd.underlying52 rfl dpk_size) rfl ?_
        exact ⟨nHs, rfl, PkD.zero _ _, HZXB.out⟩
      · have qb : (q == 3) = false := beq_eq_false_iff_ne.2 hq3
        have HQ3 := Lib.hid (show q < 3 from by have := HQ0.out; omega)
        clear hq3
        cases d with
        | false =>
          have hn := HS.out _ (by rw [HDO.out, HH.out, if_pos ⟨HQ3.out, .inl rfl⟩])
          rw [hn]

          go_enter Tryd.func19, Tryd.ntmps19
          go_upto_region 18 with (first | (rw [HW.out]) | (refine wpList_buildTo rfl 52 _ rfl (some 14) rfl (pkA .i64 zPk nHs) (by kernel_rfl) ?_) | (refine wpList_store_rowN rfl 52 (.tmp 4) (.tmp 14) rfl rfl (w.heap.size + 1) (pkA .i64 zPk nHs) rfl rfl 52 (pkA .i64 zPk nHs) HB1.out dpk_size rfl (dpk_one _ _) C HC.out ?_) | (refine wpList_buildTo rfl 52 _ rfl (some 24) rfl (pkA .i64 { zPk with kind := k } nHs) (by kernel_rfl) ?_) | (rw [HD.out]) | (refine wpList_store_rowN rfl 52 (.tmp 6) (.tmp 24) rfl rfl (w.heap.size + 2) (pkA .i64 { zPk with kind := k } nHs) rfl rfl 52 (pkA .i64 zPk nHs) HB2.out dpk_size rfl (dpk_one _ _) E HE.out ?_) | (go_at_call 37; first | (with_reducible refine (C8.out _).mono ?_) | (with_reducible refine (C1.out _).mono ?_); rintro e YI ⟨rfl, rfl⟩) | (fail))
          exact dget_t s w X (w.heap.size + 1) (w.heap.size + 2) ({ zPk with kind := k, dup := false, q := q, ret := r } : Pk) GX.out h1 hs ⟨rfl, rfl, rfl⟩ ⟨rfl, rfl⟩ (fun T Y hT => dbody_any Y.heap.size T (0, 0) ({ zPk with kind := k, dup := false, q := q, ret := r } : Pk) nHs Y hT ⟨Int.le_refl 0, by show (0 : Int) ≤ T.size; omega⟩ (Nat.le_refl _) (PkD.nil rfl rfl rfl rfl rfl) ⟨rfl, rfl, rfl⟩ ⟨rfl, rfl, rfl⟩) _ ‹_›
        | true =>
          by_cases hq0 : q = 0
          · have hn : RES = (zPk, 129) := HN.out (by rw [HDO.out, HH.out, if_neg (fun c => by rcases c.2 with c | c; cases c; omega)])
            have q0 : (q == 0) = true := by simpa using hq0
            clear hq0
            rw [hn]

            go_enter Tryd.func19, Tryd.ntmps19
            go_wp2_with (first | (rw [HW.out]) | (refine wpList_buildTo rfl 52 _ rfl (some 14) rfl (pkA .i64 zPk nHs) (by kernel_rfl) ?_) | (refine wpList_store_rowN rfl 52 (.tmp 4) (.tmp 14) rfl rfl (w.heap.size + 1) (pkA .i64 zPk nHs) rfl rfl 52 (pkA .i64 zPk nHs) HB1.out dpk_size rfl (dpk_one _ _) C HC.out ?_) | (refine wpList_buildTo rfl 52 _ rfl (some 24) rfl (pkA .i64 { zPk with kind := k } nHs) (by kernel_rfl) ?_) | (rw [HD.out]) | (refine wpList_store_rowN rfl 52 (.tmp 6) (.tmp 24) rfl rfl (w.heap.size + 2) (pkA .i64 { zPk with kind := k } nHs) rfl rfl 52 (pkA .i64 zPk nHs) HB2.out dpk_size rfl (dpk_one _ _) E HE.out ?_) | (go_at_call 37; first | (with_reducible refine (C8.out _).mono ?_) | (with_reducible refine (C1.out _).mono ?_); rintro e YI ⟨rfl, rfl⟩) | (refine wpList_load_row rfl 52 (.tmp 4) rfl (w.heap.size + 1) rfl 52 _ (0, 0) _ GX.out.n Tryd.underlying52 rfl dpk_size ?_) | (refine wpList_store_rowN rfl 52 (.tmp 2) (.tmp 56) rfl rfl (w.heap.size) (pkA .i64 zPk nHs) rfl rfl 52 (pkA .i64 zPk nHs) GX.out.r dpk_size rfl (dpk_one _ _) ZX HZX.out ?_) | (fail))
            refine bodyPost_ret (v := .tuple #[.agg (pkA .i64 zPk nHs), .int .i64 129]) (results_row_tmp (t1 := 2) (t2 := 3) (ty1 := 52) (by kernel_rfl) _ _ w.heap.size 52 _ _ _ rfl rfl HZXR.out Tryd.underlying52 rfl dpk_size) rfl ?_
            exact ⟨nHs, rfl, PkD.zero _ _, HZXB.out⟩
          · have hn := HS.out _ (by rw [HDO.out, HH.out, if_pos ⟨HQ3.out, .inr (by have := HQ0.out; omega)⟩])
            have q0 : (q == 0) = false := beq_eq_false_iff_ne.2 hq0
            clear hq0
            rw [hn]

            go_enter Tryd.func19, Tryd.ntmps19
            go_upto_region 18 with (first | (rw [HW.out]) | (refine wpList_buildTo rfl 52 _ rfl (some 14) rfl (pkA .i64 zPk nHs) (by kernel_rfl) ?_) | (refine wpList_store_rowN rfl 52 (.tmp 4) (.tmp 14) rfl rfl (w.heap.size + 1) (pkA .i64 zPk nHs) rfl rfl 52 (pkA .i64 zPk nHs) HB1.out dpk_size rfl (dpk_one _ _) C HC.out ?_) | (refine wpList_buildTo rfl 52 _ rfl (some 24) rfl (pkA .i64 { zPk with kind := k } nHs) (by kernel_rfl) ?_) | (rw [HD.out]) | (refine wpList_store_rowN rfl 52 (.tmp 6) (.tmp 24) rfl rfl (w.heap.size + 2) (pkA .i64 { zPk with kind := k } nHs) rfl rfl 52 (pkA .i64 zPk nHs) HB2.out dpk_size rfl (dpk_one _ _) E HE.out ?_) | (go_at_call 37; first | (with_reducible refine (C8.out _).mono ?_) | (with_reducible refine (C1.out _).mono ?_); rintro e YI ⟨rfl, rfl⟩) | (fail))
            exact dget_t s w X (w.heap.size + 1) (w.heap.size + 2) ({ zPk with kind := k, dup := true, q := q, ret := r } : Pk) GX.out h1 hs ⟨rfl, rfl, rfl⟩ ⟨rfl, rfl⟩ (fun T Y hT => dbody_any Y.heap.size T (0, 0) ({ zPk with kind := k, dup := true, q := q, ret := r } : Pk) nHs Y hT ⟨Int.le_refl 0, by show (0 : Int) ≤ T.size; omega⟩ (Nat.le_refl _) (PkD.nil rfl rfl rfl rfl rfl) ⟨rfl, rfl, rfl⟩ ⟨rfl, rfl, rfl⟩) _ ‹_›
    · have k3 : (k == 3) = false := beq_eq_false_iff_ne.2 hk3
      have hh : hdO b = if f = kFlags k then some ({ zPk with kind := k } : Pk) else none := by
        unfold hdO
        rw [HK.out, HF.out, if_neg hk0, if_neg hk3]
      have HH := Lib.hid hh
      have CF := Lib.hid (fun X => rflags_no3 ({ zPk with kind := k } : Pk) nHs X hk3)
      have hkf : ∃ g, kFlags k = g := ⟨_, rfl⟩
      obtain ⟨g, hg⟩ := hkf
      have CF : ∀ X : World, Calls Tryd.prog 38 #[.agg (pkA .i64 ({ zPk with kind := k } : Pk) nHs)] X fun e w' => e = .returned (.int .i64 g) ∧ Below X.heap.size X w' := fun X => by rw [← hg]; exact CF.out X
      have CF := Lib.hid CF
      rw [hg] at HH
      clear hh hg hk3 hk0
      by_cases hff : f = g
      · have hn := HS.out _ (by rw [HDO.out, HH.out, if_pos hff])
        have fb : (f == g) = true := by simpa using hff
        have fb1 : (f != g) = false := by rw [bne, fb]; rfl
        clear hff
        rw [hn]
        go_enter Tryd.func19, Tryd.ntmps19
        go_upto_region 18 with (first | (rw [HW.out]) | (refine wpList_buildTo rfl 52 _ rfl (some 14) rfl (pkA .i64 zPk nHs) (by kernel_rfl) ?_) | (refine wpList_store_rowN rfl 52 (.tmp 4) (.tmp 14) rfl rfl (w.heap.size + 1) (pkA .i64 zPk nHs) rfl rfl 52 (pkA .i64 zPk nHs) HB1.out dpk_size rfl (dpk_one _ _) C HC.out ?_) | (refine wpList_buildTo rfl 52 _ rfl (some 24) rfl (pkA .i64 { zPk with kind := k } nHs) (by kernel_rfl) ?_) | (rw [HD.out]) | (refine wpList_store_rowN rfl 52 (.tmp 6) (.tmp 24) rfl rfl (w.heap.size + 2) (pkA .i64 { zPk with kind := k } nHs) rfl rfl 52 (pkA .i64 zPk nHs) HB2.out dpk_size rfl (dpk_one _ _) E HE.out ?_) | (refine wpList_load_row rfl 52 (.tmp 6) rfl (w.heap.size + 2) rfl 52 _ (0, 0) _ HG.out.k Tryd.underlying52 rfl dpk_size ?_) | (go_at_call 38; (with_reducible refine (CF.out _).mono ?_); rintro e YI ⟨rfl, bI⟩; have HGI := Lib.hid (HG.out.step bI); clear bI) | (fail))
        exact dget_t s w YI (w.heap.size + 1) (w.heap.size + 2) ({ zPk with kind := k } : Pk) HGI.out h1 hs ⟨rfl, rfl, rfl⟩ ⟨rfl, rfl⟩ (fun T Y hT => dbody_any Y.heap.size T (0, 0) ({ zPk with kind := k } : Pk) nHs Y hT ⟨Int.le_refl 0, by show (0 : Int) ≤ T.size; omega⟩ (Nat.le_refl _) (PkD.nil rfl rfl rfl rfl rfl) ⟨rfl, rfl, rfl⟩ ⟨rfl, rfl, rfl⟩) _ ‹_›
      · have hn : RES = (zPk, 129) := HN.out (by rw [HDO.out, HH.out, if_neg hff])
        have fb : (f == g) = false := beq_eq_false_iff_ne.2 hff
        have fb1 : (f != g) = true := by rw [bne, fb]; rfl
        clear hff
        rw [hn]
        go_enter Tryd.func19, Tryd.ntmps19
        go_wp2_with (first | (rw [HW.out]) | (refine wpList_buildTo rfl 52 _ rfl (some 14) rfl (pkA .i64 zPk nHs) (by kernel_rfl) ?_) | (refine wpList_store_rowN rfl 52 (.tmp 4) (.tmp 14) rfl rfl (w.heap.size + 1) (pkA .i64 zPk nHs) rfl rfl 52 (pkA .i64 zPk nHs) HB1.out dpk_size rfl (dpk_one _ _) C HC.out ?_) | (refine wpList_buildTo rfl 52 _ rfl (some 24) rfl (pkA .i64 { zPk with kind := k } nHs) (by kernel_rfl) ?_) | (rw [HD.out]) | (refine wpList_store_rowN rfl 52 (.tmp 6) (.tmp 24) rfl rfl (w.heap.size + 2) (pkA .i64 { zPk with kind := k } nHs) rfl rfl 52 (pkA .i64 zPk nHs) HB2.out dpk_size rfl (dpk_one _ _) E HE.out ?_) | (refine wpList_load_row rfl 52 (.tmp 6) rfl (w.heap.size + 2) rfl 52 _ (0, 0) _ HG.out.k Tryd.underlying52 rfl dpk_size ?_) | (go_at_call 38; (with_reducible refine (CF.out _).mono ?_); rintro e YI ⟨rfl, bI⟩; have HGI := Lib.hid (HG.out.step bI); obtain ⟨ZI, hZ, hZr, hZb⟩ := (HG.out.step bI).nil; have HZI := Lib.hid hZ; have HZIR := Lib.hid hZr; have HZIB := Lib.hid hZb; clear bI hZ hZr hZb) | (refine wpList_load_row rfl 52 (.tmp 4) rfl (w.heap.size + 1) rfl 52 _ (0, 0) _ HGI.out.n Tryd.underlying52 rfl dpk_size ?_) | (refine wpList_store_rowN rfl 52 (.tmp 2) (.tmp 62) rfl rfl (w.heap.size) (pkA .i64 zPk nHs) rfl rfl 52 (pkA .i64 zPk nHs) HGI.out.r dpk_size rfl (dpk_one _ _) ZI HZI.out ?_) | (fail))
        refine bodyPost_ret (v := .tuple #[.agg (pkA .i64 zPk nHs), .int .i64 129]) (results_row_tmp (t1 := 2) (t2 := 3) (ty1 := 52) (by kernel_rfl) _ _ w.heap.size 52 _ _ _ rfl rfl HZIR.out Tryd.underlying52 rfl dpk_size) rfl ?_
        exact ⟨nHs, rfl, PkD.zero _ _, HZIB.out⟩
theorem dget_any (s : ByteArray) (w : World) (hs : s.size ≤ 140737488351232) : Calls Tryd.prog 19 #[.string s] w (DgPost w (pkGet s)) := by
  by_cases h : s.size = 0
  · have e : pkGet s = (zPk, 242) := by unfold pkGet; rw [if_pos h]
    rw [e]
    exact dget_0 s w h
  · exact dget_1 s w (by omega) hs
end Go.Proofs.YtedapgeabpadaaaDoor

namespace Go.Proofs.YtedapgeabpadaaaDoor
set_option linter.unusedVariables false
open Go.RowKit Pl Go.Shelf Go.PlainAid

def DFeedPost (w : World) (R : Nat) (most : Int) (x : ByteArray) (e : Ending) (w' : World) : Prop :=
  ∃ v, e = .returned (.tuple #[v, .int .i64 (feedC most x)]) ∧ DksAt w.heap.size w' v (feedL most x) ∧ Blk w' R (srD most (feedR most x) (feedC most x)) 27 ∧ Mod (· = R) w w'
set_option maxRecDepth 100000 in
set_option maxHeartbeats 4000000 in
theorem dfeed_any (R : Nat) (most : Int) (left s : ByteArray) (w : World) (hb : Blk w R (srD most left 0) 27) (h0 : -9223372036854775808 ≤ most) (h1 : most ≤ 9223372036854775807) (hs : left.size + s.size ≤ 1048576) :
    Calls Tryd.prog 10 #[.pointer (some ⟨R, 0, none⟩), .string s] w (DFeedPost w R most (left ++ s)) := by
  have hx : (left ++ s).size ≤ 1048576 := by rw [ByteArray.size_append]; omega
  obtain ⟨x, hxx⟩ : ∃ x, left ++ s = x := ⟨_, rfl⟩
  rw [hxx] at hx ⊢
  have hm := split_mem most x.size x
  have CS : ∀ X : World, Calls Tryd.prog 18 #[.string x, .int .i64 most] X _ := fun X => refsplit_any x most X hx h0 h1
  obtain ⟨⟨l, rest, c0⟩, hl⟩ : ∃ y, splitF most x.size x = y := ⟨_, rfl⟩
  rw [hl] at CS hm
  obtain ⟨hll, hlb⟩ := hm
  simp only at CS hll hlb
  have hsp : sp most x = (l, rest, c0) := hl
  have CS := Lib.hid CS
  have HSP := Lib.hid hsp
  have HLB := Lib.hid hlb
  have HB := Lib.hid hb
  have r0 : w.cell? ⟨R, 0, none⟩ = some (.int .i64 most) := hb.cell 0
  have r1 : w.cell? ⟨R, 1, none⟩ = some (.string left) := hb.cell 1
  have r2 : w.cell? ⟨R, 2, none⟩ = some (.int .i64 0) := hb.cell 2
  have hadd : ¬ 9223372036854775807 < left.size + s.size := by omega
  clear hsp hlb hb hl h0 h1
  go_enter Tryd.func10, Tryd.ntmps10
  go_wp2
  go_upto_region 3 with fail
  go_cut [6, 7, 8] (fun a b c X => b = .string rest ∧ c = .int .i64 c0 ∧ ∃ a1 c1, a = .slice a1 l.length c1 ∧ Hid (Sl w.heap.size X 9 1 a l.length (l.map Value.string)) ∧ Hid (Below w.heap.size w X))
  case first =>
    go_region_with (go_at_call 18; (with_reducible refine (CS.out _).mono ?_); rintro e w1 ⟨v1, rfl, o1, b1⟩; have HO := Lib.hid (split_shape (w := w) o1 ⟨b1.os, b1.tape, b1.output, b1.size, b1.block⟩); clear o1 b1)
    all_goals go_wp2
    all_goals go_meet
    all_goals exact ⟨rfl, rfl, HO.out⟩
  obtain ⟨rfl, rfl, a1, c1, rfl, HS1, HB1⟩ := hcut
  clear r0 r1 r2
  go_wp2_with fail
  go_loopw [8, 9, 10] (fun cv ov iv wr => ∃ (i : Nat), iv = .int .i64 i ∧ cv = .int .i64 c0 ∧ i ≤ l.length ∧ Hid (DksAt w.heap.size wr ov (getsP (l.take i)).1) ∧ Hid ((getsP (l.take i)).2 = 0) ∧ Hid (Sl w.heap.size wr 9 1 (.slice a1 l.length c1) l.length (l.map Value.string)) ∧ Hid (Below w.heap.size w wr)) (fun _ _ iv _ => ((l.length : Int) - intOf iv).toNat)
  case atStart => exact ⟨0, rfl, rfl, Nat.zero_le _, Lib.hid (DksAt.nil _ _), Lib.hid rfl, HS1, HB1⟩
  case round =>
    obtain ⟨i, rfl, rfl, hi, hP, hG, hS, hBw⟩ := hrel
    by_cases hil : i < l.length
    · obtain ⟨b, hbl⟩ : ∃ b, l[i]? = some b := ⟨_, List.getElem?_eq_getElem hil⟩
      have hbz : b.size ≤ 140737488351232 := by have := HLB.out b (List.mem_of_getElem? hbl); omega
      obtain ⟨g, o, cap, ea, _, _, _, _, hcl⟩ := hS.out.at (by omega)
      injection ea with ea1 ea2 ea3
      subst ea1
      have hcell := hcl i (.string b) (by rw [List.getElem?_map, hbl]; rfl)
      obtain ⟨⟨r, c⟩, hg⟩ : ∃ y, pkGet b = y := ⟨_, rfl⟩
      have CG : Calls Tryd.prog 19 #[.string b] wr (DgPost wr (r, c)) := by rw [← hg]; exact dget_any b wr hbz
      have CG := Lib.hid CG
      have HG := Lib.hid hg
      have HBL := Lib.hid hbl
      have hiI : (i : Int) < (l.length : Int) := by omega
      clear hcl hg hbl hbz ea2 ea3
      go_wp2_with fail
      refine CG.out.mono ?_
      rintro e V ⟨m, rfl, ho, bv⟩
      simp only at ho
      obtain ⟨Y, hY⟩ : ∃ Y, V.alloc (.cells #[.int .i64 0, .bool false, .bool false, .int .i64 0, .int .i64 0, .string ⟨#[]⟩, .string ⟨#[]⟩, .int .i64 0, .slice none 0 0, .slice none 0 0, .string ⟨#[]⟩, .bool false, .int .i64 0, .bool false, .string ⟨#[]⟩, .string ⟨#[]⟩, .int .i64 0, .bool false, .slice none 0 0, .bool false, .bool false, .string ⟨#[]⟩, .string ⟨#[]⟩, .bool false, .slice none 0 0, .slice none 0 0] 52) = Y := ⟨_, rfl⟩
      have hy : Blk Y V.heap.size #[.int .i64 0, .bool false, .bool false, .int .i64 0, .int .i64 0, .string ⟨#[]⟩, .string ⟨#[]⟩, .int .i64 0, .slice none 0 0, .slice none 0 0, .string ⟨#[]⟩, .bool false, .int .i64 0, .bool false, .string ⟨#[]⟩, .string ⟨#[]⟩, .int .i64 0, .bool false, .slice none 0 0, .bool false, .bool false, .string ⟨#[]⟩, .string ⟨#[]⟩, .bool false, .slice none 0 0, .slice none 0 0] 52 := by rw [← hY]; exact Blk.new _ _ _
      have by_ : Below V.heap.size V Y := by rw [← hY]; exact (Below.refl _ _).alloc (Nat.le_refl _) _
      obtain ⟨Z, hZ⟩ : ∃ Z, Y.setRow V.heap.size (pkA .i64 r m) = Z := ⟨_, rfl⟩
      have hz : Blk Z V.heap.size (pkA .i64 r m) 52 := by rw [← hZ]; exact hy.row0 _
      have bz : Below V.heap.size V Z := by rw [← hZ]; exact below_setRow by_ (Nat.le_refl _) _
      have HY := Lib.hid hy
      have HZ := Lib.hid hz
      have HW : Hid (Blk (Y.setRow V.heap.size (pkA .i64 r m)) V.heap.size (pkA .i64 r m) 52) := Lib.hid (by rw [hZ]; exact hz)
      have hwr : w.heap.size ≤ wr.heap.size := hBw.out.size
      have bvz : Below wr.heap.size wr Z := bv.trans (bz.mono bv.size)
      have HBZ := Lib.hid (hBw.out.trans (bvz.mono hwr))
      have HPZ := Lib.hid (hP.out.below bvz)
      have HSZ := Lib.hid (hS.out.below bvz)
      have HOZ := Lib.hid ((ho.mono hwr).below bz)
      have hBs : w.heap.size ≤ Z.heap.size := HBZ.out.size
      clear ho bv hy by_ hz bz bvz hP hS hBw hwr hcell
      by_cases hc : c = 0
      · subst hc
        have hk := gets_take_ok HBL.out hG.out HG.out
        have HK := Lib.hid hk
        have hlen : (getsP (l.take i)).1.length ≤ 1048576 := by have := gets_len (l.take i); rw [List.length_take] at this; omega
        obtain ⟨U, hU⟩ : ∃ U, Z.alloc (.cells (pkA .i64 r m) 52) = U := ⟨_, rfl⟩
        have hub : Blk U Z.heap.size (pkA .i64 r m) 52 := by rw [← hU]; exact Blk.new _ _ _
        have bu : Below Z.heap.size Z U := by rw [← hU]; exact (Below.refl _ _).alloc (Nat.le_refl _) _
        have HU := Lib.hid hU
        have HUB := Lib.hid hub
        have HPU := Lib.hid (HPZ.out.below bu)
        have HOU := Lib.hid (HOZ.out.below bu)
        have HSU := Lib.hid (HSZ.out.below bu)
        have HBU := Lib.hid (HBZ.out.trans (bu.mono hBs))
        have hBu : w.heap.size ≤ U.heap.size := HBU.out.size
        clear hk hU hub bu hG HBL HG HPZ HOZ HSZ HBZ hil
        go_wp2_with (first | (refine wpList_store_rowTo rfl 52 (.tmp 11) (.tmp 49) rfl rfl V.heap.size (pkA .i64 r m) rfl rfl 52 #[.int .i64 0, .bool false, .bool false, .int .i64 0, .int .i64 0, .string ⟨#[]⟩, .string ⟨#[]⟩, .int .i64 0, .slice none 0 0, .slice none 0 0, .string ⟨#[]⟩, .bool false, .int .i64 0, .bool false, .string ⟨#[]⟩, .string ⟨#[]⟩, .int .i64 0, .bool false, .slice none 0 0, .bool false, .bool false, .string ⟨#[]⟩, .string ⟨#[]⟩, .bool false, .slice none 0 0, .slice none 0 0] HY.out dpk_size rfl (dpk_one _ _) ?_) | (refine wpList_load_row rfl 52 (.tmp 11) rfl V.heap.size rfl 52 (pkA .i64 r m) (0, 0) _ HZ.out Tryd.underlying52 rfl dpk_size ?_) | (refine wpList_load_row rfl 52 (.tmp 11) rfl V.heap.size rfl 52 (pkA .i64 r m) (0, 0) _ HW.out Tryd.underlying52 rfl dpk_size ?_) | (refine wpList_dpkS (.tmp 55) (pkA .i64 r m) rfl rfl rfl rfl U HU.out ?_) | (refine wpList_dpks (.tmp 54) (.tmp 56) w.heap.size _ (getsP (l.take i)).1 r m Z.heap.size rfl rfl rfl rfl HPU.out HOU.out HUB.out hBu hlen ?_; intro ov' wf hpf hgf hof) | (fail))
        have hsf := HSU.out.grown hgf (fun k hk hk2 => by
          obtain ⟨cu1, e1⟩ := HSU.out.obj k _ hk (Array.getElem?_eq_getElem (HSU.out.lt k hk).2)
          obtain ⟨cu2, e2⟩ := (hof k hk2).2 _ (Array.getElem?_eq_getElem (HSU.out.lt k hk).2)
          rw [e1] at e2
          injection e2 with _ e3 _
          exact absurd e3 (by decide))
        have hbf : Below w.heap.size w wf := HBU.out.grown hgf hBu (fun k hk => (hof k hk).1)
        have HPF : Hid (DksAt w.heap.size wf ov' (getsP (l.take (i + 1))).1) := Lib.hid (by rw [HK.out.1]; exact hpf)
        have HGF : Hid ((getsP (l.take (i + 1))).2 = 0) := Lib.hid HK.out.2
        have HSF := Lib.hid hsf
        have HBF := Lib.hid hbf
        clear hsf hbf hpf hgf hof HU HUB HPU HOU HSU HBU hBu HY HZ HW HK
        go_wp2
        go_roundw
        case rel => exact ⟨i + 1, by go_num, rfl, by omega, HPF, HGF, HSF, HBF⟩
        case measure => simp [intOf]; omega
      · have hbad := gets_take_bad HBL.out hG.out HG.out hc
        have HBAD := Lib.hid hbad
        have z0 : (c == 0) = false := beq_eq_false_iff_ne.2 hc
        have z1 : (c != 0) = true := by rw [bne, z0]; rfl
        have HC0 := Lib.hid hc
        clear hbad hc hG HBL HG
        have hRl := HB.out.lt
        have hbx := HB.out.of_below HBZ.out
        obtain ⟨X1, hX1⟩ : ∃ X1, Z.setCell ⟨R, 1, none⟩ (.string rest) = X1 := ⟨_, rfl⟩
        have hb1 : Blk X1 R (srD most rest 0) 27 := by rw [← hX1]; exact hbx.set 1 _
        have hm1 : Mod (· = R) w X1 := by rw [← hX1]; exact (Mod.of_below HBZ.out : Mod (· = R) w Z).setCell (p := ⟨R, 1, none⟩) (.inl rfl) _
        have hp1 := HPZ.out.setR hRl 1 (.string rest)
        rw [hX1] at hp1
        obtain ⟨X2, hX2⟩ : ∃ X2, X1.setCell ⟨R, 2, none⟩ (.int .i64 c) = X2 := ⟨_, rfl⟩
        have hb2 : Blk X2 R (srD most rest c) 27 := by rw [← hX2]; exact hb1.set 2 _
        have hm2 : Mod (· = R) w X2 := by rw [← hX2]; exact hm1.setCell (p := ⟨R, 2, none⟩) (.inl rfl) _
        have hp2 := hp1.setR hRl 2 (.int .i64 c)
        rw [hX2] at hp2
        have x1 : Z.cell? ⟨R, 1, none⟩ = some (.string left) := hbx.cell 1
        have y1 := hbx.frozen 1
        have x2 : X1.cell? ⟨R, 2, none⟩ = some (.int .i64 0) := hb1.cell 2
        have y2 := hb1.frozen 2
        obtain ⟨X3, hX3⟩ : ∃ X3, X2.setCell ⟨R, 1, none⟩ (.string ⟨#[]⟩) = X3 := ⟨_, rfl⟩
        have hb3 : Blk X3 R (srD most ⟨#[]⟩ c) 27 := by rw [← hX3]; exact hb2.set 1 _
        have hm3 : Mod (· = R) w X3 := by rw [← hX3]; exact hm2.setCell (p := ⟨R, 1, none⟩) (.inl rfl) _
        have hp3 := hp2.setR hRl 1 (.string ⟨#[]⟩)
        rw [hX3] at hp3
        have x3 : X2.cell? ⟨R, 1, none⟩ = some (.string rest) := hb2.cell 1
        have y3 := hb2.frozen 1
        have H3 := Lib.hid (And.intro hb3 (And.intro hm3 hp3))
        clear hb3 hm3 hp3
        clear hbx hb1 hm1 hp1 hb2 hm2 hp2 hRl
        go_wp2_with (first | (refine wpList_store_rowTo rfl 52 (.tmp 11) (.tmp 49) rfl rfl V.heap.size (pkA .i64 r m) rfl rfl 52 #[.int .i64 0, .bool false, .bool false, .int .i64 0, .int .i64 0, .string ⟨#[]⟩, .string ⟨#[]⟩, .int .i64 0, .slice none 0 0, .slice none 0 0, .string ⟨#[]⟩, .bool false, .int .i64 0, .bool false, .string ⟨#[]⟩, .string ⟨#[]⟩, .int .i64 0, .bool false, .slice none 0 0, .bool false, .bool false, .string ⟨#[]⟩, .string ⟨#[]⟩, .bool false, .slice none 0 0, .slice none 0 0] HY.out dpk_size rfl (dpk_one _ _) ?_) | (fail))
        go_ret2
        have ec : feedC most x = c := by unfold feedC; rw [HSP.out]; simp only; rw [HBAD.out.2, if_pos HC0.out]
        have el : feedL most x = (getsP (l.take i)).1 := by unfold feedL; rw [HSP.out]; exact HBAD.out.1
        have er : feedR most x = ⟨#[]⟩ := by unfold feedR; rw [ec, if_pos HC0.out]
        exact ⟨_, by rw [ec]; rfl, by rw [el]; exact H3.out.2.2, by rw [ec, er]; exact H3.out.1, H3.out.2.1⟩
    · obtain rfl : i = l.length := by omega
      have hnn : ¬ ((l.length : Int) < (l.length : Int)) := by omega
      by_cases hc0 : c0 = 0
      · subst hc0
        have hRl := HB.out.lt
        have hbx := HB.out.of_below hBw.out
        obtain ⟨X1, hX1⟩ : ∃ X1, wr.setCell ⟨R, 1, none⟩ (.string rest) = X1 := ⟨_, rfl⟩
        have hb1 : Blk X1 R (srD most rest 0) 27 := by rw [← hX1]; exact hbx.set 1 _
        have hm1 : Mod (· = R) w X1 := by rw [← hX1]; exact (Mod.of_below hBw.out : Mod (· = R) w wr).setCell (p := ⟨R, 1, none⟩) (.inl rfl) _
        have hp1 := hP.out.setR hRl 1 (.string rest)
        rw [hX1] at hp1
        obtain ⟨X2, hX2⟩ : ∃ X2, X1.setCell ⟨R, 2, none⟩ (.int .i64 0) = X2 := ⟨_, rfl⟩
        have hb2 : Blk X2 R (srD most rest 0) 27 := by rw [← hX2]; exact hb1.set 2 _
        have hm2 : Mod (· = R) w X2 := by rw [← hX2]; exact hm1.setCell (p := ⟨R, 2, none⟩) (.inl rfl) _
        have hp2 := hp1.setR hRl 2 (.int .i64 0)
        rw [hX2] at hp2
        have x1 : wr.cell? ⟨R, 1, none⟩ = some (.string left) := hbx.cell 1
        have y1 := hbx.frozen 1
        have x2 : X1.cell? ⟨R, 2, none⟩ = some (.int .i64 0) := hb1.cell 2
        have y2 := hb1.frozen 2
        have H3 := Lib.hid (And.intro hb2 (And.intro hm2 hp2))
        clear hbx hb1 hm1 hp1 hb2 hm2 hp2 hRl
        go_wp2
        go_ret2
        have hg0 := hG.out
        rw [List.take_length] at hg0
        have ec : feedC most x = 0 := by unfold feedC; rw [HSP.out]; simp only; rw [hg0]; rfl
        have el : feedL most x = (getsP (l.take l.length)).1 := by unfold feedL; rw [HSP.out, List.take_length]
        have er : feedR most x = rest := by unfold feedR; rw [ec, HSP.out]; rfl
        exact ⟨_, by rw [ec]; rfl, by rw [el]; exact H3.out.2.2, by rw [ec, er]; exact H3.out.1, H3.out.2.1⟩
      · have z0 : (c0 == 0) = false := beq_eq_false_iff_ne.2 hc0
        have z1 : (c0 != 0) = true := by rw [bne, z0]; rfl
        have HC0 := Lib.hid hc0
        clear hc0
        have hRl := HB.out.lt
        have hbx := HB.out.of_below hBw.out
        obtain ⟨X1, hX1⟩ : ∃ X1, wr.setCell ⟨R, 1, none⟩ (.string rest) = X1 := ⟨_, rfl⟩
        have hb1 : Blk X1 R (srD most rest 0) 27 := by rw [← hX1]; exact hbx.set 1 _
        have hm1 : Mod (· = R) w X1 := by rw [← hX1]; exact (Mod.of_below hBw.out : Mod (· = R) w wr).setCell (p := ⟨R, 1, none⟩) (.inl rfl) _
        have hp1 := hP.out.setR hRl 1 (.string rest)
        rw [hX1] at hp1
        obtain ⟨X2, hX2⟩ : ∃ X2, X1.setCell ⟨R, 2, none⟩ (.int .i64 c0) = X2 := ⟨_, rfl⟩
        have hb2 : Blk X2 R (srD most rest c0) 27 := by rw [← hX2]; exact hb1.set 2 _
        have hm2 : Mod (· = R) w X2 := by rw [← hX2]; exact hm1.setCell (p := ⟨R, 2, none⟩) (.inl rfl) _
        have hp2 := hp1.setR hRl 2 (.int .i64 c0)
        rw [hX2] at hp2
        have x1 : wr.cell? ⟨R, 1, none⟩ = some (.string left) := hbx.cell 1
        have y1 := hbx.frozen 1
        have x2 : X1.cell? ⟨R, 2, none⟩ = some (.int .i64 0) := hb1.cell 2
        have y2 := hb1.frozen 2
        obtain ⟨X3, hX3⟩ : ∃ X3, X2.setCell ⟨R, 1, none⟩ (.string ⟨#[]⟩) = X3 := ⟨_, rfl⟩
        have hb3 : Blk X3 R (srD most ⟨#[]⟩ c0) 27 := by rw [← hX3]; exact hb2.set 1 _
        have hm3 : Mod (· = R) w X3 := by rw [← hX3]; exact hm2.setCell (p := ⟨R, 1, none⟩) (.inl rfl) _
        have hp3 := hp2.setR hRl 1 (.string ⟨#[]⟩)
        rw [hX3] at hp3
        have x3 : X2.cell? ⟨R, 1, none⟩ = some (.string rest) := hb2.cell 1
        have y3 := hb2.frozen 1
        have H3 := Lib.hid (And.intro hb3 (And.intro hm3 hp3))
        clear hb3 hm3 hp3
        clear hbx hb1 hm1 hp1 hb2 hm2 hp2 hRl
        go_wp2
        go_ret2
        have hg0 := hG.out
        rw [List.take_length] at hg0
        have ec : feedC most x = c0 := by unfold feedC; rw [HSP.out]; simp only; rw [hg0]; rfl
        have el : feedL most x = (getsP (l.take l.length)).1 := by unfold feedL; rw [HSP.out, List.take_length]
        have er : feedR most x = ⟨#[]⟩ := by unfold feedR; rw [ec, if_pos HC0.out]
        exact ⟨_, by rw [ec]; rfl, by rw [el]; exact H3.out.2.2, by rw [ec, er]; exact H3.out.1, H3.out.2.1⟩
end Go.Proofs.YtedapgeabpadaaaDoor

