/- Parts of the proof, joined: RgQ, RgS, RgO1, RgO2. -/
import Derived.Test.YtedapgeabpadaaaDoorJ6P16
import Derived.Test.YtedapgeabpadaaaDoorJ6P14
import Derived.Test.YtedapgeabpadaaaDoorJ6P6
import Derived.Deep.DeepCutAuto
import Derived.IntWalk
set_option linter.unusedVariables false
set_option linter.unusedSimpArgs false
namespace Go.Proofs.YtedapgeabpadaaaDoor
open Go.RowKit Pl Go.PlainAid Go.Shelf

theorem dFail_pairQ (a c d : Int) : dFail (a, c) d = (a, (dFail (a, c) d).2) := Prod.ext (by unfold dFail; split <;> rfl) rfl
set_option maxHeartbeats 8000000 in
set_option maxRecDepth 100000 in
theorem dbody_2 (B : Nat) (s : ByteArray) (t : Tt) (p : Pk) (m : Hs) (w : World) (hs : s.size ≤ 140737488351232) (hr : Rg s t) (hB : B ≤ w.heap.size) (hd : PkD B w p m) (hk : p.kind = 2) :
    Calls Tryd.prog 39 #[.agg (inA s t.1 t.2), .agg (pkA .i64 p m)] w (DwPost B w s (dKind s p t)) := by
  have EK := Lib.hid (show dKind s p t = dConnack s p t by unfold dKind; rw [if_neg (by omega)]; rw [if_pos (by omega)])
  have t1 : (p.kind == 1) = false := beq_eq_false_iff_ne.2 (by omega)
  have t2 : (p.kind == 2) = true := by rw [hk]; rfl
  have hBh := hB
  obtain ⟨a, c⟩ := t
  simp only
  have h0 := Dw.new s (a, c) p m hB hd
  obtain ⟨W, hW⟩ : ∃ W, (((w.alloc (.cells (inA s a c) 118)).alloc (.cells (pkA .i64 p m) 52)).alloc (.cells (inA eS 0 0) 118)).alloc (.cells (pkA .i64 zPk nHs) 52) = W := ⟨_, rfl⟩
  rw [hW] at h0
  have H0 := Lib.hid h0
  have HW := Lib.hid (show (((w.alloc (.cells (inA s a c) 118)).alloc (.cells (pkA .i64 p m) 52)).alloc (.cells #[.string ⟨#[]⟩, .int .i64 0, .int .i64 0] 118)).alloc (.cells #[.int .i64 0, .bool false, .bool false, .int .i64 0, .int .i64 0, .string ⟨#[]⟩, .string ⟨#[]⟩, .int .i64 0, .slice none 0 0, .slice none 0 0, .string ⟨#[]⟩, .bool false, .int .i64 0, .bool false, .string ⟨#[]⟩, .string ⟨#[]⟩, .int .i64 0, .bool false, .slice none 0 0, .bool false, .bool false, .string ⟨#[]⟩, .string ⟨#[]⟩, .bool false, .slice none 0 0, .slice none 0 0] 52) = W from hW)
  have HR0 : Hid (Rg s (a, c)) := Lib.hid hr
  clear h0 hW hd hr
  have k0 : W.cell? ⟨w.heap.size + 1, 0, none⟩ = some (.int .i64 p.kind) := H0.out.k.cell 0
  clear hk
  go_enter Tryd.func39, Tryd.ntmps39
  have C1 := dnum' s 1 (a, c) W hs HR0.out
  obtain ⟨⟨⟨a1, c1⟩, n⟩, e1⟩ : ∃ x, dNum s 1 (a, c) = x := ⟨_, rfl⟩
  rw [e1] at C1
  simp only at C1
  have C1 := Lib.hid C1
  have E1 := Lib.hid e1
  clear e1
  go_wp2_with (first | (rw [HW.out]) | (refine wpList_load_row rfl 118 (.tmp 2) rfl (w.heap.size) rfl 118 _ (0, 0) _ H0.out.r Tryd.underlying118 rfl in_size ?_) | (fail))
  refine C1.out.mono ?_
  rintro e w1 ⟨rfl, b1⟩
  have H1 := Lib.hid (H0.out.step b1)
  clear C1
  have HR1 : Hid (Rg s (a1, c1)) := Lib.hid (by have h := dNum_rg (k := 1) HR0.out; rw [E1.out] at h; exact h)
  clear k0
  have kV := blkAt w1 (#[.string ⟨#[]⟩, .int .i64 0, .int .i64 0] : Array Value) 118 rfl
  have bV := below_setRow ((Below.refl w1.heap.size w1).alloc (Nat.le_refl _) (.cells #[.string ⟨#[]⟩, .int .i64 0, .int .i64 0] 118)) (Nat.le_refl _) (inA s a1 c1)
  have kV2 := kV.row0 (inA s a1 c1)
  obtain ⟨V2, hV⟩ : ∃ V, (w1.alloc (.cells #[.string ⟨#[]⟩, .int .i64 0, .int .i64 0] 118)).setRow w1.heap.size (inA s a1 c1) = V := ⟨_, rfl⟩
  rw [hV] at kV2 bV
  have HV2 := Lib.hid hV
  have KW2 := Lib.hid kV
  have KV2 := Lib.hid kV2
  have BV2 := Lib.hid bV
  have H2 := Lib.hid (H1.out.step bV)
  have lV2 : w.heap.size + 3 < w1.heap.size := H1.out.z.lt
  clear kV kV2 bV hV
  by_cases hn : n < 2
  · have d1 : decide (1 < n) = false := by simp; omega
    have HX := Lib.hid (show ack1 n (a1, c1) = (a1, c1) by unfold ack1; rw [if_neg (by omega)])
    clear hn
    obtain ⟨bs, hbs⟩ : ∃ y, decide (n = 1) = y := ⟨_, rfl⟩
    have hbq : (n == 1) = bs := hbs
    have HBS := Lib.hid hbs
    clear hbs
    have g23 := H2.out.k.cell 23
    have q23 := H2.out.k.frozen 23
    simp only [pkA, List.getElem?_toArray, List.getElem?_cons_zero, List.getElem?_cons_succ] at g23
    obtain ⟨Y3, hY3⟩ : ∃ Y, V2.setCell ⟨w.heap.size + 1, 23, none⟩ (.bool bs) = Y := ⟨_, rfl⟩
    have h := H2.out.set 23 (.bool bs) (({ p with session := bs } : Pk)) (m) rfl (H2.out.d.keep ⟨rfl, rfl, rfl, rfl, rfl⟩)
    rw [hY3] at h
    have H3 := Lib.hid h
    clear h
    have KA : Hid (Blk Y3 (w1.heap.size) (inA s a1 c1) 118) := Lib.hid (by rw [← hY3]; exact KV2.out.other (by omega) _ _)
    have RA : Hid (Rg s (a1, c1)) := Lib.hid HR1.out
    have C4 := dnum' s 1 (a1, c1) Y3 hs RA.out
    obtain ⟨⟨⟨a2, c2⟩, n2⟩, e4⟩ : ∃ x, dNum s 1 (a1, c1) = x := ⟨_, rfl⟩
    rw [e4] at C4
    simp only at C4
    have C4 := Lib.hid C4
    have E4 := Lib.hid e4
    clear e4
    go_wp2_with (first | (refine wpList_store_rowN rfl 118 (.tmp 6) (.tmp 34) rfl rfl (w1.heap.size) (inA s a1 c1) rfl rfl 118 (#[.string ⟨#[]⟩, .int .i64 0, .int .i64 0]) KW2.out in_size rfl (in_one _ _ _) V2 HV2.out ?_) | (refine wpList_load_row rfl 118 (.tmp 6) rfl (w1.heap.size) rfl 118 _ (0, 0) _ KA.out Tryd.underlying118 rfl in_size ?_) | (fail))
    refine C4.out.mono ?_
    rintro e w4 ⟨rfl, b4⟩
    have H4 := Lib.hid (H3.out.step b4)
    clear C4
    have HR4 : Hid (Rg s (a2, c2)) := Lib.hid (by have h := dNum_rg (k := 1) RA.out; rw [E4.out] at h; exact h)
    clear hbq
    have kV := blkAt w4 (#[.string ⟨#[]⟩, .int .i64 0, .int .i64 0] : Array Value) 118 rfl
    have bV := below_setRow ((Below.refl w4.heap.size w4).alloc (Nat.le_refl _) (.cells #[.string ⟨#[]⟩, .int .i64 0, .int .i64 0] 118)) (Nat.le_refl _) (inA s a2 c2)
    have kV2 := kV.row0 (inA s a2 c2)
    obtain ⟨V5, hV⟩ : ∃ V, (w4.alloc (.cells #[.string ⟨#[]⟩, .int .i64 0, .int .i64 0] 118)).setRow w4.heap.size (inA s a2 c2) = V := ⟨_, rfl⟩
    rw [hV] at kV2 bV
    have HV5 := Lib.hid hV
    have KW5 := Lib.hid kV
    have KV5 := Lib.hid kV2
    have BV5 := Lib.hid bV
    have H5 := Lib.hid (H4.out.step bV)
    have lV5 : w.heap.size + 3 < w4.heap.size := H4.out.z.lt
    clear kV kV2 bV hV
    have g7 := H5.out.k.cell 7
    have q7 := H5.out.k.frozen 7
    simp only [pkA, List.getElem?_toArray, List.getElem?_cons_zero, List.getElem?_cons_succ] at g7
    obtain ⟨Y6, hY6⟩ : ∃ Y, V5.setCell ⟨w.heap.size + 1, 7, none⟩ (.int .i64 n2) = Y := ⟨_, rfl⟩
    have h := H5.out.set 7 (.int .i64 n2) (({ ({ p with session := bs } : Pk) with code := n2 } : Pk)) (m) rfl (H5.out.d.keep ⟨rfl, rfl, rfl, rfl, rfl⟩)
    rw [hY6] at h
    have H6 := Lib.hid h
    clear h
    have KB : Hid (Blk Y6 (w4.heap.size) (inA s a2 c2) 118) := Lib.hid (by rw [← hY6]; exact KV5.out.other (by omega) _ _)
    have C7 := dprops_any s (a2, c2) 2 Y6 hs HR4.out
    obtain ⟨⟨⟨a3, c3⟩, L3⟩, e7⟩ : ∃ x, dProps 2 s (a2, c2) = x := ⟨_, rfl⟩
    rw [e7] at C7
    simp only at C7
    have C7 := Lib.hid C7
    have E7 := Lib.hid e7
    clear e7
    go_wp2_with (first | (refine wpList_store_rowN rfl 118 (.tmp 8) (.tmp 46) rfl rfl (w4.heap.size) (inA s a2 c2) rfl rfl 118 (#[.string ⟨#[]⟩, .int .i64 0, .int .i64 0]) KW5.out in_size rfl (in_one _ _ _) V5 HV5.out ?_) | (refine wpList_load_row rfl 118 (.tmp 8) rfl (w4.heap.size) rfl 118 _ (0, 0) _ KB.out Tryd.underlying118 rfl in_size ?_) | (fail))
    refine C7.out.mono ?_
    rintro e w7 ⟨hd3, rfl, s3, b7⟩
    simp only at s3 ⊢
    have H7 := Lib.hid (H6.out.step b7)
    have s3H := Lib.hid s3
    have s3l : w.heap.size ≤ Y6.heap.size := H6.out.bl.size
    have s3x : w.heap.size < Y6.heap.size := H6.out.r.lt
    clear C7 s3
    have kV := blkAt w7 (#[.string ⟨#[]⟩, .int .i64 0, .int .i64 0] : Array Value) 118 rfl
    have bV := below_setRow ((Below.refl w7.heap.size w7).alloc (Nat.le_refl _) (.cells #[.string ⟨#[]⟩, .int .i64 0, .int .i64 0] 118)) (Nat.le_refl _) (inA s a3 c3)
    have kV2 := kV.row0 (inA s a3 c3)
    obtain ⟨V8, hV⟩ : ∃ V, (w7.alloc (.cells #[.string ⟨#[]⟩, .int .i64 0, .int .i64 0] 118)).setRow w7.heap.size (inA s a3 c3) = V := ⟨_, rfl⟩
    rw [hV] at kV2 bV
    have HV8 := Lib.hid hV
    have KW8 := Lib.hid kV
    have KV8 := Lib.hid kV2
    have BV8 := Lib.hid bV
    have H8 := Lib.hid (H7.out.step bV)
    have lV8 : w.heap.size + 3 < w7.heap.size := H7.out.z.lt
    clear kV kV2 bV hV
    have S3 : Hid (Sl Y6.heap.size V8 122 4 hd3.v L3.length (flat L3)) := Lib.hid (s3H.out.below BV8.out)
    have g9 := H8.out.k.cell 9
    have q9 := H8.out.k.frozen 9
    simp only [pkA, List.getElem?_toArray, List.getElem?_cons_zero, List.getElem?_cons_succ] at g9
    obtain ⟨Y9, hY9⟩ : ∃ Y, V8.setCell ⟨w.heap.size + 1, 9, none⟩ (hd3.v) = Y := ⟨_, rfl⟩
    have h := H8.out.set 9 (hd3.v) (({ ({ ({ p with session := bs } : Pk) with code := n2 } : Pk) with ps := L3 } : Pk)) (({ m with p := hd3 } : Hs)) rfl (H8.out.d.setPs (B' := Y6.heap.size) S3.out (Nat.le_trans hBh s3l))
    rw [hY9] at h
    have H9 := Lib.hid h
    clear h
    have KC : Hid (Blk Y9 (w7.heap.size) (inA s a3 c3) 118) := Lib.hid (by rw [← hY9]; exact KV8.out.other (by omega) _ _)
    simp only [Hd.v] at hY9 ⊢
    go_wp2_with (first | (refine wpList_store_rowN rfl 118 (.tmp 10) (.tmp 53) rfl rfl (w7.heap.size) (inA s a3 c3) rfl rfl 118 (#[.string ⟨#[]⟩, .int .i64 0, .int .i64 0]) KW8.out in_size rfl (in_one _ _ _) V8 HV8.out ?_) | (fail))
    obtain ⟨sA, sB, sC, kq, kz, z2, z3, kd, kb⟩ := ret_end (t := (a3, c3)) (p := ({ ({ ({ p with session := bs } : Pk) with code := n2 } : Pk) with ps := L3 } : Pk)) (m := ({ m with p := hd3 } : Hs)) H9.out KC.out (by omega) (by omega)
    simp only at sA sB sC kq kz z2 z3 kd kb
    refine wp_region_held (S := fun w' => SRet (w7.heap.size) (w.heap.size + 1) s (a3, c3) (({ ({ ({ p with session := bs } : Pk) with code := n2 } : Pk) with ps := L3 } : Pk)) (({ m with p := hd3 } : Hs)) w') (by kernel_rfl) ?_
    change wpAnyH _ _ _ _ _ _ _ _ Y9.drew
    refine wpAnyH_takeD (i := 0) (d := 57) (v := .agg (inA s a3 c3)) rfl rfl (by kernel_rfl) (by kernel_rfl) (by kernel_rfl) (fun _ _ _ h => h) (y_load _ rfl rfl rfl (fun w hw => run_loadAt_row w _ _ _ _ _ _ hw.1 Tryd.underlying118 rfl in_size)) sA ?_
    simp only [Act.put, List.setIfInBounds_toArray, List.set_cons_succ, List.set_cons_zero]
    refine wpAnyH_takeD (i := 1) (d := 58) (v := .agg (pkA .i64 (({ ({ ({ p with session := bs } : Pk) with code := n2 } : Pk) with ps := L3 } : Pk)) (({ m with p := hd3 } : Hs)))) rfl rfl (by kernel_rfl) (by kernel_rfl) (by kernel_rfl) (fun _ _ _ h => h) (y_load _ rfl rfl rfl (fun w hw => run_loadAt_row w _ _ _ _ _ _ hw.2 Tryd.underlying52 rfl dpk_size)) sA ?_
    simp only [Act.put, List.setIfInBounds_toArray, List.set_cons_succ, List.set_cons_zero]
    refine two_store (k := 2) (l := 3) (dx := 4) (dy := 5) (vx := 57) (vy := 58) (bx := w.heap.size + 2) (by' := w.heap.size + 3) (cx := inA s a3 c3) (cy := pkA .i64 (({ ({ ({ p with session := bs } : Pk) with code := n2 } : Pk) with ps := L3 } : Pk)) (({ m with p := hd3 } : Hs))) _ _ rfl rfl rfl rfl rfl rfl rfl rfl (by kernel_rfl) (by kernel_rfl) (by kernel_rfl) rfl rfl rfl rfl kq kz (by omega) in_size dpk_size rfl rfl (in_one _ _ _) (dpk_one _ _) sB sC ?_
    go_wp2_with fail
    refine bodyPost_ret (v := .tuple #[.agg (inA s a3 c3), .agg (pkA .i64 (({ ({ ({ p with session := bs } : Pk) with code := n2 } : Pk) with ps := L3 } : Pk)) (({ m with p := hd3 } : Hs)))]) (results_two_rows (P := Tryd.prog) (t1 := 4) (t2 := 5) (ty1 := 118) (ty2 := 52) (by kernel_rfl) _ _ (w.heap.size + 2) (w.heap.size + 3) 118 52 _ _ _ _ rfl rfl z2 z3 Tryd.underlying118 rfl in_size Tryd.underlying52 rfl dpk_size) rfl ?_
    exact dwPost_mk (a := a3) (c := c3) (p := ({ ({ ({ p with session := bs } : Pk) with code := n2 } : Pk) with ps := L3 } : Pk)) (m := ({ m with p := hd3 } : Hs)) (by rw [EK.out]; unfold dConnack; simp only; rw [E1.out]; simp only; rw [HX.out]; rw [E4.out]; simp only; rw [E7.out, HBS.out]) kd kb
  · have d1 : decide (1 < n) = true := by simp; omega
    have hf := dFail_pairQ a1 c1 129
    obtain ⟨cf, hcf⟩ : ∃ y, (dFail (a1, c1) 129).2 = y := ⟨_, rfl⟩
    rw [hcf] at hf
    have HX := Lib.hid (show ack1 n (a1, c1) = (a1, cf) by unfold ack1; rw [if_pos hn]; exact hf)
    have C := dfail' s (a1, c1) 129 V2
    rw [hf] at C
    simp only at C
    have C := Lib.hid C
    clear hn hf hcf
    go_wp2_with (first | (refine wpList_store_rowN rfl 118 (.tmp 6) (.tmp 34) rfl rfl (w1.heap.size) (inA s a1 c1) rfl rfl 118 (#[.string ⟨#[]⟩, .int .i64 0, .int .i64 0]) KW2.out in_size rfl (in_one _ _ _) V2 HV2.out ?_) | (refine wpList_load_row rfl 118 (.tmp 6) rfl (w1.heap.size) rfl 118 _ (0, 0) _ KV2.out Tryd.underlying118 rfl in_size ?_) | (fail))
    refine C.out.mono ?_
    rintro e wf ⟨rfl, bf⟩
    have kf := KV2.out.of_below bf
    have kf2 := kf.row0 (inA s a1 cf)
    have bw := below_setRow (BV2.out.trans (bf.mono BV2.out.size)) (Nat.le_refl _) (inA s a1 cf)
    obtain ⟨Zf, hZf⟩ : ∃ Z, wf.setRow (w1.heap.size) (inA s a1 cf) = Z := ⟨_, rfl⟩
    rw [hZf] at kf2 bw
    have HZF := Lib.hid hZf
    have HKF := Lib.hid kf
    have HK2 := Lib.hid kf2
    have HDF := Lib.hid (H1.out.step bw)
    clear kf kf2 bw hZf C bf
    obtain ⟨bs, hbs⟩ : ∃ y, decide (n = 1) = y := ⟨_, rfl⟩
    have hbq : (n == 1) = bs := hbs
    have HBS := Lib.hid hbs
    clear hbs
    have g23 := HDF.out.k.cell 23
    have q23 := HDF.out.k.frozen 23
    simp only [pkA, List.getElem?_toArray, List.getElem?_cons_zero, List.getElem?_cons_succ] at g23
    obtain ⟨Y41, hY41⟩ : ∃ Y, Zf.setCell ⟨w.heap.size + 1, 23, none⟩ (.bool bs) = Y := ⟨_, rfl⟩
    have h := HDF.out.set 23 (.bool bs) (({ p with session := bs } : Pk)) (m) rfl (HDF.out.d.keep ⟨rfl, rfl, rfl, rfl, rfl⟩)
    rw [hY41] at h
    have H41 := Lib.hid h
    clear h
    have KA : Hid (Blk Y41 (w1.heap.size) (inA s a1 cf) 118) := Lib.hid (by rw [← hY41]; exact HK2.out.other (by omega) _ _)
    have RA : Hid (Rg s (a1, cf)) := Lib.hid HR1.out
    have C42 := dnum' s 1 (a1, cf) Y41 hs RA.out
    obtain ⟨⟨⟨a2, c2⟩, n2⟩, e42⟩ : ∃ x, dNum s 1 (a1, cf) = x := ⟨_, rfl⟩
    rw [e42] at C42
    simp only at C42
    have C42 := Lib.hid C42
    have E42 := Lib.hid e42
    clear e42
    go_wp2_with (first | (refine wpList_store_rowN rfl 118 (.tmp 6) (.tmp 39) rfl rfl (w1.heap.size) (inA s a1 cf) rfl rfl 118 (inA s a1 c1) HKF.out in_size rfl (in_one _ _ _) Zf HZF.out ?_) | (refine wpList_load_row rfl 118 (.tmp 6) rfl (w1.heap.size) rfl 118 _ (0, 0) _ KA.out Tryd.underlying118 rfl in_size ?_) | (fail))
    refine C42.out.mono ?_
    rintro e w42 ⟨rfl, b42⟩
    have H42 := Lib.hid (H41.out.step b42)
    clear C42
    have HR42 : Hid (Rg s (a2, c2)) := Lib.hid (by have h := dNum_rg (k := 1) RA.out; rw [E42.out] at h; exact h)
    clear hbq
    have kV := blkAt w42 (#[.string ⟨#[]⟩, .int .i64 0, .int .i64 0] : Array Value) 118 rfl
    have bV := below_setRow ((Below.refl w42.heap.size w42).alloc (Nat.le_refl _) (.cells #[.string ⟨#[]⟩, .int .i64 0, .int .i64 0] 118)) (Nat.le_refl _) (inA s a2 c2)
    have kV2 := kV.row0 (inA s a2 c2)
    obtain ⟨V43, hV⟩ : ∃ V, (w42.alloc (.cells #[.string ⟨#[]⟩, .int .i64 0, .int .i64 0] 118)).setRow w42.heap.size (inA s a2 c2) = V := ⟨_, rfl⟩
    rw [hV] at kV2 bV
    have HV43 := Lib.hid hV
    have KW43 := Lib.hid kV
    have KV43 := Lib.hid kV2
    have BV43 := Lib.hid bV
    have H43 := Lib.hid (H42.out.step bV)
    have lV43 : w.heap.size + 3 < w42.heap.size := H42.out.z.lt
    clear kV kV2 bV hV
    have g7 := H43.out.k.cell 7
    have q7 := H43.out.k.frozen 7
    simp only [pkA, List.getElem?_toArray, List.getElem?_cons_zero, List.getElem?_cons_succ] at g7
    obtain ⟨Y44, hY44⟩ : ∃ Y, V43.setCell ⟨w.heap.size + 1, 7, none⟩ (.int .i64 n2) = Y := ⟨_, rfl⟩
    have h := H43.out.set 7 (.int .i64 n2) (({ ({ p with session := bs } : Pk) with code := n2 } : Pk)) (m) rfl (H43.out.d.keep ⟨rfl, rfl, rfl, rfl, rfl⟩)
    rw [hY44] at h
    have H44 := Lib.hid h
    clear h
    have KB : Hid (Blk Y44 (w42.heap.size) (inA s a2 c2) 118) := Lib.hid (by rw [← hY44]; exact KV43.out.other (by omega) _ _)
    have C45 := dprops_any s (a2, c2) 2 Y44 hs HR42.out
    obtain ⟨⟨⟨a3, c3⟩, L3⟩, e45⟩ : ∃ x, dProps 2 s (a2, c2) = x := ⟨_, rfl⟩
    rw [e45] at C45
    simp only at C45
    have C45 := Lib.hid C45
    have E45 := Lib.hid e45
    clear e45
    go_wp2_with (first | (refine wpList_store_rowN rfl 118 (.tmp 8) (.tmp 46) rfl rfl (w42.heap.size) (inA s a2 c2) rfl rfl 118 (#[.string ⟨#[]⟩, .int .i64 0, .int .i64 0]) KW43.out in_size rfl (in_one _ _ _) V43 HV43.out ?_) | (refine wpList_load_row rfl 118 (.tmp 8) rfl (w42.heap.size) rfl 118 _ (0, 0) _ KB.out Tryd.underlying118 rfl in_size ?_) | (fail))
    refine C45.out.mono ?_
    rintro e w45 ⟨hd3, rfl, s3, b45⟩
    simp only at s3 ⊢
    have H45 := Lib.hid (H44.out.step b45)
    have s3H := Lib.hid s3
    have s3l : w.heap.size ≤ Y44.heap.size := H44.out.bl.size
    have s3x : w.heap.size < Y44.heap.size := H44.out.r.lt
    clear C45 s3
    have kV := blkAt w45 (#[.string ⟨#[]⟩, .int .i64 0, .int .i64 0] : Array Value) 118 rfl
    have bV := below_setRow ((Below.refl w45.heap.size w45).alloc (Nat.le_refl _) (.cells #[.string ⟨#[]⟩, .int .i64 0, .int .i64 0] 118)) (Nat.le_refl _) (inA s a3 c3)
    have kV2 := kV.row0 (inA s a3 c3)
    obtain ⟨V46, hV⟩ : ∃ V, (w45.alloc (.cells #[.string ⟨#[]⟩, .int .i64 0, .int .i64 0] 118)).setRow w45.heap.size (inA s a3 c3) = V := ⟨_, rfl⟩
    rw [hV] at kV2 bV
    have HV46 := Lib.hid hV
    have KW46 := Lib.hid kV
    have KV46 := Lib.hid kV2
    have BV46 := Lib.hid bV
    have H46 := Lib.hid (H45.out.step bV)
    have lV46 : w.heap.size + 3 < w45.heap.size := H45.out.z.lt
    clear kV kV2 bV hV
    have S3 : Hid (Sl Y44.heap.size V46 122 4 hd3.v L3.length (flat L3)) := Lib.hid (s3H.out.below BV46.out)
    have g9 := H46.out.k.cell 9
    have q9 := H46.out.k.frozen 9
    simp only [pkA, List.getElem?_toArray, List.getElem?_cons_zero, List.getElem?_cons_succ] at g9
    obtain ⟨Y47, hY47⟩ : ∃ Y, V46.setCell ⟨w.heap.size + 1, 9, none⟩ (hd3.v) = Y := ⟨_, rfl⟩
    have h := H46.out.set 9 (hd3.v) (({ ({ ({ p with session := bs } : Pk) with code := n2 } : Pk) with ps := L3 } : Pk)) (({ m with p := hd3 } : Hs)) rfl (H46.out.d.setPs (B' := Y44.heap.size) S3.out (Nat.le_trans hBh s3l))
    rw [hY47] at h
    have H47 := Lib.hid h
    clear h
    have KC : Hid (Blk Y47 (w45.heap.size) (inA s a3 c3) 118) := Lib.hid (by rw [← hY47]; exact KV46.out.other (by omega) _ _)
    simp only [Hd.v] at hY47 ⊢
    go_wp2_with (first | (refine wpList_store_rowN rfl 118 (.tmp 10) (.tmp 53) rfl rfl (w45.heap.size) (inA s a3 c3) rfl rfl 118 (#[.string ⟨#[]⟩, .int .i64 0, .int .i64 0]) KW46.out in_size rfl (in_one _ _ _) V46 HV46.out ?_) | (fail))
    obtain ⟨sA, sB, sC, kq, kz, z2, z3, kd, kb⟩ := ret_end (t := (a3, c3)) (p := ({ ({ ({ p with session := bs } : Pk) with code := n2 } : Pk) with ps := L3 } : Pk)) (m := ({ m with p := hd3 } : Hs)) H47.out KC.out (by omega) (by omega)
    simp only at sA sB sC kq kz z2 z3 kd kb
    refine wp_region_held (S := fun w' => SRet (w45.heap.size) (w.heap.size + 1) s (a3, c3) (({ ({ ({ p with session := bs } : Pk) with code := n2 } : Pk) with ps := L3 } : Pk)) (({ m with p := hd3 } : Hs)) w') (by kernel_rfl) ?_
    change wpAnyH _ _ _ _ _ _ _ _ Y47.drew
    refine wpAnyH_takeD (i := 0) (d := 57) (v := .agg (inA s a3 c3)) rfl rfl (by kernel_rfl) (by kernel_rfl) (by kernel_rfl) (fun _ _ _ h => h) (y_load _ rfl rfl rfl (fun w hw => run_loadAt_row w _ _ _ _ _ _ hw.1 Tryd.underlying118 rfl in_size)) sA ?_
    simp only [Act.put, List.setIfInBounds_toArray, List.set_cons_succ, List.set_cons_zero]
    refine wpAnyH_takeD (i := 1) (d := 58) (v := .agg (pkA .i64 (({ ({ ({ p with session := bs } : Pk) with code := n2 } : Pk) with ps := L3 } : Pk)) (({ m with p := hd3 } : Hs)))) rfl rfl (by kernel_rfl) (by kernel_rfl) (by kernel_rfl) (fun _ _ _ h => h) (y_load _ rfl rfl rfl (fun w hw => run_loadAt_row w _ _ _ _ _ _ hw.2 Tryd.underlying52 rfl dpk_size)) sA ?_
    simp only [Act.put, List.setIfInBounds_toArray, List.set_cons_succ, List.set_cons_zero]
    refine two_store (k := 2) (l := 3) (dx := 4) (dy := 5) (vx := 57) (vy := 58) (bx := w.heap.size + 2) (by' := w.heap.size + 3) (cx := inA s a3 c3) (cy := pkA .i64 (({ ({ ({ p with session := bs } : Pk) with code := n2 } : Pk) with ps := L3 } : Pk)) (({ m with p := hd3 } : Hs))) _ _ rfl rfl rfl rfl rfl rfl rfl rfl (by kernel_rfl) (by kernel_rfl) (by kernel_rfl) rfl rfl rfl rfl kq kz (by omega) in_size dpk_size rfl rfl (in_one _ _ _) (dpk_one _ _) sB sC ?_
    go_wp2_with fail
    refine bodyPost_ret (v := .tuple #[.agg (inA s a3 c3), .agg (pkA .i64 (({ ({ ({ p with session := bs } : Pk) with code := n2 } : Pk) with ps := L3 } : Pk)) (({ m with p := hd3 } : Hs)))]) (results_two_rows (P := Tryd.prog) (t1 := 4) (t2 := 5) (ty1 := 118) (ty2 := 52) (by kernel_rfl) _ _ (w.heap.size + 2) (w.heap.size + 3) 118 52 _ _ _ _ rfl rfl z2 z3 Tryd.underlying118 rfl in_size Tryd.underlying52 rfl dpk_size) rfl ?_
    exact dwPost_mk (a := a3) (c := c3) (p := ({ ({ ({ p with session := bs } : Pk) with code := n2 } : Pk) with ps := L3 } : Pk)) (m := ({ m with p := hd3 } : Hs)) (by rw [EK.out]; unfold dConnack; simp only; rw [E1.out]; simp only; rw [HX.out]; rw [E42.out]; simp only; rw [E45.out, HBS.out]) kd kb
end Go.Proofs.YtedapgeabpadaaaDoor

set_option linter.unusedVariables false
set_option linter.unusedSimpArgs false
namespace Go.Proofs.YtedapgeabpadaaaDoor
open Go.RowKit Pl Go.PlainAid Go.Shelf

theorem Dw.far {B : Nat} {w X : World} {s : ByteArray} {t : Tt} {p : Pk} {m : Hs} {g : Nat} {cs : Array Value} (h : Dw B w s t p m X) (hb : Blk X g cs 118) (hg : w.heap.size + 3 < g) (cs' : Array Value) : Dw B w s t p m (X.setRow g cs') :=
  ⟨below_setRow h.bl (by omega) _, h.r.row1 (by omega) _, h.k.row1 (by omega) _, h.q.row1 (by omega) _, h.z.row1 (by omega) _, h.d.row hb (.inl rfl) _, h.hB⟩
theorem Dw.farC {B : Nat} {w X : World} {s : ByteArray} {t : Tt} {p : Pk} {m : Hs} {g : Nat} {cs : Array Value} (h : Dw B w s t p m X) (hb : Blk X g cs 118) (hg : w.heap.size + 3 < g) (i : Nat) (v : Value) : Dw B w s t p m (X.setCell ⟨g, i, none⟩ v) :=
  ⟨h.bl.setCell (by show w.heap.size ≤ g; omega) v, h.r.other (by omega) _ _, h.k.other (by omega) _ _, h.q.other (by omega) _ _, h.z.other (by omega) _ _, h.d.cell hb (.inl rfl) _ _, h.hB⟩
set_option maxHeartbeats 8000000 in
set_option maxRecDepth 100000 in
theorem dbody_3 (B : Nat) (s : ByteArray) (t : Tt) (p : Pk) (m : Hs) (w : World) (hs : s.size ≤ 140737488351232) (hr : Rg s t) (hB : B ≤ w.heap.size) (hd : PkD B w p m) (hk : p.kind = 3) :
    Calls Tryd.prog 39 #[.agg (inA s t.1 t.2), .agg (pkA .i64 p m)] w (DwPost B w s (dKind s p t)) := by
  have EK := Lib.hid (show dKind s p t = dPub s p t by unfold dKind; rw [if_neg (by omega)]; rw [if_neg (by omega)]; rw [if_pos (by omega)])
  have t1 : (p.kind == 1) = false := beq_eq_false_iff_ne.2 (by omega)
  have t2 : (p.kind == 2) = false := beq_eq_false_iff_ne.2 (by omega)
  have t3 : (p.kind == 3) = true := by rw [hk]; rfl
  have hBh := hB
  obtain ⟨a, c⟩ := t
  simp only
  have h0 := Dw.new s (a, c) p m hB hd
  obtain ⟨W, hW⟩ : ∃ W, (((w.alloc (.cells (inA s a c) 118)).alloc (.cells (pkA .i64 p m) 52)).alloc (.cells (inA eS 0 0) 118)).alloc (.cells (pkA .i64 zPk nHs) 52) = W := ⟨_, rfl⟩
  rw [hW] at h0
  have H0 := Lib.hid h0
  have HW := Lib.hid (show (((w.alloc (.cells (inA s a c) 118)).alloc (.cells (pkA .i64 p m) 52)).alloc (.cells #[.string ⟨#[]⟩, .int .i64 0, .int .i64 0] 118)).alloc (.cells #[.int .i64 0, .bool false, .bool false, .int .i64 0, .int .i64 0, .string ⟨#[]⟩, .string ⟨#[]⟩, .int .i64 0, .slice none 0 0, .slice none 0 0, .string ⟨#[]⟩, .bool false, .int .i64 0, .bool false, .string ⟨#[]⟩, .string ⟨#[]⟩, .int .i64 0, .bool false, .slice none 0 0, .bool false, .bool false, .string ⟨#[]⟩, .string ⟨#[]⟩, .bool false, .slice none 0 0, .slice none 0 0] 52) = W from hW)
  have HR0 : Hid (Rg s (a, c)) := Lib.hid hr
  clear h0 hW hd hr
  have k0 : W.cell? ⟨w.heap.size + 1, 0, none⟩ = some (.int .i64 p.kind) := H0.out.k.cell 0
  clear hk
  go_enter Tryd.func39, Tryd.ntmps39
  have C1 := dtext' s (a, c) W hs HR0.out
  obtain ⟨⟨⟨a1, c1⟩, tp⟩, e1⟩ : ∃ x, dText s (a, c) = x := ⟨_, rfl⟩
  rw [e1] at C1
  simp only at C1
  have C1 := Lib.hid C1
  have E1 := Lib.hid e1
  clear e1
  go_wp2_with (first | (rw [HW.out]) | (refine wpList_load_row rfl 118 (.tmp 2) rfl (w.heap.size) rfl 118 _ (0, 0) _ H0.out.r Tryd.underlying118 rfl in_size ?_) | (fail))
  refine C1.out.mono ?_
  rintro e w1 ⟨rfl, b1⟩
  have H1 := Lib.hid (H0.out.step b1)
  clear C1
  have HR1 : Hid (Rg s (a1, c1)) := Lib.hid (by have h := dText_rg HR0.out; rw [E1.out] at h; exact h)
  clear k0
  have kV := blkAt w1 (#[.string ⟨#[]⟩, .int .i64 0, .int .i64 0] : Array Value) 118 rfl
  have bV := below_setRow ((Below.refl w1.heap.size w1).alloc (Nat.le_refl _) (.cells #[.string ⟨#[]⟩, .int .i64 0, .int .i64 0] 118)) (Nat.le_refl _) (inA s a1 c1)
  have kV2 := kV.row0 (inA s a1 c1)
  obtain ⟨V2, hV⟩ : ∃ V, (w1.alloc (.cells #[.string ⟨#[]⟩, .int .i64 0, .int .i64 0] 118)).setRow w1.heap.size (inA s a1 c1) = V := ⟨_, rfl⟩
  rw [hV] at kV2 bV
  have HV2 := Lib.hid hV
  have KW2 := Lib.hid kV
  have KV2 := Lib.hid kV2
  have BV2 := Lib.hid bV
  have H2 := Lib.hid (H1.out.step bV)
  have lV2 : w.heap.size + 3 < w1.heap.size := H1.out.z.lt
  clear kV kV2 bV hV
  have g5 := H2.out.k.cell 5
  have q5 := H2.out.k.frozen 5
  simp only [pkA, List.getElem?_toArray, List.getElem?_cons_zero, List.getElem?_cons_succ] at g5
  obtain ⟨Y3, hY3⟩ : ∃ Y, V2.setCell ⟨w.heap.size + 1, 5, none⟩ (.string tp) = Y := ⟨_, rfl⟩
  have h := H2.out.set 5 (.string tp) (({ p with topic := tp } : Pk)) (m) rfl (H2.out.d.keep ⟨rfl, rfl, rfl, rfl, rfl⟩)
  rw [hY3] at h
  have H3 := Lib.hid h
  clear h
  have KA : Hid (Blk Y3 (w1.heap.size) (inA s a1 c1) 118) := Lib.hid (by rw [← hY3]; exact KV2.out.other (by omega) _ _)
  have k3 : Y3.cell? ⟨w.heap.size + 1, 3, none⟩ = some (.int .i64 p.q) := H3.out.k.cell 3
  by_cases hq : 0 < p.q
  · have d1 : decide (0 < p.q) = true := by simpa using hq
    have HQ := Lib.hid hq
    clear hq
    have C31 := did_any s (a1, c1) Y3 hs HR1.out
    obtain ⟨⟨⟨a2, c2⟩, n2⟩, e31⟩ : ∃ x, dId s (a1, c1) = x := ⟨_, rfl⟩
    rw [e31] at C31
    simp only at C31
    have C31 := Lib.hid C31
    have E31 := Lib.hid e31
    clear e31
    go_wp2_with (first | (refine wpList_store_rowN rfl 118 (.tmp 12) (.tmp 64) rfl rfl (w1.heap.size) (inA s a1 c1) rfl rfl 118 (#[.string ⟨#[]⟩, .int .i64 0, .int .i64 0]) KW2.out in_size rfl (in_one _ _ _) V2 HV2.out ?_) | (refine wpList_load_row rfl 118 (.tmp 12) rfl (w1.heap.size) rfl 118 _ (0, 0) _ KA.out Tryd.underlying118 rfl in_size ?_) | (fail))
    refine C31.out.mono ?_
    rintro e w31 ⟨rfl, b31⟩
    have H31 := Lib.hid (H3.out.step b31)
    clear C31
    have HR31 : Hid (Rg s (a2, c2)) := Lib.hid (by have h := dId_rg HR1.out; rw [E31.out] at h; exact h)
    clear k3
    have bk := Lib.hid b31
    have kV := blkAt w31 (#[.string ⟨#[]⟩, .int .i64 0, .int .i64 0] : Array Value) 118 rfl
    have bV := below_setRow ((Below.refl w31.heap.size w31).alloc (Nat.le_refl _) (.cells #[.string ⟨#[]⟩, .int .i64 0, .int .i64 0] 118)) (Nat.le_refl _) (inA s a2 c2)
    have kV2 := kV.row0 (inA s a2 c2)
    obtain ⟨V32, hV⟩ : ∃ V, (w31.alloc (.cells #[.string ⟨#[]⟩, .int .i64 0, .int .i64 0] 118)).setRow w31.heap.size (inA s a2 c2) = V := ⟨_, rfl⟩
    rw [hV] at kV2 bV
    have HV32 := Lib.hid hV
    have KW32 := Lib.hid kV
    have KV32 := Lib.hid kV2
    have BV32 := Lib.hid bV
    have H32 := Lib.hid (H31.out.step bV)
    have lV32 : w.heap.size + 3 < w31.heap.size := H31.out.z.lt
    clear kV kV2 bV hV
    have KA2 := Lib.hid ((KA.out.of_below bk.out).of_below BV32.out)
    obtain ⟨Zq, hZq⟩ : ∃ Z, V32.setRow (w1.heap.size) (inA s a2 c2) = Z := ⟨_, rfl⟩
    have hzq := H32.out.far KA2.out (by omega) (inA s a2 c2)
    have kzq := KA2.out.row0 (inA s a2 c2)
    rw [hZq] at hzq kzq
    have HZQ := Lib.hid hZq
    have HQD := Lib.hid hzq
    have KQ := Lib.hid kzq
    clear hzq kzq hZq
    have g4 := HQD.out.k.cell 4
    have q4 := HQD.out.k.frozen 4
    simp only [pkA, List.getElem?_toArray, List.getElem?_cons_zero, List.getElem?_cons_succ] at g4
    obtain ⟨Y33, hY33⟩ : ∃ Y, Zq.setCell ⟨w.heap.size + 1, 4, none⟩ (.int .i64 n2) = Y := ⟨_, rfl⟩
    have h := HQD.out.set 4 (.int .i64 n2) (({ ({ p with topic := tp } : Pk) with id := n2 } : Pk)) (m) rfl (HQD.out.d.keep ⟨rfl, rfl, rfl, rfl, rfl⟩)
    rw [hY33] at h
    have H33 := Lib.hid h
    clear h
    have KB : Hid (Blk Y33 (w1.heap.size) (inA s a2 c2) 118) := Lib.hid (by rw [← hY33]; exact KQ.out.other (by omega) _ _)
    have C61 := dprops_any s (a2, c2) 3 Y33 hs HR31.out
    obtain ⟨⟨⟨a3, c3⟩, L3⟩, e61⟩ : ∃ x, dProps 3 s (a2, c2) = x := ⟨_, rfl⟩
    rw [e61] at C61
    simp only at C61
    have C61 := Lib.hid C61
    have E61 := Lib.hid e61
    clear e61
    go_wp2_with (first | (refine wpList_store_rowN rfl 118 (.tmp 14) (.tmp 74) rfl rfl (w31.heap.size) (inA s a2 c2) rfl rfl 118 (#[.string ⟨#[]⟩, .int .i64 0, .int .i64 0]) KW32.out in_size rfl (in_one _ _ _) V32 HV32.out ?_) | (refine wpList_load_row rfl 118 (.tmp 14) rfl (w31.heap.size) rfl 118 _ (0, 0) _ KV32.out Tryd.underlying118 rfl in_size ?_) | (refine wpList_store_rowN rfl 118 (.tmp 12) (.tmp 76) rfl rfl (w1.heap.size) (inA s a2 c2) rfl rfl 118 (inA s a1 c1) KA2.out in_size rfl (in_one _ _ _) Zq HZQ.out ?_) | (refine wpList_load_row rfl 118 (.tmp 12) rfl (w1.heap.size) rfl 118 _ (0, 0) _ KB.out Tryd.underlying118 rfl in_size ?_) | (fail))
    refine C61.out.mono ?_
    rintro e w61 ⟨hd3, rfl, s3, b61⟩
    simp only at s3 ⊢
    have H61 := Lib.hid (H33.out.step b61)
    have s3H := Lib.hid s3
    have s3l : w.heap.size ≤ Y33.heap.size := H33.out.bl.size
    have s3x : w.heap.size < Y33.heap.size := H33.out.r.lt
    clear C61 s3
    have HR61 : Hid (Rg s (a3, c3)) := Lib.hid (by have h := dProps_rg (k := 3) HR31.out; rw [E61.out] at h; exact h)
    obtain ⟨ha3, hb3⟩ := HR61.out
    simp only at ha3 hb3
    have kV := blkAt w61 (#[.string ⟨#[]⟩, .int .i64 0, .int .i64 0] : Array Value) 118 rfl
    have bV := below_setRow ((Below.refl w61.heap.size w61).alloc (Nat.le_refl _) (.cells #[.string ⟨#[]⟩, .int .i64 0, .int .i64 0] 118)) (Nat.le_refl _) (inA s a3 c3)
    have kV2 := kV.row0 (inA s a3 c3)
    obtain ⟨V62, hV⟩ : ∃ V, (w61.alloc (.cells #[.string ⟨#[]⟩, .int .i64 0, .int .i64 0] 118)).setRow w61.heap.size (inA s a3 c3) = V := ⟨_, rfl⟩
    rw [hV] at kV2 bV
    have HV62 := Lib.hid hV
    have KW62 := Lib.hid kV
    have KV62 := Lib.hid kV2
    have BV62 := Lib.hid bV
    have H62 := Lib.hid (H61.out.step bV)
    have lV62 : w.heap.size + 3 < w61.heap.size := H61.out.z.lt
    clear kV kV2 bV hV
    have S3 : Hid (Sl Y33.heap.size V62 122 4 hd3.v L3.length (flat L3)) := Lib.hid (s3H.out.below BV62.out)
    have g9 := H62.out.k.cell 9
    have q9 := H62.out.k.frozen 9
    simp only [pkA, List.getElem?_toArray, List.getElem?_cons_zero, List.getElem?_cons_succ] at g9
    obtain ⟨Y63, hY63⟩ : ∃ Y, V62.setCell ⟨w.heap.size + 1, 9, none⟩ (hd3.v) = Y := ⟨_, rfl⟩
    have h := H62.out.set 9 (hd3.v) (({ ({ ({ p with topic := tp } : Pk) with id := n2 } : Pk) with ps := L3 } : Pk)) (({ m with p := hd3 } : Hs)) rfl (H62.out.d.setPs (B' := Y33.heap.size) S3.out (Nat.le_trans hBh s3l))
    rw [hY63] at h
    have H63 := Lib.hid h
    clear h
    have KC : Hid (Blk Y63 (w61.heap.size) (inA s a3 c3) 118) := Lib.hid (by rw [← hY63]; exact KV62.out.other (by omega) _ _)
    simp only [Hd.v] at hY63 ⊢
    have v0 : Y63.cell? ⟨w61.heap.size, 0, none⟩ = some (.string s) := KC.out.cell 0
    have v1 : Y63.cell? ⟨w61.heap.size, 1, none⟩ = some (.int .i64 a3) := KC.out.cell 1
    have g6 := H63.out.k.cell 6
    have q6 := H63.out.k.frozen 6
    simp only [pkA, List.getElem?_toArray, List.getElem?_cons_zero, List.getElem?_cons_succ] at g6
    obtain ⟨Y64, hY64⟩ : ∃ Y, Y63.setCell ⟨w.heap.size + 1, 6, none⟩ (.string (s.extract a3.toNat s.size)) = Y := ⟨_, rfl⟩
    have h := H63.out.set 6 (.string (s.extract a3.toNat s.size)) (({ ({ ({ ({ p with topic := tp } : Pk) with id := n2 } : Pk) with ps := L3 } : Pk) with payload := s.extract a3.toNat s.size } : Pk)) (({ m with p := hd3 } : Hs)) rfl (H63.out.d.keep ⟨rfl, rfl, rfl, rfl, rfl⟩)
    rw [hY64] at h
    have H64 := Lib.hid h
    clear h
    have KD : Hid (Blk Y64 (w61.heap.size) (inA s a3 c3) 118) := Lib.hid (by rw [← hY64]; exact KC.out.other (by omega) _ _)
    have u0 : Y64.cell? ⟨w61.heap.size, 0, none⟩ = some (.string s) := KD.out.cell 0
    have u1 : Y64.cell? ⟨w61.heap.size, 1, none⟩ = some (.int .i64 a3) := KD.out.cell 1
    have uf := KD.out.frozen 1
    obtain ⟨YE, hYE⟩ : ∃ Y, Y64.setCell ⟨w61.heap.size, 1, none⟩ (.int .i64 s.size) = Y := ⟨_, rfl⟩
    have KE : Blk YE (w61.heap.size) (inA s (s.size : Int) c3) 118 := by rw [← hYE]; exact KD.out.set 1 _
    have hde := H64.out.farC KD.out (by omega) 1 (.int .i64 s.size)
    rw [hYE] at hde
    have HDE := Lib.hid hde
    have HKE := Lib.hid KE
    clear KE hde
    go_wp2_with (first | (refine wpList_store_rowN rfl 118 (.tmp 16) (.tmp 82) rfl rfl (w61.heap.size) (inA s a3 c3) rfl rfl 118 (#[.string ⟨#[]⟩, .int .i64 0, .int .i64 0]) KW62.out in_size rfl (in_one _ _ _) V62 HV62.out ?_) | (fail))
    obtain ⟨sA, sB, sC, kq, kz, z2, z3, kd, kb⟩ := ret_end (t := ((s.size : Int), c3)) (p := ({ ({ ({ ({ p with topic := tp } : Pk) with id := n2 } : Pk) with ps := L3 } : Pk) with payload := s.extract a3.toNat s.size } : Pk)) (m := ({ m with p := hd3 } : Hs)) HDE.out HKE.out (by omega) (by omega)
    simp only at sA sB sC kq kz z2 z3 kd kb
    refine wp_region_held (S := fun w' => SRet (w61.heap.size) (w.heap.size + 1) s ((s.size : Int), c3) (({ ({ ({ ({ p with topic := tp } : Pk) with id := n2 } : Pk) with ps := L3 } : Pk) with payload := s.extract a3.toNat s.size } : Pk)) (({ m with p := hd3 } : Hs)) w') (by kernel_rfl) ?_
    change wpAnyH _ _ _ _ _ _ _ _ YE.drew
    refine wpAnyH_takeD (i := 0) (d := 96) (v := .agg (inA s (s.size : Int) c3)) rfl rfl (by kernel_rfl) (by kernel_rfl) (by kernel_rfl) (fun _ _ _ h => h) (y_load _ rfl rfl rfl (fun w hw => run_loadAt_row w _ _ _ _ _ _ hw.1 Tryd.underlying118 rfl in_size)) sA ?_
    simp only [Act.put, List.setIfInBounds_toArray, List.set_cons_succ, List.set_cons_zero]
    refine wpAnyH_takeD (i := 1) (d := 97) (v := .agg (pkA .i64 (({ ({ ({ ({ p with topic := tp } : Pk) with id := n2 } : Pk) with ps := L3 } : Pk) with payload := s.extract a3.toNat s.size } : Pk)) (({ m with p := hd3 } : Hs)))) rfl rfl (by kernel_rfl) (by kernel_rfl) (by kernel_rfl) (fun _ _ _ h => h) (y_load _ rfl rfl rfl (fun w hw => run_loadAt_row w _ _ _ _ _ _ hw.2 Tryd.underlying52 rfl dpk_size)) sA ?_
    simp only [Act.put, List.setIfInBounds_toArray, List.set_cons_succ, List.set_cons_zero]
    refine two_store (k := 2) (l := 3) (dx := 4) (dy := 5) (vx := 96) (vy := 97) (bx := w.heap.size + 2) (by' := w.heap.size + 3) (cx := inA s (s.size : Int) c3) (cy := pkA .i64 (({ ({ ({ ({ p with topic := tp } : Pk) with id := n2 } : Pk) with ps := L3 } : Pk) with payload := s.extract a3.toNat s.size } : Pk)) (({ m with p := hd3 } : Hs))) _ _ rfl rfl rfl rfl rfl rfl rfl rfl (by kernel_rfl) (by kernel_rfl) (by kernel_rfl) rfl rfl rfl rfl kq kz (by omega) in_size dpk_size rfl rfl (in_one _ _ _) (dpk_one _ _) sB sC ?_
    go_wp2_with fail
    refine bodyPost_ret (v := .tuple #[.agg (inA s (s.size : Int) c3), .agg (pkA .i64 (({ ({ ({ ({ p with topic := tp } : Pk) with id := n2 } : Pk) with ps := L3 } : Pk) with payload := s.extract a3.toNat s.size } : Pk)) (({ m with p := hd3 } : Hs)))]) (results_two_rows (P := Tryd.prog) (t1 := 4) (t2 := 5) (ty1 := 118) (ty2 := 52) (by kernel_rfl) _ _ (w.heap.size + 2) (w.heap.size + 3) 118 52 _ _ _ _ rfl rfl z2 z3 Tryd.underlying118 rfl in_size Tryd.underlying52 rfl dpk_size) rfl ?_
    exact dwPost_mk (a := (s.size : Int)) (c := c3) (p := ({ ({ ({ ({ p with topic := tp } : Pk) with id := n2 } : Pk) with ps := L3 } : Pk) with payload := s.extract a3.toNat s.size } : Pk)) (m := ({ m with p := hd3 } : Hs)) (by rw [EK.out]; unfold dPub; rw [if_pos HQ.out, E1.out]; simp only; rw [E31.out]; unfold dPayl; simp only; rw [E61.out]) kd kb
  · have d1 : decide (0 < p.q) = false := by simpa using hq
    have HQ := Lib.hid hq
    clear hq
    have C61 := dprops_any s (a1, c1) 3 Y3 hs HR1.out
    obtain ⟨⟨⟨a3, c3⟩, L3⟩, e61⟩ : ∃ x, dProps 3 s (a1, c1) = x := ⟨_, rfl⟩
    rw [e61] at C61
    simp only at C61
    have C61 := Lib.hid C61
    have E61 := Lib.hid e61
    clear e61
    go_wp2_with (first | (refine wpList_store_rowN rfl 118 (.tmp 12) (.tmp 64) rfl rfl (w1.heap.size) (inA s a1 c1) rfl rfl 118 (#[.string ⟨#[]⟩, .int .i64 0, .int .i64 0]) KW2.out in_size rfl (in_one _ _ _) V2 HV2.out ?_) | (refine wpList_load_row rfl 118 (.tmp 12) rfl (w1.heap.size) rfl 118 _ (0, 0) _ KA.out Tryd.underlying118 rfl in_size ?_) | (fail))
    refine C61.out.mono ?_
    rintro e w61 ⟨hd3, rfl, s3, b61⟩
    simp only at s3 ⊢
    have H61 := Lib.hid (H3.out.step b61)
    have s3H := Lib.hid s3
    have s3l : w.heap.size ≤ Y3.heap.size := H3.out.bl.size
    have s3x : w.heap.size < Y3.heap.size := H3.out.r.lt
    clear C61 s3
    have HR61 : Hid (Rg s (a3, c3)) := Lib.hid (by have h := dProps_rg (k := 3) HR1.out; rw [E61.out] at h; exact h)
    obtain ⟨ha3, hb3⟩ := HR61.out
    simp only at ha3 hb3
    have kV := blkAt w61 (#[.string ⟨#[]⟩, .int .i64 0, .int .i64 0] : Array Value) 118 rfl
    have bV := below_setRow ((Below.refl w61.heap.size w61).alloc (Nat.le_refl _) (.cells #[.string ⟨#[]⟩, .int .i64 0, .int .i64 0] 118)) (Nat.le_refl _) (inA s a3 c3)
    have kV2 := kV.row0 (inA s a3 c3)
    obtain ⟨V62, hV⟩ : ∃ V, (w61.alloc (.cells #[.string ⟨#[]⟩, .int .i64 0, .int .i64 0] 118)).setRow w61.heap.size (inA s a3 c3) = V := ⟨_, rfl⟩
    rw [hV] at kV2 bV
    have HV62 := Lib.hid hV
    have KW62 := Lib.hid kV
    have KV62 := Lib.hid kV2
    have BV62 := Lib.hid bV
    have H62 := Lib.hid (H61.out.step bV)
    have lV62 : w.heap.size + 3 < w61.heap.size := H61.out.z.lt
    clear kV kV2 bV hV
    have S3 : Hid (Sl Y3.heap.size V62 122 4 hd3.v L3.length (flat L3)) := Lib.hid (s3H.out.below BV62.out)
    have g9 := H62.out.k.cell 9
    have q9 := H62.out.k.frozen 9
    simp only [pkA, List.getElem?_toArray, List.getElem?_cons_zero, List.getElem?_cons_succ] at g9
    obtain ⟨Y63, hY63⟩ : ∃ Y, V62.setCell ⟨w.heap.size + 1, 9, none⟩ (hd3.v) = Y := ⟨_, rfl⟩
    have h := H62.out.set 9 (hd3.v) (({ ({ p with topic := tp } : Pk) with ps := L3 } : Pk)) (({ m with p := hd3 } : Hs)) rfl (H62.out.d.setPs (B' := Y3.heap.size) S3.out (Nat.le_trans hBh s3l))
    rw [hY63] at h
    have H63 := Lib.hid h
    clear h
    have KC : Hid (Blk Y63 (w61.heap.size) (inA s a3 c3) 118) := Lib.hid (by rw [← hY63]; exact KV62.out.other (by omega) _ _)
    simp only [Hd.v] at hY63 ⊢
    have v0 : Y63.cell? ⟨w61.heap.size, 0, none⟩ = some (.string s) := KC.out.cell 0
    have v1 : Y63.cell? ⟨w61.heap.size, 1, none⟩ = some (.int .i64 a3) := KC.out.cell 1
    have g6 := H63.out.k.cell 6
    have q6 := H63.out.k.frozen 6
    simp only [pkA, List.getElem?_toArray, List.getElem?_cons_zero, List.getElem?_cons_succ] at g6
    obtain ⟨Y64, hY64⟩ : ∃ Y, Y63.setCell ⟨w.heap.size + 1, 6, none⟩ (.string (s.extract a3.toNat s.size)) = Y := ⟨_, rfl⟩
    have h := H63.out.set 6 (.string (s.extract a3.toNat s.size)) (({ ({ ({ p with topic := tp } : Pk) with ps := L3 } : Pk) with payload := s.extract a3.toNat s.size } : Pk)) (({ m with p := hd3 } : Hs)) rfl (H63.out.d.keep ⟨rfl, rfl, rfl, rfl, rfl⟩)
    rw [hY64] at h
    have H64 := Lib.hid h
    clear h
    have KD : Hid (Blk Y64 (w61.heap.size) (inA s a3 c3) 118) := Lib.hid (by rw [← hY64]; exact KC.out.other (by omega) _ _)
    have u0 : Y64.cell? ⟨w61.heap.size, 0, none⟩ = some (.string s) := KD.out.cell 0
    have u1 : Y64.cell? ⟨w61.heap.size, 1, none⟩ = some (.int .i64 a3) := KD.out.cell 1
    have uf := KD.out.frozen 1
    obtain ⟨YE, hYE⟩ : ∃ Y, Y64.setCell ⟨w61.heap.size, 1, none⟩ (.int .i64 s.size) = Y := ⟨_, rfl⟩
    have KE : Blk YE (w61.heap.size) (inA s (s.size : Int) c3) 118 := by rw [← hYE]; exact KD.out.set 1 _
    have hde := H64.out.farC KD.out (by omega) 1 (.int .i64 s.size)
    rw [hYE] at hde
    have HDE := Lib.hid hde
    have HKE := Lib.hid KE
    clear KE hde
    go_wp2_with (first | (refine wpList_store_rowN rfl 118 (.tmp 16) (.tmp 82) rfl rfl (w61.heap.size) (inA s a3 c3) rfl rfl 118 (#[.string ⟨#[]⟩, .int .i64 0, .int .i64 0]) KW62.out in_size rfl (in_one _ _ _) V62 HV62.out ?_) | (fail))
    obtain ⟨sA, sB, sC, kq, kz, z2, z3, kd, kb⟩ := ret_end (t := ((s.size : Int), c3)) (p := ({ ({ ({ p with topic := tp } : Pk) with ps := L3 } : Pk) with payload := s.extract a3.toNat s.size } : Pk)) (m := ({ m with p := hd3 } : Hs)) HDE.out HKE.out (by omega) (by omega)
    simp only at sA sB sC kq kz z2 z3 kd kb
    refine wp_region_held (S := fun w' => SRet (w61.heap.size) (w.heap.size + 1) s ((s.size : Int), c3) (({ ({ ({ p with topic := tp } : Pk) with ps := L3 } : Pk) with payload := s.extract a3.toNat s.size } : Pk)) (({ m with p := hd3 } : Hs)) w') (by kernel_rfl) ?_
    change wpAnyH _ _ _ _ _ _ _ _ YE.drew
    refine wpAnyH_takeD (i := 0) (d := 96) (v := .agg (inA s (s.size : Int) c3)) rfl rfl (by kernel_rfl) (by kernel_rfl) (by kernel_rfl) (fun _ _ _ h => h) (y_load _ rfl rfl rfl (fun w hw => run_loadAt_row w _ _ _ _ _ _ hw.1 Tryd.underlying118 rfl in_size)) sA ?_
    simp only [Act.put, List.setIfInBounds_toArray, List.set_cons_succ, List.set_cons_zero]
    refine wpAnyH_takeD (i := 1) (d := 97) (v := .agg (pkA .i64 (({ ({ ({ p with topic := tp } : Pk) with ps := L3 } : Pk) with payload := s.extract a3.toNat s.size } : Pk)) (({ m with p := hd3 } : Hs)))) rfl rfl (by kernel_rfl) (by kernel_rfl) (by kernel_rfl) (fun _ _ _ h => h) (y_load _ rfl rfl rfl (fun w hw => run_loadAt_row w _ _ _ _ _ _ hw.2 Tryd.underlying52 rfl dpk_size)) sA ?_
    simp only [Act.put, List.setIfInBounds_toArray, List.set_cons_succ, List.set_cons_zero]
    refine two_store (k := 2) (l := 3) (dx := 4) (dy := 5) (vx := 96) (vy := 97) (bx := w.heap.size + 2) (by' := w.heap.size + 3) (cx := inA s (s.size : Int) c3) (cy := pkA .i64 (({ ({ ({ p with topic := tp } : Pk) with ps := L3 } : Pk) with payload := s.extract a3.toNat s.size } : Pk)) (({ m with p := hd3 } : Hs))) _ _ rfl rfl rfl rfl rfl rfl rfl rfl (by kernel_rfl) (by kernel_rfl) (by kernel_rfl) rfl rfl rfl rfl kq kz (by omega) in_size dpk_size rfl rfl (in_one _ _ _) (dpk_one _ _) sB sC ?_
    go_wp2_with fail
    refine bodyPost_ret (v := .tuple #[.agg (inA s (s.size : Int) c3), .agg (pkA .i64 (({ ({ ({ p with topic := tp } : Pk) with ps := L3 } : Pk) with payload := s.extract a3.toNat s.size } : Pk)) (({ m with p := hd3 } : Hs)))]) (results_two_rows (P := Tryd.prog) (t1 := 4) (t2 := 5) (ty1 := 118) (ty2 := 52) (by kernel_rfl) _ _ (w.heap.size + 2) (w.heap.size + 3) 118 52 _ _ _ _ rfl rfl z2 z3 Tryd.underlying118 rfl in_size Tryd.underlying52 rfl dpk_size) rfl ?_
    exact dwPost_mk (a := (s.size : Int)) (c := c3) (p := ({ ({ ({ p with topic := tp } : Pk) with ps := L3 } : Pk) with payload := s.extract a3.toNat s.size } : Pk)) (m := ({ m with p := hd3 } : Hs)) (by rw [EK.out]; unfold dPub; rw [if_neg (by have h := HQ.out; omega), E1.out]; unfold dPayl; simp only; rw [E61.out]) kd kb
end Go.Proofs.YtedapgeabpadaaaDoor

set_option linter.unusedVariables false
set_option linter.unusedSimpArgs false
namespace Go.Proofs.YtedapgeabpadaaaDoor
open Go.RowKit Pl Go.PlainAid Go.Shelf

theorem dFail_pair (a c d : Int) : dFail (a, c) d = (a, (dFail (a, c) d).2) := Prod.ext (by unfold dFail; split <;> rfl) rfl
def ctlC : Nat → Code → Code
  | 0, c => c
  | n + 1, .seq _ d => ctlC n d
  | _ + 1, c => c
noncomputable abbrev dcc (n : Nat) : Code := ctlC n ((Tryd.f60).body.getD .skip)
set_option maxHeartbeats 32000000 in
set_option maxRecDepth 100000 in
theorem dcon_A {x0 x1 x6 x7 x8 x9 x10 x11 x12 x13 x14 x15 x16 x17 x18 x19 x20 x21 x22 x23 x24 x25 x26 x27 x28 x29 x30 x31 x32 x33 x34 x35 x36 x37 x38 x39 x40 x41 x42 x43 x44 x45 x46 x47 x48 x49 x50 x51 x52 x53 x54 x55 x56 x57 x58 x59 x60 x61 x62 x63 x64 x65 x66 x67 x68 x69 x70 x71 x72 x73 x74 x75 x76 x77 x78 x79 x80 x81 x82 x83 x84 x85 x86 x87 x88 x89 x90 x91 x92 x93 x94 x95 x96 x97 x98 x99 x100 x101 x102 x103 x104 x105 x106 x107 x108 x109 x110 x111 x112 x113 x114 x115 x116 x117 x118 x119 x120 x121 x122 x123 x124 x125 x126 x127 x128 x129 x130 x131 x132 x133 x134 x135 x136 x137 x138 x139 x140 x141 x142 x143 x144 x145 x146 x147 x148 x149 x150 x151 x152 x153 x154 x155 x156 x157 x158 x159 x160 x161 x162 x163 x164 x165 x166 x167 x168 x169 x170 x171 x172 : Value} (B : Nat) (s : ByteArray) (f4a f4c : Int) (f4p : Pk) (f4m : Hs) (w f4W : World) (RES : Tt × Pk) (hs : s.size ≤ 140737488351232) (f4Q : Hid (RES = dUser s f4p (f4a, f4c))) (f4G : Hid (Dw B w s (f4a, f4c) f4p f4m f4W)) (f4R : Hid (Rg s (f4a, f4c))) :
    (dcc 20).wp Tryd.prog (bodyPost Tryd.prog Tryd.f60 (DwPost B w s RES)) { tmps := #[x0, x1, .pointer (some ⟨w.heap.size, 0, none⟩), .pointer (some ⟨w.heap.size + 1, 0, none⟩), .pointer (some ⟨w.heap.size + 1 + 1, 0, none⟩), .pointer (some ⟨w.heap.size + 1 + 1 + 1, 0, none⟩), x6, x7, x8, x9, x10, x11, x12, x13, x14, x15, x16, x17, x18, x19, x20, x21, x22, x23, x24, x25, x26, x27, x28, x29, x30, x31, x32, x33, x34, x35, x36, x37, x38, x39, x40, x41, x42, x43, x44, x45, x46, x47, x48, x49, x50, x51, x52, x53, x54, x55, x56, x57, x58, x59, x60, x61, x62, x63, x64, x65, x66, x67, x68, x69, x70, x71, x72, x73, x74, x75, x76, x77, x78, x79, x80, x81, x82, x83, x84, x85, x86, x87, x88, x89, x90, x91, x92, x93, x94, x95, x96, x97, x98, x99, x100, x101, x102, x103, x104, x105, x106, x107, x108, x109, x110, x111, x112, x113, x114, x115, x116, x117, x118, x119, x120, x121, x122, x123, x124, x125, x126, x127, x128, x129, x130, x131, x132, x133, x134, x135, x136, x137, x138, x139, x140, x141, x142, x143, x144, x145, x146, x147, x148, x149, x150, x151, x152, x153, x154, x155, x156, x157, x158, x159, x160, x161, x162, x163, x164, x165, x166, x167, x168, x169, x170, x171, x172], defers := [] } f4W := by
  conv => arg 2; whnf
  obtain ⟨f5, hf5⟩ : ∃ y, f4p.hasUser = y := ⟨_, rfl⟩
  have Hf5 := Lib.hid hf5
  have k19 : f4W.cell? ⟨w.heap.size + 1, 19, none⟩ = some (.bool f5) := by rw [← hf5]; exact f4G.out.k.cell 19
  clear hf5
  go_upto_if 152 with (first | (fail))
  go_cut [18] (fun _ X => ∃ (a7 c7 : Int) (p7 : Pk) (m7 : Hs), Hid (RES = dPass s p7 (a7, c7)) ∧ Hid (Dw B w s (a7, c7) p7 m7 X) ∧ Hid (Rg s (a7, c7)))
  case first => as_aux_lemma =>
    cases f5
    · skip
      have QW := Lib.hid (show RES = dPass s f4p (f4a, f4c) by rw [f4Q.out]; unfold dUser; rw [if_neg (by rw [Hf5.out]; decide)])
      go_wp2_with fail
      go_meet
      exact ⟨f4a, f4c, f4p, f4m, QW, f4G, f4R⟩
    · skip
      have C131 := dtext' s (f4a, f4c) f4W hs f4R.out
      obtain ⟨⟨⟨aa, ca⟩, tu⟩, e131⟩ : ∃ x, dText s (f4a, f4c) = x := ⟨_, rfl⟩
      rw [e131] at C131
      simp only at C131
      have C131 := Lib.hid C131
      have E131 := Lib.hid e131
      clear e131
      go_wp2_with (first | (refine wpList_load_row rfl 118 (.tmp 2) rfl (w.heap.size) rfl 118 _ (0, 0) _ f4G.out.r Tryd.underlying118 rfl in_size ?_) | (fail))
      refine C131.out.mono ?_
      rintro e w131 ⟨rfl, b131⟩
      have H131 := Lib.hid (f4G.out.step b131)
      clear C131
      have HR131 : Hid (Rg s (aa, ca)) := Lib.hid (by have h := dText_rg f4R.out; rw [E131.out] at h; exact h)
      clear k19
      have kV := blkAt w131 (#[.string ⟨#[]⟩, .int .i64 0, .int .i64 0] : Array Value) 118 rfl
      have bV := below_setRow ((Below.refl w131.heap.size w131).alloc (Nat.le_refl _) (.cells #[.string ⟨#[]⟩, .int .i64 0, .int .i64 0] 118)) (Nat.le_refl _) (inA s aa ca)
      have kV2 := kV.row0 (inA s aa ca)
      obtain ⟨V132, hV⟩ : ∃ V, (w131.alloc (.cells #[.string ⟨#[]⟩, .int .i64 0, .int .i64 0] 118)).setRow w131.heap.size (inA s aa ca) = V := ⟨_, rfl⟩
      rw [hV] at kV2 bV
      have HV132 := Lib.hid hV
      have KW132 := Lib.hid kV
      have KV132 := Lib.hid kV2
      have BV132 := Lib.hid bV
      have H132 := Lib.hid (H131.out.step bV)
      have lV132 : w.heap.size + 3 < w131.heap.size := H131.out.z.lt
      clear kV kV2 bV hV
      obtain ⟨Z133, hZ133⟩ : ∃ Z, V132.setRow w.heap.size (inA s aa ca) = Z := ⟨_, rfl⟩
      have h := H132.out.put (aa, ca)
      simp only at h
      rw [hZ133] at h
      have H133 := Lib.hid h
      have HZ133 := Lib.hid hZ133
      clear h hZ133
      have g21 := H133.out.k.cell 21
      have q21 := H133.out.k.frozen 21
      simp only [pkA, List.getElem?_toArray, List.getElem?_cons_zero, List.getElem?_cons_succ] at g21
      obtain ⟨Y134, hY134⟩ : ∃ Y, Z133.setCell ⟨w.heap.size + 1, 21, none⟩ (.string tu) = Y := ⟨_, rfl⟩
      have h := H133.out.set 21 (.string tu) (({ f4p with user := tu } : Pk)) (f4m) rfl (H133.out.d.keep ⟨rfl, rfl, rfl, rfl, rfl⟩)
      rw [hY134] at h
      have H134 := Lib.hid h
      clear h
      have QW := Lib.hid (show RES = dPass s ({ f4p with user := tu } : Pk) (aa, ca) by rw [f4Q.out]; unfold dUser; rw [if_pos Hf5.out, E131.out])
      go_wp2_with (first | (refine wpList_store_rowN rfl 118 (.tmp 18) (.tmp 156) rfl rfl (w131.heap.size) (inA s aa ca) rfl rfl 118 (#[.string ⟨#[]⟩, .int .i64 0, .int .i64 0]) KW132.out in_size rfl (in_one _ _ _) V132 HV132.out ?_) | (refine wpList_load_row rfl 118 (.tmp 18) rfl (w131.heap.size) rfl 118 _ (0, 0) _ KV132.out Tryd.underlying118 rfl in_size ?_) | (refine wpList_store_rowN rfl 118 (.tmp 2) (.tmp 158) rfl rfl (w.heap.size) (inA s aa ca) rfl rfl 118 (inA s f4a f4c) H132.out.r in_size rfl (in_one _ _ _) Z133 HZ133.out ?_) | (fail))
      go_meet
      exact ⟨aa, ca, ({ f4p with user := tu } : Pk), f4m, QW, H134, HR131⟩
  case rest =>
  obtain ⟨f5a, f5c, f5p, f5m, f5Q, f5G, f5R⟩ := hcut
  clear k19 f4Q f4G f4R Hf5
  obtain ⟨f5W, rfl⟩ : ∃ V, V = wc := ⟨_, rfl⟩
  obtain ⟨f6, hf6⟩ : ∃ y, f5p.hasPass = y := ⟨_, rfl⟩
  have Hf6 := Lib.hid hf6
  have k20 : f5W.cell? ⟨w.heap.size + 1, 20, none⟩ = some (.bool f6) := by rw [← hf6]; exact f5G.out.k.cell 20
  clear hf6
  go_upto_if 162 with (first | (fail))
  go_cut [20] (fun _ X => ∃ (a7 c7 : Int) (p7 : Pk) (m7 : Hs), Hid (RES = ((a7, c7), p7)) ∧ Hid (Dw B w s (a7, c7) p7 m7 X) ∧ Hid (Rg s (a7, c7)))
  case first => as_aux_lemma =>
    cases f6
    · skip
      have QW := Lib.hid (show RES = ((f5a, f5c), f5p) by rw [f5Q.out]; unfold dPass; rw [if_neg (by rw [Hf6.out]; decide)])
      go_wp2_with fail
      go_meet
      exact ⟨f5a, f5c, f5p, f5m, QW, f5G, f5R⟩
    · skip
      have C161 := ddata' s (f5a, f5c) f5W hs f5R.out
      obtain ⟨⟨⟨aa, ca⟩, tu⟩, e161⟩ : ∃ x, dData s (f5a, f5c) = x := ⟨_, rfl⟩
      rw [e161] at C161
      simp only at C161
      have C161 := Lib.hid C161
      have E161 := Lib.hid e161
      clear e161
      go_wp2_with (first | (refine wpList_load_row rfl 118 (.tmp 2) rfl (w.heap.size) rfl 118 _ (0, 0) _ f5G.out.r Tryd.underlying118 rfl in_size ?_) | (fail))
      refine C161.out.mono ?_
      rintro e w161 ⟨rfl, b161⟩
      have H161 := Lib.hid (f5G.out.step b161)
      clear C161
      have HR161 : Hid (Rg s (aa, ca)) := Lib.hid (by have h := dData_rg f5R.out; rw [E161.out] at h; exact h)
      clear k20
      have kV := blkAt w161 (#[.string ⟨#[]⟩, .int .i64 0, .int .i64 0] : Array Value) 118 rfl
      have bV := below_setRow ((Below.refl w161.heap.size w161).alloc (Nat.le_refl _) (.cells #[.string ⟨#[]⟩, .int .i64 0, .int .i64 0] 118)) (Nat.le_refl _) (inA s aa ca)
      have kV2 := kV.row0 (inA s aa ca)
      obtain ⟨V162, hV⟩ : ∃ V, (w161.alloc (.cells #[.string ⟨#[]⟩, .int .i64 0, .int .i64 0] 118)).setRow w161.heap.size (inA s aa ca) = V := ⟨_, rfl⟩
      rw [hV] at kV2 bV
      have HV162 := Lib.hid hV
      have KW162 := Lib.hid kV
      have KV162 := Lib.hid kV2
      have BV162 := Lib.hid bV
      have H162 := Lib.hid (H161.out.step bV)
      have lV162 : w.heap.size + 3 < w161.heap.size := H161.out.z.lt
      clear kV kV2 bV hV
      obtain ⟨Z163, hZ163⟩ : ∃ Z, V162.setRow w.heap.size (inA s aa ca) = Z := ⟨_, rfl⟩
      have h := H162.out.put (aa, ca)
      simp only at h
      rw [hZ163] at h
      have H163 := Lib.hid h
      have HZ163 := Lib.hid hZ163
      clear h hZ163
      have g22 := H163.out.k.cell 22
      have q22 := H163.out.k.frozen 22
      simp only [pkA, List.getElem?_toArray, List.getElem?_cons_zero, List.getElem?_cons_succ] at g22
      obtain ⟨Y164, hY164⟩ : ∃ Y, Z163.setCell ⟨w.heap.size + 1, 22, none⟩ (.string tu) = Y := ⟨_, rfl⟩
      have h := H163.out.set 22 (.string tu) (({ f5p with pass := tu } : Pk)) (f5m) rfl (H163.out.d.keep ⟨rfl, rfl, rfl, rfl, rfl⟩)
      rw [hY164] at h
      have H164 := Lib.hid h
      clear h
      have QW := Lib.hid (show RES = ((aa, ca), ({ f5p with pass := tu } : Pk)) by rw [f5Q.out]; unfold dPass; rw [if_pos Hf6.out, E161.out])
      go_wp2_with (first | (refine wpList_store_rowN rfl 118 (.tmp 20) (.tmp 166) rfl rfl (w161.heap.size) (inA s aa ca) rfl rfl 118 (#[.string ⟨#[]⟩, .int .i64 0, .int .i64 0]) KW162.out in_size rfl (in_one _ _ _) V162 HV162.out ?_) | (refine wpList_load_row rfl 118 (.tmp 20) rfl (w161.heap.size) rfl 118 _ (0, 0) _ KV162.out Tryd.underlying118 rfl in_size ?_) | (refine wpList_store_rowN rfl 118 (.tmp 2) (.tmp 168) rfl rfl (w.heap.size) (inA s aa ca) rfl rfl 118 (inA s f5a f5c) H162.out.r in_size rfl (in_one _ _ _) Z163 HZ163.out ?_) | (fail))
      go_meet
      exact ⟨aa, ca, ({ f5p with pass := tu } : Pk), f5m, QW, H164, HR161⟩
  case rest =>
  obtain ⟨f6a, f6c, f6p, f6m, f6Q, f6G, f6R⟩ := hcut
  clear k20 f5Q f5G f5R Hf6
  obtain ⟨f6W, rfl⟩ : ∃ V, V = wc := ⟨_, rfl⟩
  go_wp2_with (first | (fail))
  obtain ⟨sA, sB, sC, kq, kz, z2, z3, kd, kb⟩ := ret_end (t := (f6a, f6c)) (p := f6p) (m := f6m) f6G.out f6G.out.r (by omega) (by omega)
  simp only at sA sB sC kq kz z2 z3 kd kb
  refine wp_region_held (S := fun w' => SRet (w.heap.size) (w.heap.size + 1) s (f6a, f6c) (f6p) (f6m) w') (by kernel_rfl) ?_
  change wpAnyH _ _ _ _ _ _ _ _ f6W.drew
  refine wpAnyH_takeD (i := 0) (d := 171) (v := .agg (inA s f6a f6c)) rfl rfl (by kernel_rfl) (by kernel_rfl) (by kernel_rfl) (fun _ _ _ h => h) (y_load _ rfl rfl rfl (fun w hw => run_loadAt_row w _ _ _ _ _ _ hw.1 Tryd.underlying118 rfl in_size)) sA ?_
  simp only [Act.put, List.setIfInBounds_toArray, List.set_cons_succ, List.set_cons_zero]
  refine wpAnyH_takeD (i := 1) (d := 172) (v := .agg (pkA .i64 (f6p) (f6m))) rfl rfl (by kernel_rfl) (by kernel_rfl) (by kernel_rfl) (fun _ _ _ h => h) (y_load _ rfl rfl rfl (fun w hw => run_loadAt_row w _ _ _ _ _ _ hw.2 Tryd.underlying52 rfl dpk_size)) sA ?_
  simp only [Act.put, List.setIfInBounds_toArray, List.set_cons_succ, List.set_cons_zero]
  refine two_store (k := 2) (l := 3) (dx := 4) (dy := 5) (vx := 171) (vy := 172) (bx := w.heap.size + 2) (by' := w.heap.size + 3) (cx := inA s f6a f6c) (cy := pkA .i64 (f6p) (f6m)) _ _ rfl rfl rfl rfl rfl rfl rfl rfl (by kernel_rfl) (by kernel_rfl) (by kernel_rfl) rfl rfl rfl rfl kq kz (by omega) in_size dpk_size rfl rfl (in_one _ _ _) (dpk_one _ _) sB sC ?_
  go_wp2_with fail
  refine bodyPost_ret (v := .tuple #[.agg (inA s f6a f6c), .agg (pkA .i64 (f6p) (f6m))]) (results_two_rows (P := Tryd.prog) (t1 := 4) (t2 := 5) (ty1 := 118) (ty2 := 52) (by kernel_rfl) _ _ (w.heap.size + 2) (w.heap.size + 3) 118 52 _ _ _ _ rfl rfl z2 z3 Tryd.underlying118 rfl in_size Tryd.underlying52 rfl dpk_size) rfl ?_
  exact dwPost_mk (a := f6a) (c := f6c) (p := f6p) (m := f6m) (f6Q.out) kd kb
end Go.Proofs.YtedapgeabpadaaaDoor

set_option linter.unusedVariables false
set_option linter.unusedSimpArgs false
namespace Go.Proofs.YtedapgeabpadaaaDoor
open Go.RowKit Pl Go.PlainAid Go.Shelf

set_option maxHeartbeats 32000000 in
set_option maxRecDepth 100000 in
theorem dcon_B {x0 x1 x6 x7 x8 x9 x10 x11 x12 x13 x14 x15 x16 x17 x18 x19 x20 x21 x22 x23 x24 x25 x26 x27 x28 x29 x30 x31 x32 x33 x34 x35 x36 x37 x38 x39 x40 x41 x42 x43 x44 x45 x46 x47 x48 x49 x50 x51 x52 x53 x54 x55 x56 x57 x58 x59 x60 x61 x62 x63 x64 x65 x66 x67 x68 x69 x70 x71 x72 x73 x74 x75 x76 x77 x78 x79 x80 x81 x82 x83 x84 x85 x86 x87 x88 x89 x90 x91 x92 x93 x94 x95 x96 x97 x98 x99 x100 x101 x102 x103 x104 x105 x106 x107 x108 x109 x110 x111 x112 x113 x114 x115 x116 x117 x118 x119 x120 x121 x122 x123 x124 x125 x126 x127 x128 x129 x130 x131 x132 x133 x134 x135 x136 x137 x138 x139 x140 x141 x142 x143 x144 x145 x146 x147 x148 x149 x150 x151 x152 x153 x154 x155 x156 x157 x158 x159 x160 x161 x162 x163 x164 x165 x166 x167 x168 x169 x170 x171 x172 : Value} (B : Nat) (s : ByteArray) (a3 yc : Int) (p1 : Pk) (m : Hs) (w yW : World) (RES : Tt × Pk) (hs : s.size ≤ 140737488351232) (hBh : B ≤ w.heap.size) (Q3 : Hid (RES = dKeep s p1 (a3, yc))) (yD : Hid (Dw B w s (a3, yc) p1 m yW)) (RY : Hid (Rg s (a3, yc))) :
    (dcc 13).wp Tryd.prog (bodyPost Tryd.prog Tryd.f60 (DwPost B w s RES)) { tmps := #[x0, x1, .pointer (some ⟨w.heap.size, 0, none⟩), .pointer (some ⟨w.heap.size + 1, 0, none⟩), .pointer (some ⟨w.heap.size + 1 + 1, 0, none⟩), .pointer (some ⟨w.heap.size + 1 + 1 + 1, 0, none⟩), x6, x7, x8, x9, x10, x11, x12, x13, x14, x15, x16, x17, x18, x19, x20, x21, x22, x23, x24, x25, x26, x27, x28, x29, x30, x31, x32, x33, x34, x35, x36, x37, x38, x39, x40, x41, x42, x43, x44, x45, x46, x47, x48, x49, x50, x51, x52, x53, x54, x55, x56, x57, x58, x59, x60, x61, x62, x63, x64, x65, x66, x67, x68, x69, x70, x71, x72, x73, x74, x75, x76, x77, x78, x79, x80, x81, x82, x83, x84, x85, x86, x87, x88, x89, x90, x91, x92, x93, x94, x95, x96, x97, x98, x99, x100, x101, x102, x103, x104, x105, x106, x107, x108, x109, x110, x111, x112, x113, x114, x115, x116, x117, x118, x119, x120, x121, x122, x123, x124, x125, x126, x127, x128, x129, x130, x131, x132, x133, x134, x135, x136, x137, x138, x139, x140, x141, x142, x143, x144, x145, x146, x147, x148, x149, x150, x151, x152, x153, x154, x155, x156, x157, x158, x159, x160, x161, x162, x163, x164, x165, x166, x167, x168, x169, x170, x171, x172], defers := [] } yW := by
  conv => arg 2; whnf
  have C13 := dnum' s 2 (a3, yc) yW hs RY.out
  obtain ⟨⟨⟨a4, c4⟩, kn⟩, e13⟩ : ∃ x, dNum s 2 (a3, yc) = x := ⟨_, rfl⟩
  rw [e13] at C13
  simp only at C13
  have C13 := Lib.hid C13
  have E13 := Lib.hid e13
  clear e13
  go_wp2_with (first | (refine wpList_load_row rfl 118 (.tmp 2) rfl (w.heap.size) rfl 118 _ (0, 0) _ yD.out.r Tryd.underlying118 rfl in_size ?_) | (fail))
  refine C13.out.mono ?_
  rintro e w13 ⟨rfl, b13⟩
  have H13 := Lib.hid (yD.out.step b13)
  clear C13
  have HR13 : Hid (Rg s (a4, c4)) := Lib.hid (by have h := dNum_rg (k := 2) RY.out; rw [E13.out] at h; exact h)
  obtain ⟨Z14, hZ14⟩ : ∃ Z, w13.setRow w.heap.size (inA s a4 c4) = Z := ⟨_, rfl⟩
  have h := H13.out.put (a4, c4)
  simp only at h
  rw [hZ14] at h
  have H14 := Lib.hid h
  have HZ14 := Lib.hid hZ14
  clear h hZ14
  have g12 := H14.out.k.cell 12
  have q12 := H14.out.k.frozen 12
  simp only [pkA, List.getElem?_toArray, List.getElem?_cons_zero, List.getElem?_cons_succ] at g12
  obtain ⟨Y15, hY15⟩ : ∃ Y, Z14.setCell ⟨w.heap.size + 1, 12, none⟩ (.int .i64 kn) = Y := ⟨_, rfl⟩
  have h := H14.out.set 12 (.int .i64 kn) (({ p1 with keep := kn } : Pk)) (m) rfl (H14.out.d.keep ⟨rfl, rfl, rfl, rfl, rfl⟩)
  rw [hY15] at h
  have H15 := Lib.hid h
  clear h
  have C16 := dprops_any s (a4, c4) 1 Y15 hs HR13.out
  obtain ⟨⟨⟨a5, c5⟩, L5⟩, e16⟩ : ∃ x, dProps 1 s (a4, c4) = x := ⟨_, rfl⟩
  rw [e16] at C16
  simp only at C16
  have C16 := Lib.hid C16
  have E16 := Lib.hid e16
  clear e16
  go_wp2_with (first | (refine wpList_store_rowN rfl 118 (.tmp 2) (.tmp 106) rfl rfl (w.heap.size) (inA s a4 c4) rfl rfl 118 (inA s a3 yc) H13.out.r in_size rfl (in_one _ _ _) Z14 HZ14.out ?_) | (refine wpList_load_row rfl 118 (.tmp 2) rfl (w.heap.size) rfl 118 _ (0, 0) _ H15.out.r Tryd.underlying118 rfl in_size ?_) | (fail))
  refine C16.out.mono ?_
  rintro e w16 ⟨hd5, rfl, s5, b16⟩
  simp only at s5 ⊢
  have H16 := Lib.hid (H15.out.step b16)
  have s5H := Lib.hid s5
  have s5l : w.heap.size ≤ Y15.heap.size := H15.out.bl.size
  have s5x : w.heap.size < Y15.heap.size := H15.out.r.lt
  clear C16 s5
  have HR16 : Hid (Rg s (a5, c5)) := Lib.hid (by have h := dProps_rg (k := 1) HR13.out; rw [E16.out] at h; exact h)
  obtain ⟨Z17, hZ17⟩ : ∃ Z, w16.setRow w.heap.size (inA s a5 c5) = Z := ⟨_, rfl⟩
  have h := H16.out.put (a5, c5)
  simp only at h
  rw [hZ17] at h
  have H17 := Lib.hid h
  have HZ17 := Lib.hid hZ17
  clear h hZ17
  have S5 : Hid (Sl Y15.heap.size Z17 122 4 hd5.v L5.length (flat L5)) := Lib.hid (by rw [← HZ17.out]; exact s5H.out.same fun k hk => setRow_other _ _ k _ (fun c => absurd c (Nat.ne_of_gt (Nat.lt_of_lt_of_le s5x (s5H.out.lt k hk).1))))
  have g9 := H17.out.k.cell 9
  have q9 := H17.out.k.frozen 9
  simp only [pkA, List.getElem?_toArray, List.getElem?_cons_zero, List.getElem?_cons_succ] at g9
  obtain ⟨Y18, hY18⟩ : ∃ Y, Z17.setCell ⟨w.heap.size + 1, 9, none⟩ (hd5.v) = Y := ⟨_, rfl⟩
  have h := H17.out.set 9 (hd5.v) (({ ({ p1 with keep := kn } : Pk) with ps := L5 } : Pk)) (({ m with p := hd5 } : Hs)) rfl (H17.out.d.setPs (B' := Y15.heap.size) S5.out (Nat.le_trans hBh s5l))
  rw [hY18] at h
  have H18 := Lib.hid h
  clear h
  simp only [Hd.v] at hY18 ⊢
  have C19 := dtext' s (a5, c5) Y18 hs HR16.out
  obtain ⟨⟨⟨a6, c6⟩, cl6⟩, e19⟩ : ∃ x, dText s (a5, c5) = x := ⟨_, rfl⟩
  rw [e19] at C19
  simp only at C19
  have C19 := Lib.hid C19
  have E19 := Lib.hid e19
  clear e19
  go_wp2_with (first | (refine wpList_store_rowN rfl 118 (.tmp 2) (.tmp 113) rfl rfl (w.heap.size) (inA s a5 c5) rfl rfl 118 (inA s a4 c4) H16.out.r in_size rfl (in_one _ _ _) Z17 HZ17.out ?_) | (refine wpList_load_row rfl 118 (.tmp 2) rfl (w.heap.size) rfl 118 _ (0, 0) _ H18.out.r Tryd.underlying118 rfl in_size ?_) | (fail))
  refine C19.out.mono ?_
  rintro e w19 ⟨rfl, b19⟩
  have H19 := Lib.hid (H18.out.step b19)
  clear C19
  have HR19 : Hid (Rg s (a6, c6)) := Lib.hid (by have h := dText_rg HR16.out; rw [E19.out] at h; exact h)
  obtain ⟨Z20, hZ20⟩ : ∃ Z, w19.setRow w.heap.size (inA s a6 c6) = Z := ⟨_, rfl⟩
  have h := H19.out.put (a6, c6)
  simp only at h
  rw [hZ20] at h
  have H20 := Lib.hid h
  have HZ20 := Lib.hid hZ20
  clear h hZ20
  have g10 := H20.out.k.cell 10
  have q10 := H20.out.k.frozen 10
  simp only [pkA, List.getElem?_toArray, List.getElem?_cons_zero, List.getElem?_cons_succ] at g10
  obtain ⟨Y21, hY21⟩ : ∃ Y, Z20.setCell ⟨w.heap.size + 1, 10, none⟩ (.string cl6) = Y := ⟨_, rfl⟩
  have h := H20.out.set 10 (.string cl6) (({ ({ ({ p1 with keep := kn } : Pk) with ps := L5 } : Pk) with client := cl6 } : Pk)) (({ m with p := hd5 } : Hs)) rfl (H20.out.d.keep ⟨rfl, rfl, rfl, rfl, rfl⟩)
  rw [hY21] at h
  have H21 := Lib.hid h
  clear h
  have Q4 := Lib.hid (show RES = dWill s ({ ({ ({ p1 with keep := kn } : Pk) with ps := L5 } : Pk) with client := cl6 } : Pk) (a6, c6) by rw [Q3.out]; unfold dKeep; rw [E13.out]; simp only; rw [E16.out]; simp only; rw [E19.out])
  obtain ⟨p4, hp4⟩ : ∃ y : Pk, ({ ({ ({ p1 with keep := kn } : Pk) with ps := L5 } : Pk) with client := cl6 } : Pk) = y := ⟨_, rfl⟩
  obtain ⟨m4, hm4⟩ : ∃ y : Hs, ({ m with p := hd5 } : Hs) = y := ⟨_, rfl⟩
  have G4 := H21
  rw [hp4, hm4] at G4
  rw [hp4] at Q4
  obtain ⟨f4, hf4⟩ : ∃ y, p4.hasWill = y := ⟨_, rfl⟩
  have HF4 := Lib.hid hf4
  have k13 : Y21.cell? ⟨w.heap.size + 1, 13, none⟩ = some (.bool f4) := by rw [← hf4]; exact G4.out.k.cell 13
  have R6 : Hid (Rg s (a6, c6)) := Lib.hid HR19.out
  clear hp4 hm4 hf4 Q3
  go_upto_if 125 with (first | (refine wpList_store_rowN rfl 118 (.tmp 2) (.tmp 120) rfl rfl (w.heap.size) (inA s a6 c6) rfl rfl 118 (inA s a5 c5) H19.out.r in_size rfl (in_one _ _ _) Z20 HZ20.out ?_) | (fail))
  go_cut [12] (fun _ X => ∃ (a7 c7 : Int) (p7 : Pk) (m7 : Hs), Hid (RES = dUser s p7 (a7, c7)) ∧ Hid (Dw B w s (a7, c7) p7 m7 X) ∧ Hid (Rg s (a7, c7)))
  case first => as_aux_lemma =>
    cases f4
    · skip
      have QW := Lib.hid (show RES = dUser s p4 (a6, c6) by rw [Q4.out]; unfold dWill; rw [if_neg (by rw [HF4.out]; decide)])
      go_wp2_with fail
      go_meet
      exact ⟨a6, c6, p4, m4, QW, G4, R6⟩
    · skip
      have C101 := dprops_any s (a6, c6) 0 Y21 hs R6.out
      obtain ⟨⟨⟨aa, ca⟩, La⟩, e101⟩ : ∃ x, dProps 0 s (a6, c6) = x := ⟨_, rfl⟩
      rw [e101] at C101
      simp only at C101
      have C101 := Lib.hid C101
      have E101 := Lib.hid e101
      clear e101
      go_wp2_with (first | (refine wpList_store_rowN rfl 118 (.tmp 2) (.tmp 120) rfl rfl (w.heap.size) (inA s a6 c6) rfl rfl 118 (inA s a5 c5) H19.out.r in_size rfl (in_one _ _ _) Z20 HZ20.out ?_) | (refine wpList_load_row rfl 118 (.tmp 2) rfl (w.heap.size) rfl 118 _ (0, 0) _ G4.out.r Tryd.underlying118 rfl in_size ?_) | (fail))
      refine C101.out.mono ?_
      rintro e w101 ⟨hda, rfl, sa, b101⟩
      simp only at sa ⊢
      have H101 := Lib.hid (G4.out.step b101)
      have saH := Lib.hid sa
      have sal : w.heap.size ≤ Y21.heap.size := G4.out.bl.size
      have sax : w.heap.size < Y21.heap.size := G4.out.r.lt
      clear C101 sa
      have HR101 : Hid (Rg s (aa, ca)) := Lib.hid (by have h := dProps_rg (k := 0) R6.out; rw [E101.out] at h; exact h)
      clear k13
      have kV := blkAt w101 (#[.string ⟨#[]⟩, .int .i64 0, .int .i64 0] : Array Value) 118 rfl
      have bV := below_setRow ((Below.refl w101.heap.size w101).alloc (Nat.le_refl _) (.cells #[.string ⟨#[]⟩, .int .i64 0, .int .i64 0] 118)) (Nat.le_refl _) (inA s aa ca)
      have kV2 := kV.row0 (inA s aa ca)
      obtain ⟨V102, hV⟩ : ∃ V, (w101.alloc (.cells #[.string ⟨#[]⟩, .int .i64 0, .int .i64 0] 118)).setRow w101.heap.size (inA s aa ca) = V := ⟨_, rfl⟩
      rw [hV] at kV2 bV
      have HV102 := Lib.hid hV
      have KW102 := Lib.hid kV
      have KV102 := Lib.hid kV2
      have BV102 := Lib.hid bV
      have H102 := Lib.hid (H101.out.step bV)
      have lV102 : w.heap.size + 3 < w101.heap.size := H101.out.z.lt
      clear kV kV2 bV hV
      have C103 := dtext' s (aa, ca) V102 hs HR101.out
      obtain ⟨⟨⟨ab, cb⟩, tb⟩, e103⟩ : ∃ x, dText s (aa, ca) = x := ⟨_, rfl⟩
      rw [e103] at C103
      simp only at C103
      have C103 := Lib.hid C103
      have E103 := Lib.hid e103
      clear e103
      go_wp2_with (first | (refine wpList_store_rowN rfl 118 (.tmp 12) (.tmp 129) rfl rfl (w101.heap.size) (inA s aa ca) rfl rfl 118 (#[.string ⟨#[]⟩, .int .i64 0, .int .i64 0]) KW102.out in_size rfl (in_one _ _ _) V102 HV102.out ?_) | (refine wpList_load_row rfl 118 (.tmp 12) rfl (w101.heap.size) rfl 118 _ (0, 0) _ KV102.out Tryd.underlying118 rfl in_size ?_) | (fail))
      refine C103.out.mono ?_
      rintro e w103 ⟨rfl, b103⟩
      have bb103 := Lib.hid b103
      have H103 := Lib.hid (H102.out.step b103)
      clear C103
      have HR103 : Hid (Rg s (ab, cb)) := Lib.hid (by have h := dText_rg HR101.out; rw [E103.out] at h; exact h)
      have kV := blkAt w103 (#[.string ⟨#[]⟩, .int .i64 0, .int .i64 0] : Array Value) 118 rfl
      have bV := below_setRow ((Below.refl w103.heap.size w103).alloc (Nat.le_refl _) (.cells #[.string ⟨#[]⟩, .int .i64 0, .int .i64 0] 118)) (Nat.le_refl _) (inA s ab cb)
      have kV2 := kV.row0 (inA s ab cb)
      obtain ⟨V104, hV⟩ : ∃ V, (w103.alloc (.cells #[.string ⟨#[]⟩, .int .i64 0, .int .i64 0] 118)).setRow w103.heap.size (inA s ab cb) = V := ⟨_, rfl⟩
      rw [hV] at kV2 bV
      have HV104 := Lib.hid hV
      have KW104 := Lib.hid kV
      have KV104 := Lib.hid kV2
      have BV104 := Lib.hid bV
      have H104 := Lib.hid (H103.out.step bV)
      have lV104 : w.heap.size + 3 < w103.heap.size := H103.out.z.lt
      clear kV kV2 bV hV
      have C105 := ddata' s (ab, cb) V104 hs HR103.out
      obtain ⟨⟨⟨ad, cd⟩, xd⟩, e105⟩ : ∃ x, dData s (ab, cb) = x := ⟨_, rfl⟩
      rw [e105] at C105
      simp only at C105
      have C105 := Lib.hid C105
      have E105 := Lib.hid e105
      clear e105
      go_wp2_with (first | (refine wpList_store_rowN rfl 118 (.tmp 14) (.tmp 134) rfl rfl (w103.heap.size) (inA s ab cb) rfl rfl 118 (#[.string ⟨#[]⟩, .int .i64 0, .int .i64 0]) KW104.out in_size rfl (in_one _ _ _) V104 HV104.out ?_) | (refine wpList_load_row rfl 118 (.tmp 14) rfl (w103.heap.size) rfl 118 _ (0, 0) _ KV104.out Tryd.underlying118 rfl in_size ?_) | (fail))
      refine C105.out.mono ?_
      rintro e w105 ⟨rfl, b105⟩
      have bb105 := Lib.hid b105
      have H105 := Lib.hid (H104.out.step b105)
      clear C105
      have HR105 : Hid (Rg s (ad, cd)) := Lib.hid (by have h := dData_rg HR103.out; rw [E105.out] at h; exact h)
      have kV := blkAt w105 (#[.string ⟨#[]⟩, .int .i64 0, .int .i64 0] : Array Value) 118 rfl
      have bV := below_setRow ((Below.refl w105.heap.size w105).alloc (Nat.le_refl _) (.cells #[.string ⟨#[]⟩, .int .i64 0, .int .i64 0] 118)) (Nat.le_refl _) (inA s ad cd)
      have kV2 := kV.row0 (inA s ad cd)
      obtain ⟨V106, hV⟩ : ∃ V, (w105.alloc (.cells #[.string ⟨#[]⟩, .int .i64 0, .int .i64 0] 118)).setRow w105.heap.size (inA s ad cd) = V := ⟨_, rfl⟩
      rw [hV] at kV2 bV
      have HV106 := Lib.hid hV
      have KW106 := Lib.hid kV
      have KV106 := Lib.hid kV2
      have BV106 := Lib.hid bV
      have H106 := Lib.hid (H105.out.step bV)
      have lV106 : w.heap.size + 3 < w105.heap.size := H105.out.z.lt
      clear kV kV2 bV hV
      obtain ⟨Z107, hZ107⟩ : ∃ Z, V106.setRow w.heap.size (inA s ad cd) = Z := ⟨_, rfl⟩
      have h := H106.out.put (ad, cd)
      simp only at h
      rw [hZ107] at h
      have H107 := Lib.hid h
      have HZ107 := Lib.hid hZ107
      clear h hZ107
      have SA : Hid (Sl Y21.heap.size Z107 122 4 hda.v La.length (flat La)) := Lib.hid (by rw [← HZ107.out]; exact (((((saH.out.below BV102.out).below bb103.out).below BV104.out).below bb105.out).below BV106.out).same fun k hk => setRow_other _ _ k _ (fun c => absurd c (Nat.ne_of_gt (Nat.lt_of_lt_of_le sax (saH.out.lt k hk).1))))
      have g18 := H107.out.k.cell 18
      have q18 := H107.out.k.frozen 18
      simp only [pkA, List.getElem?_toArray, List.getElem?_cons_zero, List.getElem?_cons_succ] at g18
      obtain ⟨Y108, hY108⟩ : ∃ Y, Z107.setCell ⟨w.heap.size + 1, 18, none⟩ (hda.v) = Y := ⟨_, rfl⟩
      have h := H107.out.set 18 (hda.v) (({ p4 with wps := La } : Pk)) (({ m4 with w := hda } : Hs)) rfl (H107.out.d.setWps (B' := Y21.heap.size) SA.out (Nat.le_trans hBh sal))
      rw [hY108] at h
      have H108 := Lib.hid h
      clear h
      simp only [Hd.v] at hY108 ⊢
      have g14 := H108.out.k.cell 14
      have q14 := H108.out.k.frozen 14
      simp only [pkA, List.getElem?_toArray, List.getElem?_cons_zero, List.getElem?_cons_succ] at g14
      obtain ⟨Y109, hY109⟩ : ∃ Y, Y108.setCell ⟨w.heap.size + 1, 14, none⟩ (.string tb) = Y := ⟨_, rfl⟩
      have h := H108.out.set 14 (.string tb) (({ ({ p4 with wps := La } : Pk) with wt := tb } : Pk)) (({ m4 with w := hda } : Hs)) rfl (H108.out.d.keep ⟨rfl, rfl, rfl, rfl, rfl⟩)
      rw [hY109] at h
      have H109 := Lib.hid h
      clear h
      have g15 := H109.out.k.cell 15
      have q15 := H109.out.k.frozen 15
      simp only [pkA, List.getElem?_toArray, List.getElem?_cons_zero, List.getElem?_cons_succ] at g15
      obtain ⟨Y110, hY110⟩ : ∃ Y, Y109.setCell ⟨w.heap.size + 1, 15, none⟩ (.string xd) = Y := ⟨_, rfl⟩
      have h := H109.out.set 15 (.string xd) (({ ({ ({ p4 with wps := La } : Pk) with wt := tb } : Pk) with wp := xd } : Pk)) (({ m4 with w := hda } : Hs)) rfl (H109.out.d.keep ⟨rfl, rfl, rfl, rfl, rfl⟩)
      rw [hY110] at h
      have H110 := Lib.hid h
      clear h
      have QW := Lib.hid (show RES = dUser s ({ ({ ({ p4 with wps := La } : Pk) with wt := tb } : Pk) with wp := xd } : Pk) (ad, cd) by rw [Q4.out]; unfold dWill; rw [if_pos HF4.out, E101.out]; simp only; rw [E103.out]; simp only; rw [E105.out])
      go_wp2_with (first | (refine wpList_store_rowN rfl 118 (.tmp 16) (.tmp 139) rfl rfl (w105.heap.size) (inA s ad cd) rfl rfl 118 (#[.string ⟨#[]⟩, .int .i64 0, .int .i64 0]) KW106.out in_size rfl (in_one _ _ _) V106 HV106.out ?_) | (refine wpList_load_row rfl 118 (.tmp 16) rfl (w105.heap.size) rfl 118 _ (0, 0) _ KV106.out Tryd.underlying118 rfl in_size ?_) | (refine wpList_store_rowN rfl 118 (.tmp 2) (.tmp 141) rfl rfl (w.heap.size) (inA s ad cd) rfl rfl 118 (inA s a6 c6) H106.out.r in_size rfl (in_one _ _ _) Z107 HZ107.out ?_) | (fail))
      go_meet
      exact ⟨ad, cd, ({ ({ ({ p4 with wps := La } : Pk) with wt := tb } : Pk) with wp := xd } : Pk), ({ m4 with w := hda } : Hs), QW, H110, HR105⟩
  case rest =>
  obtain ⟨f4a, f4c, f4p, f4m, f4Q, f4G, f4R⟩ := hcut
  exact ‹∀ a w', Code.wp _ _ _ a w' → _› _ _ (dcon_A B s f4a f4c f4p f4m w _ RES hs f4Q f4G f4R)
end Go.Proofs.YtedapgeabpadaaaDoor

