/- Parts of the proof, joined: RgJ, RgK. -/
import Derived.Test.YtedapgeabpadaaaDoorJ6P13
import Derived.Test.YtedapgeabpadaaaDoorJ6P10
set_option linter.unusedVariables false
set_option linter.unusedSimpArgs false
namespace Go.Proofs.YtedapgeabpadaaaDoor
open Go.RowKit Pl Go.PlainAid Go.Shelf

theorem dsb_size : (Tryd.prog.info? 83).map (·.size) = some 5 := by kernel_rfl
theorem dsb_one (x : Sb) : (sbA x).all (·.oneCell') = true := by simp [sbA]; simp [Value.oneCell']
/-- getSub's own blocks. -/
structure Sbw (w : World) (s : ByteArray) (u : Tt) (X : World) : Prop where
  bl : Below w.heap.size w X
  r : Blk X w.heap.size (inA s u.1 u.2) 118
  q : Blk X (w.heap.size + 1) (inA eS 0 0) 118
  z : Blk X (w.heap.size + 2) (sbA zSb) 83
theorem Sbw.step {w : World} {s : ByteArray} {u : Tt} {X Y : World} (h : Sbw w s u X) (b : Below X.heap.size X Y) : Sbw w s u Y := ⟨h.bl.trans (b.mono h.bl.size), h.r.of_below b, h.q.of_below b, h.z.of_below b⟩
theorem Sbw.put {w : World} {s : ByteArray} {u : Tt} {X : World} (h : Sbw w s u X) (v : Tt) : Sbw w s v (X.setRow w.heap.size (inA s v.1 v.2)) :=
  ⟨below_setRow h.bl (Nat.le_refl _) _, h.r.row0 _, h.q.row1 (by omega) _, h.z.row1 (by omega) _⟩
theorem Sbw.new (w : World) (s : ByteArray) (u : Tt) : Sbw w s u (((w.alloc (.cells (inA s u.1 u.2) 118)).alloc (.cells (inA eS 0 0) 118)).alloc (.cells (sbA zSb) 83)) := by
  have b0 := (Below.refl w.heap.size w).alloc (Nat.le_refl _) (.cells (inA s u.1 u.2) 118)
  have k0 := blkAt w (inA s u.1 u.2) 118 rfl
  have k1 := blkAt (w.alloc (.cells (inA s u.1 u.2) 118)) (inA eS 0 0) 118 (b := w.heap.size + 1) (by simp)
  have b1 := b0.alloc b0.size (.cells (inA eS 0 0) 118)
  have k2 := blkAt ((w.alloc (.cells (inA s u.1 u.2) 118)).alloc (.cells (inA eS 0 0) 118)) (sbA zSb) 83 (b := w.heap.size + 2) (by simp)
  exact ⟨b1.alloc b1.size _, (k0.alloc _).alloc _, k1.alloc _, k2⟩
abbrev SSub (b0 bs : Nat) (s : ByteArray) (u : Tt) (x : Sb) (W : World) : Prop := Blk W b0 (inA s u.1 u.2) 118 ∧ Blk W bs (sbA x) 83
theorem sub_end {w X : World} {s : ByteArray} {u : Tt} {x : Sb} {bs : Nat} (h : Sbw w s u X) (hl : Blk X bs (sbA x) 83) (hb : w.heap.size + 2 < bs) :
    SSub w.heap.size bs s u x X.drew ∧ SSub w.heap.size bs s u x (X.drew.setRow (w.heap.size + 1) (inA s u.1 u.2)) ∧ SSub w.heap.size bs s u x ((X.drew.setRow (w.heap.size + 1) (inA s u.1 u.2)).setRow (w.heap.size + 2) (sbA x)) ∧
    Blk X.drew (w.heap.size + 1) (inA eS 0 0) 118 ∧ Blk X.drew (w.heap.size + 2) (sbA zSb) 83 ∧
    Blk ((X.drew.setRow (w.heap.size + 1) (inA s u.1 u.2)).setRow (w.heap.size + 2) (sbA x)) (w.heap.size + 1) (inA s u.1 u.2) 118 ∧ Blk ((X.drew.setRow (w.heap.size + 1) (inA s u.1 u.2)).setRow (w.heap.size + 2) (sbA x)) (w.heap.size + 2) (sbA x) 83 ∧
    Below w.heap.size w ((X.drew.setRow (w.heap.size + 1) (inA s u.1 u.2)).setRow (w.heap.size + 2) (sbA x)) := by
  have kr : Blk X.drew w.heap.size (inA s u.1 u.2) 118 := h.r
  have kl : Blk X.drew bs (sbA x) 83 := hl
  have kq : Blk X.drew (w.heap.size + 1) (inA eS 0 0) 118 := h.q
  have kz : Blk X.drew (w.heap.size + 2) (sbA zSb) 83 := h.z
  have kz1 := kz.row1 (g' := w.heap.size + 1) (by omega) (inA s u.1 u.2)
  exact ⟨⟨kr, kl⟩, ⟨kr.row1 (by omega) _, kl.row1 (by omega) _⟩, ⟨(kr.row1 (by omega) _).row1 (by omega) _, (kl.row1 (by omega) _).row1 (by omega) _⟩, kq, kz, (kq.row0 _).row1 (by omega) _, kz1.row0 _, below_setRow (below_setRow h.bl.drew (by omega) _) (by omega) _⟩
theorem dNum_bd1 (s : ByteArray) (t : Tt) : 0 ≤ (dNum s 1 t).2 ∧ (dNum s 1 t).2 ≤ 255 := by
  unfold dNum dRd
  split
  · simp
  · obtain ⟨r, hr⟩ : ∃ r, rNum s 1 t.1 = r := ⟨_, rfl⟩
    rw [hr]
    cases r with
    | error e => simp
    | ok v => obtain ⟨n, b⟩ := v; exact num_255 hr
def DsbPost (w : World) (s : ByteArray) (x : Tt × Sb) (e : Ending) (w' : World) : Prop := e = .returned (.tuple #[.agg (inA s x.1.1 x.1.2), .agg (sbA x.2)]) ∧ Below w.heap.size w w'
theorem dsbPost_mk {w w' : World} {s : ByteArray} {x : Tt × Sb} {u : Tt} {y : Sb} (h : x = (u, y)) (hb : Below w.heap.size w w') : DsbPost w s x (.returned (.tuple #[.agg (inA s u.1 u.2), .agg (sbA y)])) w' := by
  subst h
  exact ⟨rfl, hb⟩
set_option maxHeartbeats 8000000 in
set_option maxRecDepth 100000 in
theorem dsub_any (s : ByteArray) (t : Tt) (w : World) (hs : s.size ≤ 140737488351232) (hr : Rg s t) :
    Calls Tryd.prog 89 #[.agg (inA s t.1 t.2)] w (DsbPost w s (dSub s t)) := by
  obtain ⟨a, c⟩ := t
  simp only
  have h0 := Sbw.new w s (a, c)
  simp only at h0
  obtain ⟨W, hW⟩ : ∃ W, ((w.alloc (.cells (inA s a c) 118)).alloc (.cells (inA eS 0 0) 118)).alloc (.cells (sbA zSb) 83) = W := ⟨_, rfl⟩
  rw [hW] at h0
  have H0 := Lib.hid h0
  have HW := Lib.hid (show ((w.alloc (.cells (inA s a c) 118)).alloc (.cells #[.string ⟨#[]⟩, .int .i64 0, .int .i64 0] 118)).alloc (.cells #[.string ⟨#[]⟩, .int .i64 0, .bool false, .bool false, .int .i64 0] 83) = W from hW)
  have C1 := dtext' s (a, c) W hs hr
  have hr1 := dText_rg (s := s) (t := (a, c)) hr
  have hdS : ∃ f u n v, dText s (a, c) = (u, f) ∧ dNum s 1 u = (v, n) := ⟨_, _, _, _, rfl, rfl⟩
  obtain ⟨f, ⟨a1, c1⟩, n, ⟨a2, c2⟩, e1, e2⟩ := hdS
  have hdd : dSub s (a, c) = (sub2 n (sub1 n (a2, c2)), sbOf f n) := by unfold dSub; rw [e1]; simp only; rw [e2]
  have hnb := dNum_bd1 s (a1, c1)
  rw [e2] at hnb
  simp only at hnb
  obtain ⟨hn0, hn1⟩ := hnb
  rw [e1] at C1 hr1
  simp only at C1 hr1
  have HDD := Lib.hid hdd
  have C1 := Lib.hid C1
  have E2 := Lib.hid e2
  have HR1 := Lib.hid hr1
  clear h0 e1 e2 hr hW hr1 hdd
  go_enter Tryd.func89, Tryd.ntmps89
  go_wp2_with (first | (rw [HW.out]) | (refine wpList_load_row rfl 118 (.tmp 1) rfl (w.heap.size) rfl 118 _ (0, 0) _ H0.out.r Tryd.underlying118 rfl in_size ?_) | (fail))
  refine C1.out.mono ?_
  rintro e w1 ⟨rfl, b1⟩
  have H1 := Lib.hid (H0.out.step b1)
  clear b1 C1
  obtain ⟨Z1, hZ1⟩ : ∃ Z, w1.setRow w.heap.size (inA s a1 c1) = Z := ⟨_, rfl⟩
  have h := H1.out.put (a1, c1)
  simp only at h
  rw [hZ1] at h
  have H2 := Lib.hid h
  have HZ1 := Lib.hid hZ1
  clear h hZ1
  have C2 := dnum' s 1 (a1, c1) Z1 hs HR1.out
  rw [E2.out] at C2
  simp only at C2
  have C2 := Lib.hid C2
  go_wp2_with (first | (refine wpList_store_rowN rfl 118 (.tmp 1) (.tmp 12) rfl rfl (w.heap.size) (inA s a1 c1) rfl rfl 118 (inA s a c) H1.out.r in_size rfl (in_one _ _ _) Z1 HZ1.out ?_) | (refine wpList_load_row rfl 118 (.tmp 1) rfl (w.heap.size) rfl 118 _ (0, 0) _ H2.out.r Tryd.underlying118 rfl in_size ?_) | (fail))
  refine C2.out.mono ?_
  rintro e w2 ⟨rfl, b2⟩
  have H3 := Lib.hid (H2.out.step b2)
  clear b2 C2
  obtain ⟨Z2, hZ2⟩ : ∃ Z, w2.setRow w.heap.size (inA s a2 c2) = Z := ⟨_, rfl⟩
  have h := H3.out.put (a2, c2)
  simp only at h
  rw [hZ2] at h
  have H4 := Lib.hid h
  have HZ2 := Lib.hid hZ2
  clear h hZ2
  have K4 := Lib.hid (isset_any n 4 Z2 hn0 hn1 (by decide) (by decide))
  have K8 := Lib.hid (isset_any n 8 Z2 hn0 hn1 (by decide) (by decide))
  obtain ⟨q, hq⟩ : ∃ q, n % 4 = q := ⟨_, rfl⟩
  obtain ⟨g, hg⟩ : ∃ g, n / 16 % 4 = g := ⟨_, rfl⟩
  have m4 : n.tmod 4 = q := by rw [Int.tmod_eq_emod_of_nonneg hn0, hq]
  have q16 : n.tdiv 16 = n / 16 := Int.tdiv_eq_ediv_of_nonneg hn0
  have r16 : (n / 16).tmod 4 = g := by rw [Int.tmod_eq_emod_of_nonneg (by omega), hg]
  have kX := blkAt Z2 (sbA (sbOf f n)) 83 rfl
  have bX := (Below.refl Z2.heap.size Z2).alloc (Nat.le_refl _) (.cells (sbA (sbOf f n)) 83)
  obtain ⟨X, hX⟩ : ∃ X, Z2.alloc (.cells (sbA (sbOf f n)) 83) = X := ⟨_, rfl⟩
  rw [hX] at kX bX
  have HX := Lib.hid hX
  have H5 := Lib.hid (H4.out.step bX)
  have HL := Lib.hid kX
  have hlz : w.heap.size + 2 < Z2.heap.size := H4.out.z.lt
  have x1 : X.cell? ⟨Z2.heap.size, 1, none⟩ = some (.int .i64 q) := by rw [← hq]; exact kX.cell 1
  have x4 : X.cell? ⟨Z2.heap.size, 4, none⟩ = some (.int .i64 g) := by rw [← hg]; exact kX.cell 4
  unfold sbA sbOf at hX
  simp only [hq, hg] at hX
  have HQ := Lib.hid hq
  have HG := Lib.hid hg
  clear kX bX hq hg
  go_wp2_with (first | (refine wpList_store_rowN rfl 118 (.tmp 1) (.tmp 17) rfl rfl (w.heap.size) (inA s a2 c2) rfl rfl 118 (inA s a1 c1) H3.out.r in_size rfl (in_one _ _ _) Z2 HZ2.out ?_) | (fail))
  refine K4.out.mono ?_
  rintro e w3 ⟨rfl, rfl⟩
  go_wp2_with fail
  refine K8.out.mono ?_
  rintro e w4 ⟨rfl, rfl⟩
  obtain ⟨bS, hbS⟩ : ∃ b, Z2.heap.size = b := ⟨_, rfl⟩
  rw [hbS] at x1 x4 HL hlz
  have HLL := Lib.hid HL.out
  by_cases h1 : q = 3
  · have d1 : (q == 3) = true := by simpa using h1
    have H11 := Lib.hid h1
    clear h1
    have C7 := dfail' s (a2, c2) 129 X
    have hx : dFail (a2, c2) 129 = (a2, (dFail (a2, c2) 129).2) := Prod.ext (dFail_rng _ _) rfl
    obtain ⟨c7, hc7⟩ : ∃ y, (dFail (a2, c2) 129).2 = y := ⟨_, rfl⟩
    rw [hc7] at hx
    rw [hx] at C7
    simp only at C7
    have C7 := Lib.hid C7
    have EX7 := Lib.hid hx
    clear hx hc7
    go_wp2_with (first | (rw [HX.out]) | (refine wpList_load_row rfl 118 (.tmp 1) rfl (w.heap.size) rfl 118 _ (0, 0) _ H5.out.r Tryd.underlying118 rfl in_size ?_) | (fail))
    refine C7.out.mono ?_
    rintro e w7 ⟨rfl, b⟩
    have H7 := Lib.hid (H5.out.step b)
    have HL7 := Lib.hid (HLL.out.of_below b)
    clear b C7
    obtain ⟨Y7, hZ7⟩ : ∃ Z, w7.setRow w.heap.size (inA s a2 c7) = Z := ⟨_, rfl⟩
    have h := H7.out.put (a2, c7)
    simp only at h
    rw [hZ7] at h
    have G7 := Lib.hid h
    have HZ7 := Lib.hid hZ7
    clear h hZ7
    have HLL : Hid (Blk Y7 bS (sbA (sbOf f n)) 83) := Lib.hid (by rw [← HZ7.out]; exact HL7.out.row1 (by omega) _)
    have x4 : Y7.cell? ⟨bS, 4, none⟩ = some (.int .i64 g) := by rw [← HG.out]; exact HLL.out.cell 4
    by_cases h3 : g = 3
    · have d3 : (g == 3) = true := by simpa using h3
      have H33 := Lib.hid h3
      clear h3
      have C8 := dfail' s (a2, c7) 130 Y7
      have hx : dFail (a2, c7) 130 = (a2, (dFail (a2, c7) 130).2) := Prod.ext (dFail_rng _ _) rfl
      obtain ⟨c8, hc8⟩ : ∃ y, (dFail (a2, c7) 130).2 = y := ⟨_, rfl⟩
      rw [hc8] at hx
      rw [hx] at C8
      simp only at C8
      have C8 := Lib.hid C8
      have EX8 := Lib.hid hx
      clear hx hc8
      go_wp2_with (first | (refine wpList_store_rowN rfl 118 (.tmp 1) (.tmp 40) rfl rfl (w.heap.size) (inA s a2 c7) rfl rfl 118 (inA s a2 c2) H7.out.r in_size rfl (in_one _ _ _) Y7 HZ7.out ?_) | (refine wpList_load_row rfl 118 (.tmp 1) rfl (w.heap.size) rfl 118 _ (0, 0) _ G7.out.r Tryd.underlying118 rfl in_size ?_) | (fail))
      refine C8.out.mono ?_
      rintro e w8 ⟨rfl, b⟩
      have H8 := Lib.hid (G7.out.step b)
      have HL8 := Lib.hid (HLL.out.of_below b)
      clear b C8
      obtain ⟨Y8, hZ8⟩ : ∃ Z, w8.setRow w.heap.size (inA s a2 c8) = Z := ⟨_, rfl⟩
      have h := H8.out.put (a2, c8)
      simp only at h
      rw [hZ8] at h
      have G8 := Lib.hid h
      have HZ8 := Lib.hid hZ8
      clear h hZ8
      have HLL : Hid (Blk Y8 bS (sbA (sbOf f n)) 83) := Lib.hid (by rw [← HZ8.out]; exact HL8.out.row1 (by omega) _)
      have x4 : Y8.cell? ⟨bS, 4, none⟩ = some (.int .i64 g) := by rw [← HG.out]; exact HLL.out.cell 4
      go_wp2_with (first | (refine wpList_store_rowN rfl 118 (.tmp 1) (.tmp 45) rfl rfl (w.heap.size) (inA s a2 c8) rfl rfl 118 (inA s a2 c7) H8.out.r in_size rfl (in_one _ _ _) Y8 HZ8.out ?_) | (fail))
      obtain ⟨sA, sB, sC, kq, kz, z2, z3, kb⟩ := sub_end (u := (a2, c8)) G8.out HLL.out hlz
      simp only at sA sB sC kq kz z2 z3 kb
      refine wp_region_held (S := fun w' => SSub w.heap.size bS s (a2, c8) (sbOf f n) w') (by kernel_rfl) ?_
      change wpAnyH _ _ _ _ _ _ _ _ Y8.drew
      refine wpAnyH_takeD (i := 0) (d := 46) (v := .agg (inA s a2 c8)) rfl rfl (by kernel_rfl) (by kernel_rfl) (by kernel_rfl) (fun _ _ _ h => h) (y_load _ rfl rfl rfl (fun w hw => run_loadAt_row w _ _ _ _ _ _ hw.1 Tryd.underlying118 rfl in_size)) sA ?_
      simp only [Act.put, List.setIfInBounds_toArray, List.set_cons_succ, List.set_cons_zero]
      refine wpAnyH_takeD (i := 1) (d := 47) (v := .agg (sbA (sbOf f n))) rfl rfl (by kernel_rfl) (by kernel_rfl) (by kernel_rfl) (fun _ _ _ h => h) (y_load _ rfl rfl rfl (fun w hw => run_loadAt_row w _ _ _ _ _ _ hw.2 Tryd.underlying83 rfl dsb_size)) sA ?_
      simp only [Act.put, List.setIfInBounds_toArray, List.set_cons_succ, List.set_cons_zero]
      refine two_store (k := 2) (l := 3) (dx := 2) (dy := 3) (vx := 46) (vy := 47) (bx := w.heap.size + 1) (by' := w.heap.size + 2) (cx := inA s a2 c8) (cy := sbA (sbOf f n)) _ _ rfl rfl rfl rfl rfl rfl rfl rfl (by kernel_rfl) (by kernel_rfl) (by kernel_rfl) rfl rfl rfl rfl kq kz (by omega) in_size dsb_size rfl rfl (in_one _ _ _) (dsb_one _) sB sC ?_
      go_wp2_with fail
      refine bodyPost_ret (v := .tuple #[.agg (inA s a2 c8), .agg (sbA (sbOf f n))]) (results_two_rows (P := Tryd.prog) (t1 := 2) (t2 := 3) (ty1 := 118) (ty2 := 83) (by kernel_rfl) _ _ (w.heap.size + 1) (w.heap.size + 2) 118 83 _ _ _ _ rfl rfl z2 z3 Tryd.underlying118 rfl in_size Tryd.underlying83 rfl dsb_size) rfl ?_
      exact dsbPost_mk (u := (a2, c8)) (by rw [HDD.out]; rw [show sub1 n (a2, c2) = (a2, c7) by unfold sub1; rw [if_pos (by have := HQ.out; have := H11.out; omega)]; exact EX7.out]; unfold sub2; rw [if_pos (by rw [HG.out]; exact H33.out), EX8.out]) kb
    · have d3 : (g == 3) = false := beq_eq_false_iff_ne.2 h3
      have H33 := Lib.hid h3
      clear h3
      go_wp2_with (first | (refine wpList_store_rowN rfl 118 (.tmp 1) (.tmp 40) rfl rfl (w.heap.size) (inA s a2 c7) rfl rfl 118 (inA s a2 c2) H7.out.r in_size rfl (in_one _ _ _) Y7 HZ7.out ?_) | (fail))
      obtain ⟨sA, sB, sC, kq, kz, z2, z3, kb⟩ := sub_end (u := (a2, c7)) G7.out HLL.out hlz
      simp only at sA sB sC kq kz z2 z3 kb
      refine wp_region_held (S := fun w' => SSub w.heap.size bS s (a2, c7) (sbOf f n) w') (by kernel_rfl) ?_
      change wpAnyH _ _ _ _ _ _ _ _ Y7.drew
      refine wpAnyH_takeD (i := 0) (d := 46) (v := .agg (inA s a2 c7)) rfl rfl (by kernel_rfl) (by kernel_rfl) (by kernel_rfl) (fun _ _ _ h => h) (y_load _ rfl rfl rfl (fun w hw => run_loadAt_row w _ _ _ _ _ _ hw.1 Tryd.underlying118 rfl in_size)) sA ?_
      simp only [Act.put, List.setIfInBounds_toArray, List.set_cons_succ, List.set_cons_zero]
      refine wpAnyH_takeD (i := 1) (d := 47) (v := .agg (sbA (sbOf f n))) rfl rfl (by kernel_rfl) (by kernel_rfl) (by kernel_rfl) (fun _ _ _ h => h) (y_load _ rfl rfl rfl (fun w hw => run_loadAt_row w _ _ _ _ _ _ hw.2 Tryd.underlying83 rfl dsb_size)) sA ?_
      simp only [Act.put, List.setIfInBounds_toArray, List.set_cons_succ, List.set_cons_zero]
      refine two_store (k := 2) (l := 3) (dx := 2) (dy := 3) (vx := 46) (vy := 47) (bx := w.heap.size + 1) (by' := w.heap.size + 2) (cx := inA s a2 c7) (cy := sbA (sbOf f n)) _ _ rfl rfl rfl rfl rfl rfl rfl rfl (by kernel_rfl) (by kernel_rfl) (by kernel_rfl) rfl rfl rfl rfl kq kz (by omega) in_size dsb_size rfl rfl (in_one _ _ _) (dsb_one _) sB sC ?_
      go_wp2_with fail
      refine bodyPost_ret (v := .tuple #[.agg (inA s a2 c7), .agg (sbA (sbOf f n))]) (results_two_rows (P := Tryd.prog) (t1 := 2) (t2 := 3) (ty1 := 118) (ty2 := 83) (by kernel_rfl) _ _ (w.heap.size + 1) (w.heap.size + 2) 118 83 _ _ _ _ rfl rfl z2 z3 Tryd.underlying118 rfl in_size Tryd.underlying83 rfl dsb_size) rfl ?_
      exact dsbPost_mk (u := (a2, c7)) (by rw [HDD.out]; rw [show sub1 n (a2, c2) = (a2, c7) by unfold sub1; rw [if_pos (by have := HQ.out; have := H11.out; omega)]; exact EX7.out]; unfold sub2; rw [if_neg (by rw [HG.out]; exact H33.out)]) kb
  have d1 : (q == 3) = false := beq_eq_false_iff_ne.2 h1
  have H10 := Lib.hid h1
  clear h1
  by_cases h2 : 64 ≤ n
  · have d2 : decide (64 ≤ n) = true := by simpa using h2
    have H11 := Lib.hid h2
    clear h2
    have C7 := dfail' s (a2, c2) 129 X
    have hx : dFail (a2, c2) 129 = (a2, (dFail (a2, c2) 129).2) := Prod.ext (dFail_rng _ _) rfl
    obtain ⟨c7, hc7⟩ : ∃ y, (dFail (a2, c2) 129).2 = y := ⟨_, rfl⟩
    rw [hc7] at hx
    rw [hx] at C7
    simp only at C7
    have C7 := Lib.hid C7
    have EX7 := Lib.hid hx
    clear hx hc7
    go_wp2_with (first | (rw [HX.out]) | (refine wpList_load_row rfl 118 (.tmp 1) rfl (w.heap.size) rfl 118 _ (0, 0) _ H5.out.r Tryd.underlying118 rfl in_size ?_) | (fail))
    refine C7.out.mono ?_
    rintro e w7 ⟨rfl, b⟩
    have H7 := Lib.hid (H5.out.step b)
    have HL7 := Lib.hid (HLL.out.of_below b)
    clear b C7
    obtain ⟨Y7, hZ7⟩ : ∃ Z, w7.setRow w.heap.size (inA s a2 c7) = Z := ⟨_, rfl⟩
    have h := H7.out.put (a2, c7)
    simp only at h
    rw [hZ7] at h
    have G7 := Lib.hid h
    have HZ7 := Lib.hid hZ7
    clear h hZ7
    have HLL : Hid (Blk Y7 bS (sbA (sbOf f n)) 83) := Lib.hid (by rw [← HZ7.out]; exact HL7.out.row1 (by omega) _)
    have x4 : Y7.cell? ⟨bS, 4, none⟩ = some (.int .i64 g) := by rw [← HG.out]; exact HLL.out.cell 4
    by_cases h3 : g = 3
    · have d3 : (g == 3) = true := by simpa using h3
      have H33 := Lib.hid h3
      clear h3
      have C8 := dfail' s (a2, c7) 130 Y7
      have hx : dFail (a2, c7) 130 = (a2, (dFail (a2, c7) 130).2) := Prod.ext (dFail_rng _ _) rfl
      obtain ⟨c8, hc8⟩ : ∃ y, (dFail (a2, c7) 130).2 = y := ⟨_, rfl⟩
      rw [hc8] at hx
      rw [hx] at C8
      simp only at C8
      have C8 := Lib.hid C8
      have EX8 := Lib.hid hx
      clear hx hc8
      go_wp2_with (first | (refine wpList_store_rowN rfl 118 (.tmp 1) (.tmp 40) rfl rfl (w.heap.size) (inA s a2 c7) rfl rfl 118 (inA s a2 c2) H7.out.r in_size rfl (in_one _ _ _) Y7 HZ7.out ?_) | (refine wpList_load_row rfl 118 (.tmp 1) rfl (w.heap.size) rfl 118 _ (0, 0) _ G7.out.r Tryd.underlying118 rfl in_size ?_) | (fail))
      refine C8.out.mono ?_
      rintro e w8 ⟨rfl, b⟩
      have H8 := Lib.hid (G7.out.step b)
      have HL8 := Lib.hid (HLL.out.of_below b)
      clear b C8
      obtain ⟨Y8, hZ8⟩ : ∃ Z, w8.setRow w.heap.size (inA s a2 c8) = Z := ⟨_, rfl⟩
      have h := H8.out.put (a2, c8)
      simp only at h
      rw [hZ8] at h
      have G8 := Lib.hid h
      have HZ8 := Lib.hid hZ8
      clear h hZ8
      have HLL : Hid (Blk Y8 bS (sbA (sbOf f n)) 83) := Lib.hid (by rw [← HZ8.out]; exact HL8.out.row1 (by omega) _)
      have x4 : Y8.cell? ⟨bS, 4, none⟩ = some (.int .i64 g) := by rw [← HG.out]; exact HLL.out.cell 4
      go_wp2_with (first | (refine wpList_store_rowN rfl 118 (.tmp 1) (.tmp 45) rfl rfl (w.heap.size) (inA s a2 c8) rfl rfl 118 (inA s a2 c7) H8.out.r in_size rfl (in_one _ _ _) Y8 HZ8.out ?_) | (fail))
      obtain ⟨sA, sB, sC, kq, kz, z2, z3, kb⟩ := sub_end (u := (a2, c8)) G8.out HLL.out hlz
      simp only at sA sB sC kq kz z2 z3 kb
      refine wp_region_held (S := fun w' => SSub w.heap.size bS s (a2, c8) (sbOf f n) w') (by kernel_rfl) ?_
      change wpAnyH _ _ _ _ _ _ _ _ Y8.drew
      refine wpAnyH_takeD (i := 0) (d := 46) (v := .agg (inA s a2 c8)) rfl rfl (by kernel_rfl) (by kernel_rfl) (by kernel_rfl) (fun _ _ _ h => h) (y_load _ rfl rfl rfl (fun w hw => run_loadAt_row w _ _ _ _ _ _ hw.1 Tryd.underlying118 rfl in_size)) sA ?_
      simp only [Act.put, List.setIfInBounds_toArray, List.set_cons_succ, List.set_cons_zero]
      refine wpAnyH_takeD (i := 1) (d := 47) (v := .agg (sbA (sbOf f n))) rfl rfl (by kernel_rfl) (by kernel_rfl) (by kernel_rfl) (fun _ _ _ h => h) (y_load _ rfl rfl rfl (fun w hw => run_loadAt_row w _ _ _ _ _ _ hw.2 Tryd.underlying83 rfl dsb_size)) sA ?_
      simp only [Act.put, List.setIfInBounds_toArray, List.set_cons_succ, List.set_cons_zero]
      refine two_store (k := 2) (l := 3) (dx := 2) (dy := 3) (vx := 46) (vy := 47) (bx := w.heap.size + 1) (by' := w.heap.size + 2) (cx := inA s a2 c8) (cy := sbA (sbOf f n)) _ _ rfl rfl rfl rfl rfl rfl rfl rfl (by kernel_rfl) (by kernel_rfl) (by kernel_rfl) rfl rfl rfl rfl kq kz (by omega) in_size dsb_size rfl rfl (in_one _ _ _) (dsb_one _) sB sC ?_
      go_wp2_with fail
      refine bodyPost_ret (v := .tuple #[.agg (inA s a2 c8), .agg (sbA (sbOf f n))]) (results_two_rows (P := Tryd.prog) (t1 := 2) (t2 := 3) (ty1 := 118) (ty2 := 83) (by kernel_rfl) _ _ (w.heap.size + 1) (w.heap.size + 2) 118 83 _ _ _ _ rfl rfl z2 z3 Tryd.underlying118 rfl in_size Tryd.underlying83 rfl dsb_size) rfl ?_
      exact dsbPost_mk (u := (a2, c8)) (by rw [HDD.out]; rw [show sub1 n (a2, c2) = (a2, c7) by unfold sub1; rw [if_pos (by have := HQ.out; have := H11.out; omega)]; exact EX7.out]; unfold sub2; rw [if_pos (by rw [HG.out]; exact H33.out), EX8.out]) kb
    · have d3 : (g == 3) = false := beq_eq_false_iff_ne.2 h3
      have H33 := Lib.hid h3
      clear h3
      go_wp2_with (first | (refine wpList_store_rowN rfl 118 (.tmp 1) (.tmp 40) rfl rfl (w.heap.size) (inA s a2 c7) rfl rfl 118 (inA s a2 c2) H7.out.r in_size rfl (in_one _ _ _) Y7 HZ7.out ?_) | (fail))
      obtain ⟨sA, sB, sC, kq, kz, z2, z3, kb⟩ := sub_end (u := (a2, c7)) G7.out HLL.out hlz
      simp only at sA sB sC kq kz z2 z3 kb
      refine wp_region_held (S := fun w' => SSub w.heap.size bS s (a2, c7) (sbOf f n) w') (by kernel_rfl) ?_
      change wpAnyH _ _ _ _ _ _ _ _ Y7.drew
      refine wpAnyH_takeD (i := 0) (d := 46) (v := .agg (inA s a2 c7)) rfl rfl (by kernel_rfl) (by kernel_rfl) (by kernel_rfl) (fun _ _ _ h => h) (y_load _ rfl rfl rfl (fun w hw => run_loadAt_row w _ _ _ _ _ _ hw.1 Tryd.underlying118 rfl in_size)) sA ?_
      simp only [Act.put, List.setIfInBounds_toArray, List.set_cons_succ, List.set_cons_zero]
      refine wpAnyH_takeD (i := 1) (d := 47) (v := .agg (sbA (sbOf f n))) rfl rfl (by kernel_rfl) (by kernel_rfl) (by kernel_rfl) (fun _ _ _ h => h) (y_load _ rfl rfl rfl (fun w hw => run_loadAt_row w _ _ _ _ _ _ hw.2 Tryd.underlying83 rfl dsb_size)) sA ?_
      simp only [Act.put, List.setIfInBounds_toArray, List.set_cons_succ, List.set_cons_zero]
      refine two_store (k := 2) (l := 3) (dx := 2) (dy := 3) (vx := 46) (vy := 47) (bx := w.heap.size + 1) (by' := w.heap.size + 2) (cx := inA s a2 c7) (cy := sbA (sbOf f n)) _ _ rfl rfl rfl rfl rfl rfl rfl rfl (by kernel_rfl) (by kernel_rfl) (by kernel_rfl) rfl rfl rfl rfl kq kz (by omega) in_size dsb_size rfl rfl (in_one _ _ _) (dsb_one _) sB sC ?_
      go_wp2_with fail
      refine bodyPost_ret (v := .tuple #[.agg (inA s a2 c7), .agg (sbA (sbOf f n))]) (results_two_rows (P := Tryd.prog) (t1 := 2) (t2 := 3) (ty1 := 118) (ty2 := 83) (by kernel_rfl) _ _ (w.heap.size + 1) (w.heap.size + 2) 118 83 _ _ _ _ rfl rfl z2 z3 Tryd.underlying118 rfl in_size Tryd.underlying83 rfl dsb_size) rfl ?_
      exact dsbPost_mk (u := (a2, c7)) (by rw [HDD.out]; rw [show sub1 n (a2, c2) = (a2, c7) by unfold sub1; rw [if_pos (by have := HQ.out; have := H11.out; omega)]; exact EX7.out]; unfold sub2; rw [if_neg (by rw [HG.out]; exact H33.out)]) kb
  have d2 : decide (64 ≤ n) = false := by simpa using h2
  have H11 := Lib.hid h2
  clear h2
  by_cases h3 : g = 3
  · have d3 : (g == 3) = true := by simpa using h3
    have H33 := Lib.hid h3
    clear h3
    have C8 := dfail' s (a2, c2) 130 X
    have hx : dFail (a2, c2) 130 = (a2, (dFail (a2, c2) 130).2) := Prod.ext (dFail_rng _ _) rfl
    obtain ⟨c8, hc8⟩ : ∃ y, (dFail (a2, c2) 130).2 = y := ⟨_, rfl⟩
    rw [hc8] at hx
    rw [hx] at C8
    simp only at C8
    have C8 := Lib.hid C8
    have EX8 := Lib.hid hx
    clear hx hc8
    go_wp2_with (first | (rw [HX.out]) | (refine wpList_load_row rfl 118 (.tmp 1) rfl (w.heap.size) rfl 118 _ (0, 0) _ H5.out.r Tryd.underlying118 rfl in_size ?_) | (fail))
    refine C8.out.mono ?_
    rintro e w8 ⟨rfl, b⟩
    have H8 := Lib.hid (H5.out.step b)
    have HL8 := Lib.hid (HLL.out.of_below b)
    clear b C8
    obtain ⟨Y8, hZ8⟩ : ∃ Z, w8.setRow w.heap.size (inA s a2 c8) = Z := ⟨_, rfl⟩
    have h := H8.out.put (a2, c8)
    simp only at h
    rw [hZ8] at h
    have G8 := Lib.hid h
    have HZ8 := Lib.hid hZ8
    clear h hZ8
    have HLL : Hid (Blk Y8 bS (sbA (sbOf f n)) 83) := Lib.hid (by rw [← HZ8.out]; exact HL8.out.row1 (by omega) _)
    have x4 : Y8.cell? ⟨bS, 4, none⟩ = some (.int .i64 g) := by rw [← HG.out]; exact HLL.out.cell 4
    go_wp2_with (first | (refine wpList_store_rowN rfl 118 (.tmp 1) (.tmp 45) rfl rfl (w.heap.size) (inA s a2 c8) rfl rfl 118 (inA s a2 c2) H8.out.r in_size rfl (in_one _ _ _) Y8 HZ8.out ?_) | (fail))
    obtain ⟨sA, sB, sC, kq, kz, z2, z3, kb⟩ := sub_end (u := (a2, c8)) G8.out HLL.out hlz
    simp only at sA sB sC kq kz z2 z3 kb
    refine wp_region_held (S := fun w' => SSub w.heap.size bS s (a2, c8) (sbOf f n) w') (by kernel_rfl) ?_
    change wpAnyH _ _ _ _ _ _ _ _ Y8.drew
    refine wpAnyH_takeD (i := 0) (d := 46) (v := .agg (inA s a2 c8)) rfl rfl (by kernel_rfl) (by kernel_rfl) (by kernel_rfl) (fun _ _ _ h => h) (y_load _ rfl rfl rfl (fun w hw => run_loadAt_row w _ _ _ _ _ _ hw.1 Tryd.underlying118 rfl in_size)) sA ?_
    simp only [Act.put, List.setIfInBounds_toArray, List.set_cons_succ, List.set_cons_zero]
    refine wpAnyH_takeD (i := 1) (d := 47) (v := .agg (sbA (sbOf f n))) rfl rfl (by kernel_rfl) (by kernel_rfl) (by kernel_rfl) (fun _ _ _ h => h) (y_load _ rfl rfl rfl (fun w hw => run_loadAt_row w _ _ _ _ _ _ hw.2 Tryd.underlying83 rfl dsb_size)) sA ?_
    simp only [Act.put, List.setIfInBounds_toArray, List.set_cons_succ, List.set_cons_zero]
    refine two_store (k := 2) (l := 3) (dx := 2) (dy := 3) (vx := 46) (vy := 47) (bx := w.heap.size + 1) (by' := w.heap.size + 2) (cx := inA s a2 c8) (cy := sbA (sbOf f n)) _ _ rfl rfl rfl rfl rfl rfl rfl rfl (by kernel_rfl) (by kernel_rfl) (by kernel_rfl) rfl rfl rfl rfl kq kz (by omega) in_size dsb_size rfl rfl (in_one _ _ _) (dsb_one _) sB sC ?_
    go_wp2_with fail
    refine bodyPost_ret (v := .tuple #[.agg (inA s a2 c8), .agg (sbA (sbOf f n))]) (results_two_rows (P := Tryd.prog) (t1 := 2) (t2 := 3) (ty1 := 118) (ty2 := 83) (by kernel_rfl) _ _ (w.heap.size + 1) (w.heap.size + 2) 118 83 _ _ _ _ rfl rfl z2 z3 Tryd.underlying118 rfl in_size Tryd.underlying83 rfl dsb_size) rfl ?_
    exact dsbPost_mk (u := (a2, c8)) (by rw [HDD.out]; rw [show sub1 n (a2, c2) = (a2, c2) by unfold sub1; rw [if_neg (by have := HQ.out; have := H10.out; have := H11.out; omega)]]; unfold sub2; rw [if_pos (by rw [HG.out]; exact H33.out), EX8.out]) kb
  · have d3 : (g == 3) = false := beq_eq_false_iff_ne.2 h3
    have H33 := Lib.hid h3
    clear h3
    go_wp2_with (first | (rw [HX.out]) | (fail))
    obtain ⟨sA, sB, sC, kq, kz, z2, z3, kb⟩ := sub_end (u := (a2, c2)) H5.out HLL.out hlz
    simp only at sA sB sC kq kz z2 z3 kb
    refine wp_region_held (S := fun w' => SSub w.heap.size bS s (a2, c2) (sbOf f n) w') (by kernel_rfl) ?_
    change wpAnyH _ _ _ _ _ _ _ _ X.drew
    refine wpAnyH_takeD (i := 0) (d := 46) (v := .agg (inA s a2 c2)) rfl rfl (by kernel_rfl) (by kernel_rfl) (by kernel_rfl) (fun _ _ _ h => h) (y_load _ rfl rfl rfl (fun w hw => run_loadAt_row w _ _ _ _ _ _ hw.1 Tryd.underlying118 rfl in_size)) sA ?_
    simp only [Act.put, List.setIfInBounds_toArray, List.set_cons_succ, List.set_cons_zero]
    refine wpAnyH_takeD (i := 1) (d := 47) (v := .agg (sbA (sbOf f n))) rfl rfl (by kernel_rfl) (by kernel_rfl) (by kernel_rfl) (fun _ _ _ h => h) (y_load _ rfl rfl rfl (fun w hw => run_loadAt_row w _ _ _ _ _ _ hw.2 Tryd.underlying83 rfl dsb_size)) sA ?_
    simp only [Act.put, List.setIfInBounds_toArray, List.set_cons_succ, List.set_cons_zero]
    refine two_store (k := 2) (l := 3) (dx := 2) (dy := 3) (vx := 46) (vy := 47) (bx := w.heap.size + 1) (by' := w.heap.size + 2) (cx := inA s a2 c2) (cy := sbA (sbOf f n)) _ _ rfl rfl rfl rfl rfl rfl rfl rfl (by kernel_rfl) (by kernel_rfl) (by kernel_rfl) rfl rfl rfl rfl kq kz (by omega) in_size dsb_size rfl rfl (in_one _ _ _) (dsb_one _) sB sC ?_
    go_wp2_with fail
    refine bodyPost_ret (v := .tuple #[.agg (inA s a2 c2), .agg (sbA (sbOf f n))]) (results_two_rows (P := Tryd.prog) (t1 := 2) (t2 := 3) (ty1 := 118) (ty2 := 83) (by kernel_rfl) _ _ (w.heap.size + 1) (w.heap.size + 2) 118 83 _ _ _ _ rfl rfl z2 z3 Tryd.underlying118 rfl in_size Tryd.underlying83 rfl dsb_size) rfl ?_
    exact dsbPost_mk (u := (a2, c2)) (by rw [HDD.out]; rw [show sub1 n (a2, c2) = (a2, c2) by unfold sub1; rw [if_neg (by have := HQ.out; have := H10.out; have := H11.out; omega)]]; unfold sub2; rw [if_neg (by rw [HG.out]; exact H33.out)]) kb
end Go.Proofs.YtedapgeabpadaaaDoor

set_option linter.unusedVariables false
set_option linter.unusedSimpArgs false
namespace Go.Proofs.YtedapgeabpadaaaDoor
open Go.RowKit Pl Go.PlainAid Go.Shelf

theorem dwPost_mk {B : Nat} {w w' : World} {s : ByteArray} {x : Tt × Pk} {a c : Int} {p : Pk} {m : Hs} (h : x = ((a, c), p)) (hd : PkD B w' p m) (hb : Below w.heap.size w w') : DwPost B w s x (.returned (.tuple #[.agg (inA s a c), .agg (pkA .i64 p m)])) w' := by
  subst h
  exact ⟨m, rfl, hd, hb⟩
theorem PkD.setPs {B : Nat} {w : World} {p : Pk} {m : Hs} (h : PkD B w p m) {L : List Pp} {hd : Hd} {B' : Nat} (hs : Sl B' w 122 4 hd.v L.length (flat L)) (hB : B ≤ B') : PkD B w { p with ps := L } { m with p := hd } :=
  ⟨hs.mono' hB, h.wps, h.cs, h.ss, h.fs⟩
theorem PkD.setWps {B : Nat} {w : World} {p : Pk} {m : Hs} (h : PkD B w p m) {L : List Pp} {hd : Hd} {B' : Nat} (hs : Sl B' w 122 4 hd.v L.length (flat L)) (hB : B ≤ B') : PkD B w { p with wps := L } { m with w := hd } :=
  ⟨h.ps, hs.mono' hB, h.cs, h.ss, h.fs⟩
theorem PkD.keep {B : Nat} {w : World} {p q : Pk} {m : Hs} (h : PkD B w p m) (e : q.ps = p.ps ∧ q.wps = p.wps ∧ q.codes = p.codes ∧ q.subs = p.subs ∧ q.filters = p.filters) : PkD B w q m := by
  obtain ⟨e1, e2, e3, e4, e5⟩ := e
  exact ⟨by rw [e1]; exact h.ps, by rw [e2]; exact h.wps, by rw [e3]; exact h.cs, by rw [e4]; exact h.ss, by rw [e5]; exact h.fs⟩
set_option maxHeartbeats 8000000 in
set_option maxRecDepth 100000 in
theorem dend_any (B : Nat) (s : ByteArray) (t : Tt) (p : Pk) (m : Hs) (w : World) (hs : s.size ≤ 140737488351232) (hr : Rg s t) (hB : B ≤ w.heap.size) (hd : PkD B w p m) :
    Calls Tryd.prog 66 #[.agg (inA s t.1 t.2), .agg (pkA .i64 p m)] w (DwPost B w s (dEnd s p t)) := by
  obtain ⟨a, c⟩ := t
  simp only
  have h0 := Dw.new s (a, c) p m hB hd
  obtain ⟨W, hW⟩ : ∃ W, (((w.alloc (.cells (inA s a c) 118)).alloc (.cells (pkA .i64 p m) 52)).alloc (.cells (inA eS 0 0) 118)).alloc (.cells (pkA .i64 zPk nHs) 52) = W := ⟨_, rfl⟩
  rw [hW] at h0
  have H0 := Lib.hid h0
  have HW := Lib.hid (show (((w.alloc (.cells (inA s a c) 118)).alloc (.cells (pkA .i64 p m) 52)).alloc (.cells #[.string ⟨#[]⟩, .int .i64 0, .int .i64 0] 118)).alloc (.cells #[.int .i64 0, .bool false, .bool false, .int .i64 0, .int .i64 0, .string ⟨#[]⟩, .string ⟨#[]⟩, .int .i64 0, .slice none 0 0, .slice none 0 0, .string ⟨#[]⟩, .bool false, .int .i64 0, .bool false, .string ⟨#[]⟩, .string ⟨#[]⟩, .int .i64 0, .bool false, .slice none 0 0, .bool false, .bool false, .string ⟨#[]⟩, .string ⟨#[]⟩, .bool false, .slice none 0 0, .slice none 0 0] 52) = W from hW)
  have HR0 : Hid (Rg s (a, c)) := Lib.hid hr
  clear h0 hW hd hr
  have r0 : W.cell? ⟨w.heap.size, 0, none⟩ = some (.string s) := H0.out.r.cell 0
  have r1 : W.cell? ⟨w.heap.size, 1, none⟩ = some (.int .i64 a) := H0.out.r.cell 1
  have r2 : W.cell? ⟨w.heap.size, 2, none⟩ = some (.int .i64 c) := H0.out.r.cell 2
  have hBh := hB
  by_cases hc : c = 0
  · have d1 : (c == 0) = true := by simpa using hc
    by_cases hl : a < (s.size : Int)
    · have d2 : decide (a < (s.size : Int)) = true := by simpa using hl
      have EE := Lib.hid (show dEnd s p (a, c) = dEndP s { p with code := (dNum s 1 (a, c)).2 } (dNum s 1 (a, c)).1 by unfold dEnd; rw [if_pos ⟨hc, hl⟩])
      clear hc hl
      go_enter Tryd.func66, Tryd.ntmps66
      have C1 := dnum' s 1 (a, c) W hs HR0.out
      obtain ⟨⟨⟨a1, c1⟩, n1⟩, e1⟩ : ∃ x, dNum s 1 (a, c) = x := ⟨_, rfl⟩
      rw [e1] at C1
      simp only at C1
      have C1 := Lib.hid C1
      have E1 := Lib.hid e1
      clear e1
      go_wp2_with (first | (rw [HW.out]) | (refine wpList_load_row rfl 118 (.tmp 22) rfl (w.heap.size) rfl 118 _ (0, 0) _ H0.out.r Tryd.underlying118 rfl in_size ?_) | (fail))
      refine C1.out.mono ?_
      rintro e w1 ⟨rfl, b1⟩
      have H1 := Lib.hid (H0.out.step b1)
      clear C1
      have HR1 : Hid (Rg s (a1, c1)) := Lib.hid (by have h := dNum_rg (k := 1) HR0.out; rw [E1.out] at h; exact h)
      clear r0 r1 r2
      have kV := blkAt w1 (#[.string ⟨#[]⟩, .int .i64 0, .int .i64 0] : Array Value) 118 rfl
      have bV := below_setRow ((Below.refl w1.heap.size w1).alloc (Nat.le_refl _) (.cells #[.string ⟨#[]⟩, .int .i64 0, .int .i64 0] 118)) (Nat.le_refl _) (inA s a1 c1)
      have kV2 := kV.row0 (inA s a1 c1)
      obtain ⟨V2, hV⟩ : ∃ V, (w1.alloc (.cells #[.string ⟨#[]⟩, .int .i64 0, .int .i64 0] 118)).setRow w1.heap.size (inA s a1 c1) = V := ⟨_, rfl⟩
      rw [hV] at kV2 bV
      have HV2 := Lib.hid hV
      have KW2 := Lib.hid kV
      have KV2 := Lib.hid kV2
      have BV2 := Lib.hid bV
      have H2 := Lib.hid (H1.out.step bV)
      have lV2 : w.heap.size + 3 < w1.heap.size := H1.out.z.lt
      clear kV kV2 bV hV
      obtain ⟨Z3, hZ3⟩ : ∃ Z, V2.setRow w.heap.size (inA s a1 c1) = Z := ⟨_, rfl⟩
      have h := H2.out.put (a1, c1)
      simp only at h
      rw [hZ3] at h
      have H3 := Lib.hid h
      have HZ3 := Lib.hid hZ3
      clear h hZ3
      have g7 := H3.out.k.cell 7
      have q7 := H3.out.k.frozen 7
      simp only [pkA, List.getElem?_toArray, List.getElem?_cons_zero, List.getElem?_cons_succ] at g7
      obtain ⟨Y4, hY4⟩ : ∃ Y, Z3.setCell ⟨w.heap.size + 1, 7, none⟩ (.int .i64 n1) = Y := ⟨_, rfl⟩
      have h := H3.out.set 7 (.int .i64 n1) (({ p with code := n1 } : Pk)) (m) rfl (H3.out.d.keep ⟨rfl, rfl, rfl, rfl, rfl⟩)
      rw [hY4] at h
      have H4 := Lib.hid h
      clear h
      have EF := Lib.hid (show dEnd s p (a, c) = dEndP s { p with code := n1 } (a1, c1) by rw [EE.out, E1.out])
      have r0 : Y4.cell? ⟨w.heap.size, 0, none⟩ = some (.string s) := H4.out.r.cell 0
      have r1 : Y4.cell? ⟨w.heap.size, 1, none⟩ = some (.int .i64 a1) := H4.out.r.cell 1
      have r2 : Y4.cell? ⟨w.heap.size, 2, none⟩ = some (.int .i64 c1) := H4.out.r.cell 2
      by_cases hc2 : c1 = 0
      · have d3 : (c1 == 0) = true := by simpa using hc2
        have HC2 := Lib.hid hc2
        clear hc2
        by_cases hl2 : a1 < (s.size : Int)
        · have d4 : decide (a1 < (s.size : Int)) = true := by simpa using hl2
          have HL2 := Lib.hid hl2
          clear hl2
          have k0 : Y4.cell? ⟨w.heap.size + 1, 0, none⟩ = some (.int .i64 p.kind) := H4.out.k.cell 0
          have C5 := dprops_any s (a1, c1) p.kind Y4 hs HR1.out
          obtain ⟨⟨⟨a9, c9⟩, L9⟩, e5⟩ : ∃ x, dProps p.kind s (a1, c1) = x := ⟨_, rfl⟩
          rw [e5] at C5
          simp only at C5
          have C5 := Lib.hid C5
          have E5 := Lib.hid e5
          clear e5
          go_wp2_with (first | (refine wpList_store_rowN rfl 118 (.tmp 6) (.tmp 24) rfl rfl (w1.heap.size) (inA s a1 c1) rfl rfl 118 (#[.string ⟨#[]⟩, .int .i64 0, .int .i64 0]) KW2.out in_size rfl (in_one _ _ _) V2 HV2.out ?_) | (refine wpList_load_row rfl 118 (.tmp 6) rfl (w1.heap.size) rfl 118 _ (0, 0) _ KV2.out Tryd.underlying118 rfl in_size ?_) | (refine wpList_store_rowN rfl 118 (.tmp 2) (.tmp 26) rfl rfl (w.heap.size) (inA s a1 c1) rfl rfl 118 (inA s a c) H2.out.r in_size rfl (in_one _ _ _) Z3 HZ3.out ?_) | (refine wpList_load_row rfl 118 (.tmp 41) rfl (w.heap.size) rfl 118 _ (0, 0) _ H4.out.r Tryd.underlying118 rfl in_size ?_) | (fail))
          refine C5.out.mono ?_
          rintro e w5 ⟨hd9, rfl, hs9, b5⟩
          simp only at hs9 ⊢
          have H5 := Lib.hid (H4.out.step b5)
          have HS9 := Lib.hid hs9
          have lw9 : w.heap.size ≤ Y4.heap.size := H4.out.bl.size
          have lx9 : w.heap.size < Y4.heap.size := H4.out.r.lt
          clear C5 hs9
          clear r0 r1 r2 k0
          have kV := blkAt w5 (#[.string ⟨#[]⟩, .int .i64 0, .int .i64 0] : Array Value) 118 rfl
          have bV := below_setRow ((Below.refl w5.heap.size w5).alloc (Nat.le_refl _) (.cells #[.string ⟨#[]⟩, .int .i64 0, .int .i64 0] 118)) (Nat.le_refl _) (inA s a9 c9)
          have kV2 := kV.row0 (inA s a9 c9)
          obtain ⟨V6, hV⟩ : ∃ V, (w5.alloc (.cells #[.string ⟨#[]⟩, .int .i64 0, .int .i64 0] 118)).setRow w5.heap.size (inA s a9 c9) = V := ⟨_, rfl⟩
          rw [hV] at kV2 bV
          have HV6 := Lib.hid hV
          have KW6 := Lib.hid kV
          have KV6 := Lib.hid kV2
          have BV6 := Lib.hid bV
          have H6 := Lib.hid (H5.out.step bV)
          have lV6 : w.heap.size + 3 < w5.heap.size := H5.out.z.lt
          clear kV kV2 bV hV
          obtain ⟨Z7, hZ7⟩ : ∃ Z, V6.setRow w.heap.size (inA s a9 c9) = Z := ⟨_, rfl⟩
          have h := H6.out.put (a9, c9)
          simp only at h
          rw [hZ7] at h
          have H7 := Lib.hid h
          have HZ7 := Lib.hid hZ7
          clear h hZ7
          have HS8 : Hid (Sl Y4.heap.size Z7 122 4 hd9.v L9.length (flat L9)) := Lib.hid (by rw [← HZ7.out]; exact ((HS9.out.below BV6.out).same fun k hk => setRow_other _ _ k _ (fun c => absurd c (Nat.ne_of_gt (Nat.lt_of_lt_of_le lx9 (HS9.out.lt k hk).1)))))
          have g9 := H7.out.k.cell 9
          have q9 := H7.out.k.frozen 9
          simp only [pkA, List.getElem?_toArray, List.getElem?_cons_zero, List.getElem?_cons_succ] at g9
          obtain ⟨Y8, hY8⟩ : ∃ Y, Z7.setCell ⟨w.heap.size + 1, 9, none⟩ (hd9.v) = Y := ⟨_, rfl⟩
          have h := H7.out.set 9 (hd9.v) (({ ({ p with code := n1 } : Pk) with ps := L9 } : Pk)) (({ m with p := hd9 } : Hs)) rfl (H7.out.d.setPs (B' := Y4.heap.size) HS8.out (Nat.le_trans hBh lw9))
          rw [hY8] at h
          have H8 := Lib.hid h
          clear h
          simp only [Hd.v] at hY8 ⊢
          go_wp2_with (first | (refine wpList_store_rowN rfl 118 (.tmp 8) (.tmp 45) rfl rfl (w5.heap.size) (inA s a9 c9) rfl rfl 118 (#[.string ⟨#[]⟩, .int .i64 0, .int .i64 0]) KW6.out in_size rfl (in_one _ _ _) V6 HV6.out ?_) | (refine wpList_load_row rfl 118 (.tmp 8) rfl (w5.heap.size) rfl 118 _ (0, 0) _ KV6.out Tryd.underlying118 rfl in_size ?_) | (refine wpList_store_rowN rfl 118 (.tmp 2) (.tmp 47) rfl rfl (w.heap.size) (inA s a9 c9) rfl rfl 118 (inA s a1 c1) H6.out.r in_size rfl (in_one _ _ _) Z7 HZ7.out ?_) | (fail))
          obtain ⟨sA, sB, sC, kq, kz, z2, z3, kd, kb⟩ := ret_end (t := (a9, c9)) (p := ({ ({ p with code := n1 } : Pk) with ps := L9 } : Pk)) (m := ({ m with p := hd9 } : Hs)) H8.out H8.out.r (by omega) (by omega)
          simp only at sA sB sC kq kz z2 z3 kd kb
          refine wp_region_held (S := fun w' => SRet (w.heap.size) (w.heap.size + 1) s (a9, c9) (({ ({ p with code := n1 } : Pk) with ps := L9 } : Pk)) (({ m with p := hd9 } : Hs)) w') (by kernel_rfl) ?_
          change wpAnyH _ _ _ _ _ _ _ _ Y8.drew
          refine wpAnyH_takeD (i := 0) (d := 50) (v := .agg (inA s a9 c9)) rfl rfl (by kernel_rfl) (by kernel_rfl) (by kernel_rfl) (fun _ _ _ h => h) (y_load _ rfl rfl rfl (fun w hw => run_loadAt_row w _ _ _ _ _ _ hw.1 Tryd.underlying118 rfl in_size)) sA ?_
          simp only [Act.put, List.setIfInBounds_toArray, List.set_cons_succ, List.set_cons_zero]
          refine wpAnyH_takeD (i := 1) (d := 51) (v := .agg (pkA .i64 (({ ({ p with code := n1 } : Pk) with ps := L9 } : Pk)) (({ m with p := hd9 } : Hs)))) rfl rfl (by kernel_rfl) (by kernel_rfl) (by kernel_rfl) (fun _ _ _ h => h) (y_load _ rfl rfl rfl (fun w hw => run_loadAt_row w _ _ _ _ _ _ hw.2 Tryd.underlying52 rfl dpk_size)) sA ?_
          simp only [Act.put, List.setIfInBounds_toArray, List.set_cons_succ, List.set_cons_zero]
          refine two_store (k := 2) (l := 3) (dx := 4) (dy := 5) (vx := 50) (vy := 51) (bx := w.heap.size + 2) (by' := w.heap.size + 3) (cx := inA s a9 c9) (cy := pkA .i64 (({ ({ p with code := n1 } : Pk) with ps := L9 } : Pk)) (({ m with p := hd9 } : Hs))) _ _ rfl rfl rfl rfl rfl rfl rfl rfl (by kernel_rfl) (by kernel_rfl) (by kernel_rfl) rfl rfl rfl rfl kq kz (by omega) in_size dpk_size rfl rfl (in_one _ _ _) (dpk_one _ _) sB sC ?_
          go_wp2_with fail
          refine bodyPost_ret (v := .tuple #[.agg (inA s a9 c9), .agg (pkA .i64 (({ ({ p with code := n1 } : Pk) with ps := L9 } : Pk)) (({ m with p := hd9 } : Hs)))]) (results_two_rows (P := Tryd.prog) (t1 := 4) (t2 := 5) (ty1 := 118) (ty2 := 52) (by kernel_rfl) _ _ (w.heap.size + 2) (w.heap.size + 3) 118 52 _ _ _ _ rfl rfl z2 z3 Tryd.underlying118 rfl in_size Tryd.underlying52 rfl dpk_size) rfl ?_
          exact dwPost_mk (a := a9) (c := c9) (p := ({ ({ p with code := n1 } : Pk) with ps := L9 } : Pk)) (m := ({ m with p := hd9 } : Hs)) (by rw [EF.out]; unfold dEndP; rw [if_pos ⟨HC2.out, HL2.out⟩]; show ((dProps p.kind s (a1, c1)).1, _) = _; rw [E5.out]) kd kb
        · have d4 : decide (a1 < (s.size : Int)) = false := by simpa using hl2
          have HL2 := Lib.hid hl2
          clear hl2
          go_wp2_with (first | (refine wpList_store_rowN rfl 118 (.tmp 6) (.tmp 24) rfl rfl (w1.heap.size) (inA s a1 c1) rfl rfl 118 (#[.string ⟨#[]⟩, .int .i64 0, .int .i64 0]) KW2.out in_size rfl (in_one _ _ _) V2 HV2.out ?_) | (refine wpList_load_row rfl 118 (.tmp 6) rfl (w1.heap.size) rfl 118 _ (0, 0) _ KV2.out Tryd.underlying118 rfl in_size ?_) | (refine wpList_store_rowN rfl 118 (.tmp 2) (.tmp 26) rfl rfl (w.heap.size) (inA s a1 c1) rfl rfl 118 (inA s a c) H2.out.r in_size rfl (in_one _ _ _) Z3 HZ3.out ?_) | (fail))
          obtain ⟨sA, sB, sC, kq, kz, z2, z3, kd, kb⟩ := ret_end (t := (a1, c1)) (p := ({ p with code := n1 } : Pk)) (m := m) H4.out H4.out.r (by omega) (by omega)
          simp only at sA sB sC kq kz z2 z3 kd kb
          refine wp_region_held (S := fun w' => SRet (w.heap.size) (w.heap.size + 1) s (a1, c1) (({ p with code := n1 } : Pk)) (m) w') (by kernel_rfl) ?_
          change wpAnyH _ _ _ _ _ _ _ _ Y4.drew
          refine wpAnyH_takeD (i := 0) (d := 50) (v := .agg (inA s a1 c1)) rfl rfl (by kernel_rfl) (by kernel_rfl) (by kernel_rfl) (fun _ _ _ h => h) (y_load _ rfl rfl rfl (fun w hw => run_loadAt_row w _ _ _ _ _ _ hw.1 Tryd.underlying118 rfl in_size)) sA ?_
          simp only [Act.put, List.setIfInBounds_toArray, List.set_cons_succ, List.set_cons_zero]
          refine wpAnyH_takeD (i := 1) (d := 51) (v := .agg (pkA .i64 (({ p with code := n1 } : Pk)) (m))) rfl rfl (by kernel_rfl) (by kernel_rfl) (by kernel_rfl) (fun _ _ _ h => h) (y_load _ rfl rfl rfl (fun w hw => run_loadAt_row w _ _ _ _ _ _ hw.2 Tryd.underlying52 rfl dpk_size)) sA ?_
          simp only [Act.put, List.setIfInBounds_toArray, List.set_cons_succ, List.set_cons_zero]
          refine two_store (k := 2) (l := 3) (dx := 4) (dy := 5) (vx := 50) (vy := 51) (bx := w.heap.size + 2) (by' := w.heap.size + 3) (cx := inA s a1 c1) (cy := pkA .i64 (({ p with code := n1 } : Pk)) (m)) _ _ rfl rfl rfl rfl rfl rfl rfl rfl (by kernel_rfl) (by kernel_rfl) (by kernel_rfl) rfl rfl rfl rfl kq kz (by omega) in_size dpk_size rfl rfl (in_one _ _ _) (dpk_one _ _) sB sC ?_
          go_wp2_with fail
          refine bodyPost_ret (v := .tuple #[.agg (inA s a1 c1), .agg (pkA .i64 (({ p with code := n1 } : Pk)) (m))]) (results_two_rows (P := Tryd.prog) (t1 := 4) (t2 := 5) (ty1 := 118) (ty2 := 52) (by kernel_rfl) _ _ (w.heap.size + 2) (w.heap.size + 3) 118 52 _ _ _ _ rfl rfl z2 z3 Tryd.underlying118 rfl in_size Tryd.underlying52 rfl dpk_size) rfl ?_
          exact dwPost_mk (a := a1) (c := c1) (p := ({ p with code := n1 } : Pk)) (m := m) (by rw [EF.out]; unfold dEndP; rw [if_neg (fun h => absurd h.2 (by have := HL2.out; omega))]) kd kb
      · have d3 : (c1 == 0) = false := beq_eq_false_iff_ne.2 hc2
        have HC2 := Lib.hid hc2
        clear hc2
        go_wp2_with (first | (refine wpList_store_rowN rfl 118 (.tmp 6) (.tmp 24) rfl rfl (w1.heap.size) (inA s a1 c1) rfl rfl 118 (#[.string ⟨#[]⟩, .int .i64 0, .int .i64 0]) KW2.out in_size rfl (in_one _ _ _) V2 HV2.out ?_) | (refine wpList_load_row rfl 118 (.tmp 6) rfl (w1.heap.size) rfl 118 _ (0, 0) _ KV2.out Tryd.underlying118 rfl in_size ?_) | (refine wpList_store_rowN rfl 118 (.tmp 2) (.tmp 26) rfl rfl (w.heap.size) (inA s a1 c1) rfl rfl 118 (inA s a c) H2.out.r in_size rfl (in_one _ _ _) Z3 HZ3.out ?_) | (fail))
        obtain ⟨sA, sB, sC, kq, kz, z2, z3, kd, kb⟩ := ret_end (t := (a1, c1)) (p := ({ p with code := n1 } : Pk)) (m := m) H4.out H4.out.r (by omega) (by omega)
        simp only at sA sB sC kq kz z2 z3 kd kb
        refine wp_region_held (S := fun w' => SRet (w.heap.size) (w.heap.size + 1) s (a1, c1) (({ p with code := n1 } : Pk)) (m) w') (by kernel_rfl) ?_
        change wpAnyH _ _ _ _ _ _ _ _ Y4.drew
        refine wpAnyH_takeD (i := 0) (d := 50) (v := .agg (inA s a1 c1)) rfl rfl (by kernel_rfl) (by kernel_rfl) (by kernel_rfl) (fun _ _ _ h => h) (y_load _ rfl rfl rfl (fun w hw => run_loadAt_row w _ _ _ _ _ _ hw.1 Tryd.underlying118 rfl in_size)) sA ?_
        simp only [Act.put, List.setIfInBounds_toArray, List.set_cons_succ, List.set_cons_zero]
        refine wpAnyH_takeD (i := 1) (d := 51) (v := .agg (pkA .i64 (({ p with code := n1 } : Pk)) (m))) rfl rfl (by kernel_rfl) (by kernel_rfl) (by kernel_rfl) (fun _ _ _ h => h) (y_load _ rfl rfl rfl (fun w hw => run_loadAt_row w _ _ _ _ _ _ hw.2 Tryd.underlying52 rfl dpk_size)) sA ?_
        simp only [Act.put, List.setIfInBounds_toArray, List.set_cons_succ, List.set_cons_zero]
        refine two_store (k := 2) (l := 3) (dx := 4) (dy := 5) (vx := 50) (vy := 51) (bx := w.heap.size + 2) (by' := w.heap.size + 3) (cx := inA s a1 c1) (cy := pkA .i64 (({ p with code := n1 } : Pk)) (m)) _ _ rfl rfl rfl rfl rfl rfl rfl rfl (by kernel_rfl) (by kernel_rfl) (by kernel_rfl) rfl rfl rfl rfl kq kz (by omega) in_size dpk_size rfl rfl (in_one _ _ _) (dpk_one _ _) sB sC ?_
        go_wp2_with fail
        refine bodyPost_ret (v := .tuple #[.agg (inA s a1 c1), .agg (pkA .i64 (({ p with code := n1 } : Pk)) (m))]) (results_two_rows (P := Tryd.prog) (t1 := 4) (t2 := 5) (ty1 := 118) (ty2 := 52) (by kernel_rfl) _ _ (w.heap.size + 2) (w.heap.size + 3) 118 52 _ _ _ _ rfl rfl z2 z3 Tryd.underlying118 rfl in_size Tryd.underlying52 rfl dpk_size) rfl ?_
        exact dwPost_mk (a := a1) (c := c1) (p := ({ p with code := n1 } : Pk)) (m := m) (by rw [EF.out]; unfold dEndP; rw [if_neg (fun h => HC2.out h.1)]) kd kb
    · have d2 : decide (a < (s.size : Int)) = false := by simpa using hl
      have EF := Lib.hid (show dEnd s p (a, c) = (((a, c), p) : Tt × Pk) by unfold dEnd; rw [if_neg (fun h => hl h.2)]; unfold dEndP; rw [if_neg (fun h => hl h.2)])
      clear hc hl
      go_enter Tryd.func66, Tryd.ntmps66
      go_wp2_with (first | (rw [HW.out]) | (fail))
      obtain ⟨sA, sB, sC, kq, kz, z2, z3, kd, kb⟩ := ret_end (t := (a, c)) (p := p) (m := m) H0.out H0.out.r (by omega) (by omega)
      simp only at sA sB sC kq kz z2 z3 kd kb
      refine wp_region_held (S := fun w' => SRet (w.heap.size) (w.heap.size + 1) s (a, c) (p) (m) w') (by kernel_rfl) ?_
      change wpAnyH _ _ _ _ _ _ _ _ W.drew
      refine wpAnyH_takeD (i := 0) (d := 50) (v := .agg (inA s a c)) rfl rfl (by kernel_rfl) (by kernel_rfl) (by kernel_rfl) (fun _ _ _ h => h) (y_load _ rfl rfl rfl (fun w hw => run_loadAt_row w _ _ _ _ _ _ hw.1 Tryd.underlying118 rfl in_size)) sA ?_
      simp only [Act.put, List.setIfInBounds_toArray, List.set_cons_succ, List.set_cons_zero]
      refine wpAnyH_takeD (i := 1) (d := 51) (v := .agg (pkA .i64 (p) (m))) rfl rfl (by kernel_rfl) (by kernel_rfl) (by kernel_rfl) (fun _ _ _ h => h) (y_load _ rfl rfl rfl (fun w hw => run_loadAt_row w _ _ _ _ _ _ hw.2 Tryd.underlying52 rfl dpk_size)) sA ?_
      simp only [Act.put, List.setIfInBounds_toArray, List.set_cons_succ, List.set_cons_zero]
      refine two_store (k := 2) (l := 3) (dx := 4) (dy := 5) (vx := 50) (vy := 51) (bx := w.heap.size + 2) (by' := w.heap.size + 3) (cx := inA s a c) (cy := pkA .i64 (p) (m)) _ _ rfl rfl rfl rfl rfl rfl rfl rfl (by kernel_rfl) (by kernel_rfl) (by kernel_rfl) rfl rfl rfl rfl kq kz (by omega) in_size dpk_size rfl rfl (in_one _ _ _) (dpk_one _ _) sB sC ?_
      go_wp2_with fail
      refine bodyPost_ret (v := .tuple #[.agg (inA s a c), .agg (pkA .i64 (p) (m))]) (results_two_rows (P := Tryd.prog) (t1 := 4) (t2 := 5) (ty1 := 118) (ty2 := 52) (by kernel_rfl) _ _ (w.heap.size + 2) (w.heap.size + 3) 118 52 _ _ _ _ rfl rfl z2 z3 Tryd.underlying118 rfl in_size Tryd.underlying52 rfl dpk_size) rfl ?_
      exact dwPost_mk (a := a) (c := c) (p := p) (m := m) (EF.out) kd kb
  · have d1 : (c == 0) = false := beq_eq_false_iff_ne.2 hc
    have EF := Lib.hid (show dEnd s p (a, c) = (((a, c), p) : Tt × Pk) by unfold dEnd; rw [if_neg (fun h => hc h.1)]; unfold dEndP; rw [if_neg (fun h => hc h.1)])
    clear hc
    go_enter Tryd.func66, Tryd.ntmps66
    go_wp2_with (first | (rw [HW.out]) | (fail))
    obtain ⟨sA, sB, sC, kq, kz, z2, z3, kd, kb⟩ := ret_end (t := (a, c)) (p := p) (m := m) H0.out H0.out.r (by omega) (by omega)
    simp only at sA sB sC kq kz z2 z3 kd kb
    refine wp_region_held (S := fun w' => SRet (w.heap.size) (w.heap.size + 1) s (a, c) (p) (m) w') (by kernel_rfl) ?_
    change wpAnyH _ _ _ _ _ _ _ _ W.drew
    refine wpAnyH_takeD (i := 0) (d := 50) (v := .agg (inA s a c)) rfl rfl (by kernel_rfl) (by kernel_rfl) (by kernel_rfl) (fun _ _ _ h => h) (y_load _ rfl rfl rfl (fun w hw => run_loadAt_row w _ _ _ _ _ _ hw.1 Tryd.underlying118 rfl in_size)) sA ?_
    simp only [Act.put, List.setIfInBounds_toArray, List.set_cons_succ, List.set_cons_zero]
    refine wpAnyH_takeD (i := 1) (d := 51) (v := .agg (pkA .i64 (p) (m))) rfl rfl (by kernel_rfl) (by kernel_rfl) (by kernel_rfl) (fun _ _ _ h => h) (y_load _ rfl rfl rfl (fun w hw => run_loadAt_row w _ _ _ _ _ _ hw.2 Tryd.underlying52 rfl dpk_size)) sA ?_
    simp only [Act.put, List.setIfInBounds_toArray, List.set_cons_succ, List.set_cons_zero]
    refine two_store (k := 2) (l := 3) (dx := 4) (dy := 5) (vx := 50) (vy := 51) (bx := w.heap.size + 2) (by' := w.heap.size + 3) (cx := inA s a c) (cy := pkA .i64 (p) (m)) _ _ rfl rfl rfl rfl rfl rfl rfl rfl (by kernel_rfl) (by kernel_rfl) (by kernel_rfl) rfl rfl rfl rfl kq kz (by omega) in_size dpk_size rfl rfl (in_one _ _ _) (dpk_one _ _) sB sC ?_
    go_wp2_with fail
    refine bodyPost_ret (v := .tuple #[.agg (inA s a c), .agg (pkA .i64 (p) (m))]) (results_two_rows (P := Tryd.prog) (t1 := 4) (t2 := 5) (ty1 := 118) (ty2 := 52) (by kernel_rfl) _ _ (w.heap.size + 2) (w.heap.size + 3) 118 52 _ _ _ _ rfl rfl z2 z3 Tryd.underlying118 rfl in_size Tryd.underlying52 rfl dpk_size) rfl ?_
    exact dwPost_mk (a := a) (c := c) (p := p) (m := m) (EF.out) kd kb
end Go.Proofs.YtedapgeabpadaaaDoor

