/- Parts of the proof, joined: RgN. -/
import Derived.Test.YtedapgeabpadaaaDoorJ6P15
set_option linter.unusedVariables false
set_option linter.unusedSimpArgs false
namespace Go.Proofs.YtedapgeabpadaaaDoor
open Go.RowKit Pl Go.PlainAid Go.Shelf

theorem Dw.retc {B B' : Nat} {w X : World} {s : ByteArray} {t u : Tt} {p q : Pk} {m mq : Hs} (h : Dw B w s t p m X) (hd : PkD B' X q mq) (hB : B ≤ B') :
    Blk (X.setRow (w.heap.size + 2) (inA s u.1 u.2)) (w.heap.size + 3) (pkA .i64 zPk nHs) 52 ∧ Blk ((X.setRow (w.heap.size + 2) (inA s u.1 u.2)).setRow (w.heap.size + 3) (pkA .i64 q mq)) (w.heap.size + 2) (inA s u.1 u.2) 118 ∧
    Blk ((X.setRow (w.heap.size + 2) (inA s u.1 u.2)).setRow (w.heap.size + 3) (pkA .i64 q mq)) (w.heap.size + 3) (pkA .i64 q mq) 52 ∧ PkD B ((X.setRow (w.heap.size + 2) (inA s u.1 u.2)).setRow (w.heap.size + 3) (pkA .i64 q mq)) q mq ∧
    Below w.heap.size w ((X.setRow (w.heap.size + 2) (inA s u.1 u.2)).setRow (w.heap.size + 3) (pkA .i64 q mq)) := by
  have kz := h.z.row1 (g' := w.heap.size + 2) (by omega) (inA s u.1 u.2)
  exact ⟨kz, (h.q.row0 _).row1 (by omega) _, kz.row0 _, ((hd.mono hB).row h.q (.inl rfl) _).row kz (.inr rfl) _, below_setRow (below_setRow h.bl (by omega) _) (by omega) _⟩
set_option maxHeartbeats 8000000 in
set_option maxRecDepth 100000 in
theorem dbody_14 (B : Nat) (s : ByteArray) (t : Tt) (p : Pk) (m : Hs) (w : World) (hs : s.size ≤ 140737488351232) (hr : Rg s t) (hB : B ≤ w.heap.size) (hd : PkD B w p m) (hk : p.kind = 14) :
    Calls Tryd.prog 39 #[.agg (inA s t.1 t.2), .agg (pkA .i64 p m)] w (DwPost B w s (dKind s p t)) := by
  have EK := Lib.hid (show dKind s p t = dEnd s p t by unfold dKind; rw [if_neg (by omega)]; rw [if_neg (by omega)]; rw [if_neg (by omega)]; rw [if_neg (by omega)]; rw [if_pos (by omega)])
  have t1 : (p.kind == 1) = false := beq_eq_false_iff_ne.2 (by omega)
  have t2 : (p.kind == 2) = false := beq_eq_false_iff_ne.2 (by omega)
  have t3 : (p.kind == 3) = false := beq_eq_false_iff_ne.2 (by omega)
  have t4 : (p.kind == 4) = false := beq_eq_false_iff_ne.2 (by omega)
  have t5 : (p.kind == 5) = false := beq_eq_false_iff_ne.2 (by omega)
  have t6 : (p.kind == 6) = false := beq_eq_false_iff_ne.2 (by omega)
  have t7 : (p.kind == 7) = false := beq_eq_false_iff_ne.2 (by omega)
  have t14 : (p.kind == 14) = true := by rw [hk]; rfl
  obtain ⟨a, c⟩ := t
  simp only
  have h0 := Dw.new s (a, c) p m hB hd
  obtain ⟨W, hW⟩ : ∃ W, (((w.alloc (.cells (inA s a c) 118)).alloc (.cells (pkA .i64 p m) 52)).alloc (.cells (inA eS 0 0) 118)).alloc (.cells (pkA .i64 zPk nHs) 52) = W := ⟨_, rfl⟩
  rw [hW] at h0
  have H0 := Lib.hid h0
  have HW := Lib.hid (show (((w.alloc (.cells (inA s a c) 118)).alloc (.cells (pkA .i64 p m) 52)).alloc (.cells #[.string ⟨#[]⟩, .int .i64 0, .int .i64 0] 118)).alloc (.cells #[.int .i64 0, .bool false, .bool false, .int .i64 0, .int .i64 0, .string ⟨#[]⟩, .string ⟨#[]⟩, .int .i64 0, .slice none 0 0, .slice none 0 0, .string ⟨#[]⟩, .bool false, .int .i64 0, .bool false, .string ⟨#[]⟩, .string ⟨#[]⟩, .int .i64 0, .bool false, .slice none 0 0, .bool false, .bool false, .string ⟨#[]⟩, .string ⟨#[]⟩, .bool false, .slice none 0 0, .slice none 0 0] 52) = W from hW)
  have HR0 : Hid (Rg s (a, c)) := Lib.hid hr
  clear h0 hW hd hr
  have k0 : W.cell? ⟨w.heap.size + 1, 0, none⟩ = some (.int .i64 p.kind) := H0.out.k.cell 0
  clear hk
  go_enter Tryd.func39, Tryd.ntmps39
  have C1 := dend_any B s (a, c) p m W hs HR0.out (Nat.le_trans hB H0.out.bl.size) H0.out.d
  obtain ⟨⟨⟨a9, c9⟩, p9⟩, e1⟩ : ∃ x, dEnd s p (a, c) = x := ⟨_, rfl⟩
  rw [e1] at C1
  have C1 := Lib.hid C1
  have E1 := Lib.hid e1
  clear e1
  go_wp2_with (first | (rw [HW.out]) | (refine wpList_load_row rfl 118 (.tmp 2) rfl (w.heap.size) rfl 118 _ (0, 0) _ H0.out.r Tryd.underlying118 rfl in_size ?_) | (refine wpList_load_row rfl 52 (.tmp 3) rfl (w.heap.size + 1) rfl 52 _ (0, 0) _ H0.out.k Tryd.underlying52 rfl dpk_size ?_) | (fail))
  refine C1.out.mono ?_
  rintro e w1 ⟨mr, rfl, hdr, b1⟩
  simp only at hdr ⊢
  have hst := H0.out.step b1
  have hrc := hst.retc (u := (a9, c9)) hdr (Nat.le_refl _)
  simp only at hrc
  obtain ⟨Za, hZa⟩ : ∃ Z, w1.setRow (w.heap.size + 2) (inA s a9 c9) = Z := ⟨_, rfl⟩
  rw [hZa] at hrc
  obtain ⟨Zb, hZb⟩ : ∃ Z, Za.setRow (w.heap.size + 3) (pkA .i64 p9 mr) = Z := ⟨_, rfl⟩
  rw [hZb] at hrc
  have HRC := Lib.hid hrc
  have HST := Lib.hid hst
  have HZa := Lib.hid hZa
  have HZb := Lib.hid hZb
  clear hrc hst hZa hZb hdr b1 C1
  go_wp2_with (first | (refine wpList_store_rowN rfl 118 (.tmp 4) (.tmp 121) rfl rfl (w.heap.size + 2) (inA s a9 c9) rfl rfl 118 (inA eS 0 0) HST.out.q in_size rfl (in_one _ _ _) Za HZa.out ?_) | (refine wpList_store_rowN rfl 52 (.tmp 5) (.tmp 122) rfl rfl (w.heap.size + 3) (pkA .i64 p9 mr) rfl rfl 52 (pkA .i64 zPk nHs) HRC.out.1 dpk_size rfl (dpk_one _ _) Zb HZb.out ?_) | (fail))
  refine bodyPost_ret (v := .tuple #[.agg (inA s a9 c9), .agg (pkA .i64 p9 mr)]) (results_two_rows (P := Tryd.prog) (t1 := 4) (t2 := 5) (ty1 := 118) (ty2 := 52) (by kernel_rfl) _ _ (w.heap.size + 2) (w.heap.size + 3) 118 52 _ _ _ _ rfl rfl HRC.out.2.1 HRC.out.2.2.1 Tryd.underlying118 rfl in_size Tryd.underlying52 rfl dpk_size) rfl ?_
  exact dwPost_mk (a := a9) (c := c9) (p := p9) (m := mr) (by rw [EK.out, E1.out]) HRC.out.2.2.2.1 HRC.out.2.2.2.2
set_option maxHeartbeats 8000000 in
set_option maxRecDepth 100000 in
theorem dbody_15 (B : Nat) (s : ByteArray) (t : Tt) (p : Pk) (m : Hs) (w : World) (hs : s.size ≤ 140737488351232) (hr : Rg s t) (hB : B ≤ w.heap.size) (hd : PkD B w p m) (hk : p.kind = 15) :
    Calls Tryd.prog 39 #[.agg (inA s t.1 t.2), .agg (pkA .i64 p m)] w (DwPost B w s (dKind s p t)) := by
  have EK := Lib.hid (show dKind s p t = dEnd s p t by unfold dKind; rw [if_neg (by omega)]; rw [if_neg (by omega)]; rw [if_neg (by omega)]; rw [if_neg (by omega)]; rw [if_pos (by omega)])
  have t1 : (p.kind == 1) = false := beq_eq_false_iff_ne.2 (by omega)
  have t2 : (p.kind == 2) = false := beq_eq_false_iff_ne.2 (by omega)
  have t3 : (p.kind == 3) = false := beq_eq_false_iff_ne.2 (by omega)
  have t4 : (p.kind == 4) = false := beq_eq_false_iff_ne.2 (by omega)
  have t5 : (p.kind == 5) = false := beq_eq_false_iff_ne.2 (by omega)
  have t6 : (p.kind == 6) = false := beq_eq_false_iff_ne.2 (by omega)
  have t7 : (p.kind == 7) = false := beq_eq_false_iff_ne.2 (by omega)
  have t14 : (p.kind == 14) = false := beq_eq_false_iff_ne.2 (by omega)
  have t15 : (p.kind == 15) = true := by rw [hk]; rfl
  obtain ⟨a, c⟩ := t
  simp only
  have h0 := Dw.new s (a, c) p m hB hd
  obtain ⟨W, hW⟩ : ∃ W, (((w.alloc (.cells (inA s a c) 118)).alloc (.cells (pkA .i64 p m) 52)).alloc (.cells (inA eS 0 0) 118)).alloc (.cells (pkA .i64 zPk nHs) 52) = W := ⟨_, rfl⟩
  rw [hW] at h0
  have H0 := Lib.hid h0
  have HW := Lib.hid (show (((w.alloc (.cells (inA s a c) 118)).alloc (.cells (pkA .i64 p m) 52)).alloc (.cells #[.string ⟨#[]⟩, .int .i64 0, .int .i64 0] 118)).alloc (.cells #[.int .i64 0, .bool false, .bool false, .int .i64 0, .int .i64 0, .string ⟨#[]⟩, .string ⟨#[]⟩, .int .i64 0, .slice none 0 0, .slice none 0 0, .string ⟨#[]⟩, .bool false, .int .i64 0, .bool false, .string ⟨#[]⟩, .string ⟨#[]⟩, .int .i64 0, .bool false, .slice none 0 0, .bool false, .bool false, .string ⟨#[]⟩, .string ⟨#[]⟩, .bool false, .slice none 0 0, .slice none 0 0] 52) = W from hW)
  have HR0 : Hid (Rg s (a, c)) := Lib.hid hr
  clear h0 hW hd hr
  have k0 : W.cell? ⟨w.heap.size + 1, 0, none⟩ = some (.int .i64 p.kind) := H0.out.k.cell 0
  clear hk
  go_enter Tryd.func39, Tryd.ntmps39
  have C1 := dend_any B s (a, c) p m W hs HR0.out (Nat.le_trans hB H0.out.bl.size) H0.out.d
  obtain ⟨⟨⟨a9, c9⟩, p9⟩, e1⟩ : ∃ x, dEnd s p (a, c) = x := ⟨_, rfl⟩
  rw [e1] at C1
  have C1 := Lib.hid C1
  have E1 := Lib.hid e1
  clear e1
  go_wp2_with (first | (rw [HW.out]) | (refine wpList_load_row rfl 118 (.tmp 2) rfl (w.heap.size) rfl 118 _ (0, 0) _ H0.out.r Tryd.underlying118 rfl in_size ?_) | (refine wpList_load_row rfl 52 (.tmp 3) rfl (w.heap.size + 1) rfl 52 _ (0, 0) _ H0.out.k Tryd.underlying52 rfl dpk_size ?_) | (fail))
  refine C1.out.mono ?_
  rintro e w1 ⟨mr, rfl, hdr, b1⟩
  simp only at hdr ⊢
  have hst := H0.out.step b1
  have hrc := hst.retc (u := (a9, c9)) hdr (Nat.le_refl _)
  simp only at hrc
  obtain ⟨Za, hZa⟩ : ∃ Z, w1.setRow (w.heap.size + 2) (inA s a9 c9) = Z := ⟨_, rfl⟩
  rw [hZa] at hrc
  obtain ⟨Zb, hZb⟩ : ∃ Z, Za.setRow (w.heap.size + 3) (pkA .i64 p9 mr) = Z := ⟨_, rfl⟩
  rw [hZb] at hrc
  have HRC := Lib.hid hrc
  have HST := Lib.hid hst
  have HZa := Lib.hid hZa
  have HZb := Lib.hid hZb
  clear hrc hst hZa hZb hdr b1 C1
  go_wp2_with (first | (refine wpList_store_rowN rfl 118 (.tmp 4) (.tmp 121) rfl rfl (w.heap.size + 2) (inA s a9 c9) rfl rfl 118 (inA eS 0 0) HST.out.q in_size rfl (in_one _ _ _) Za HZa.out ?_) | (refine wpList_store_rowN rfl 52 (.tmp 5) (.tmp 122) rfl rfl (w.heap.size + 3) (pkA .i64 p9 mr) rfl rfl 52 (pkA .i64 zPk nHs) HRC.out.1 dpk_size rfl (dpk_one _ _) Zb HZb.out ?_) | (fail))
  refine bodyPost_ret (v := .tuple #[.agg (inA s a9 c9), .agg (pkA .i64 p9 mr)]) (results_two_rows (P := Tryd.prog) (t1 := 4) (t2 := 5) (ty1 := 118) (ty2 := 52) (by kernel_rfl) _ _ (w.heap.size + 2) (w.heap.size + 3) 118 52 _ _ _ _ rfl rfl HRC.out.2.1 HRC.out.2.2.1 Tryd.underlying118 rfl in_size Tryd.underlying52 rfl dpk_size) rfl ?_
  exact dwPost_mk (a := a9) (c := c9) (p := p9) (m := mr) (by rw [EK.out, E1.out]) HRC.out.2.2.2.1 HRC.out.2.2.2.2
set_option maxHeartbeats 8000000 in
set_option maxRecDepth 100000 in
theorem dbody_8 (B : Nat) (s : ByteArray) (t : Tt) (p : Pk) (m : Hs) (w : World) (hs : s.size ≤ 140737488351232) (hr : Rg s t) (hB : B ≤ w.heap.size) (hd : PkD B w p m) (hz : p.codes = [] ∧ p.subs = [] ∧ p.filters = []) (hm : m.c = nHd ∧ m.s = nHd ∧ m.f = nHd) (hk : p.kind = 8) :
    Calls Tryd.prog 39 #[.agg (inA s t.1 t.2), .agg (pkA .i64 p m)] w (DwPost B w s (dKind s p t)) := by
  have EK := Lib.hid (show dKind s p t = dLists s p t by unfold dKind; rw [if_neg (by omega)]; rw [if_neg (by omega)]; rw [if_neg (by omega)]; rw [if_neg (by omega)]; rw [if_neg (by omega)]; rw [if_pos (by omega)])
  have t1 : (p.kind == 1) = false := beq_eq_false_iff_ne.2 (by omega)
  have t2 : (p.kind == 2) = false := beq_eq_false_iff_ne.2 (by omega)
  have t3 : (p.kind == 3) = false := beq_eq_false_iff_ne.2 (by omega)
  have t4 : (p.kind == 4) = false := beq_eq_false_iff_ne.2 (by omega)
  have t5 : (p.kind == 5) = false := beq_eq_false_iff_ne.2 (by omega)
  have t6 : (p.kind == 6) = false := beq_eq_false_iff_ne.2 (by omega)
  have t7 : (p.kind == 7) = false := beq_eq_false_iff_ne.2 (by omega)
  have t14 : (p.kind == 14) = false := beq_eq_false_iff_ne.2 (by omega)
  have t15 : (p.kind == 15) = false := beq_eq_false_iff_ne.2 (by omega)
  have t8 : (p.kind == 8) = true := by rw [hk]; rfl
  obtain ⟨a, c⟩ := t
  simp only
  have h0 := Dw.new s (a, c) p m hB hd
  obtain ⟨W, hW⟩ : ∃ W, (((w.alloc (.cells (inA s a c) 118)).alloc (.cells (pkA .i64 p m) 52)).alloc (.cells (inA eS 0 0) 118)).alloc (.cells (pkA .i64 zPk nHs) 52) = W := ⟨_, rfl⟩
  rw [hW] at h0
  have H0 := Lib.hid h0
  have HW := Lib.hid (show (((w.alloc (.cells (inA s a c) 118)).alloc (.cells (pkA .i64 p m) 52)).alloc (.cells #[.string ⟨#[]⟩, .int .i64 0, .int .i64 0] 118)).alloc (.cells #[.int .i64 0, .bool false, .bool false, .int .i64 0, .int .i64 0, .string ⟨#[]⟩, .string ⟨#[]⟩, .int .i64 0, .slice none 0 0, .slice none 0 0, .string ⟨#[]⟩, .bool false, .int .i64 0, .bool false, .string ⟨#[]⟩, .string ⟨#[]⟩, .int .i64 0, .bool false, .slice none 0 0, .bool false, .bool false, .string ⟨#[]⟩, .string ⟨#[]⟩, .bool false, .slice none 0 0, .slice none 0 0] 52) = W from hW)
  have HR0 : Hid (Rg s (a, c)) := Lib.hid hr
  clear h0 hW hd hr
  have k0 : W.cell? ⟨w.heap.size + 1, 0, none⟩ = some (.int .i64 p.kind) := H0.out.k.cell 0
  have HZ := Lib.hid hz
  have HM := Lib.hid hm
  clear hk hz hm
  go_enter Tryd.func39, Tryd.ntmps39
  have C1 := dlists_any B s (a, c) p m W hs HR0.out (Nat.le_trans hB H0.out.bl.size) H0.out.d HZ.out HM.out
  obtain ⟨⟨⟨a9, c9⟩, p9⟩, e1⟩ : ∃ x, dLists s p (a, c) = x := ⟨_, rfl⟩
  rw [e1] at C1
  have C1 := Lib.hid C1
  have E1 := Lib.hid e1
  clear e1
  go_wp2_with (first | (rw [HW.out]) | (refine wpList_load_row rfl 118 (.tmp 2) rfl (w.heap.size) rfl 118 _ (0, 0) _ H0.out.r Tryd.underlying118 rfl in_size ?_) | (refine wpList_load_row rfl 52 (.tmp 3) rfl (w.heap.size + 1) rfl 52 _ (0, 0) _ H0.out.k Tryd.underlying52 rfl dpk_size ?_) | (fail))
  refine C1.out.mono ?_
  rintro e w1 ⟨mr, rfl, hdr, b1⟩
  simp only at hdr ⊢
  have hst := H0.out.step b1
  have hrc := hst.retc (u := (a9, c9)) hdr (Nat.le_refl _)
  simp only at hrc
  obtain ⟨Za, hZa⟩ : ∃ Z, w1.setRow (w.heap.size + 2) (inA s a9 c9) = Z := ⟨_, rfl⟩
  rw [hZa] at hrc
  obtain ⟨Zb, hZb⟩ : ∃ Z, Za.setRow (w.heap.size + 3) (pkA .i64 p9 mr) = Z := ⟨_, rfl⟩
  rw [hZb] at hrc
  have HRC := Lib.hid hrc
  have HST := Lib.hid hst
  have HZa := Lib.hid hZa
  have HZb := Lib.hid hZb
  clear hrc hst hZa hZb hdr b1 C1
  go_wp2_with (first | (refine wpList_store_rowN rfl 118 (.tmp 4) (.tmp 131) rfl rfl (w.heap.size + 2) (inA s a9 c9) rfl rfl 118 (inA eS 0 0) HST.out.q in_size rfl (in_one _ _ _) Za HZa.out ?_) | (refine wpList_store_rowN rfl 52 (.tmp 5) (.tmp 132) rfl rfl (w.heap.size + 3) (pkA .i64 p9 mr) rfl rfl 52 (pkA .i64 zPk nHs) HRC.out.1 dpk_size rfl (dpk_one _ _) Zb HZb.out ?_) | (fail))
  refine bodyPost_ret (v := .tuple #[.agg (inA s a9 c9), .agg (pkA .i64 p9 mr)]) (results_two_rows (P := Tryd.prog) (t1 := 4) (t2 := 5) (ty1 := 118) (ty2 := 52) (by kernel_rfl) _ _ (w.heap.size + 2) (w.heap.size + 3) 118 52 _ _ _ _ rfl rfl HRC.out.2.1 HRC.out.2.2.1 Tryd.underlying118 rfl in_size Tryd.underlying52 rfl dpk_size) rfl ?_
  exact dwPost_mk (a := a9) (c := c9) (p := p9) (m := mr) (by rw [EK.out, E1.out]) HRC.out.2.2.2.1 HRC.out.2.2.2.2
set_option maxHeartbeats 8000000 in
set_option maxRecDepth 100000 in
theorem dbody_9 (B : Nat) (s : ByteArray) (t : Tt) (p : Pk) (m : Hs) (w : World) (hs : s.size ≤ 140737488351232) (hr : Rg s t) (hB : B ≤ w.heap.size) (hd : PkD B w p m) (hz : p.codes = [] ∧ p.subs = [] ∧ p.filters = []) (hm : m.c = nHd ∧ m.s = nHd ∧ m.f = nHd) (hk : p.kind = 9) :
    Calls Tryd.prog 39 #[.agg (inA s t.1 t.2), .agg (pkA .i64 p m)] w (DwPost B w s (dKind s p t)) := by
  have EK := Lib.hid (show dKind s p t = dLists s p t by unfold dKind; rw [if_neg (by omega)]; rw [if_neg (by omega)]; rw [if_neg (by omega)]; rw [if_neg (by omega)]; rw [if_neg (by omega)]; rw [if_pos (by omega)])
  have t1 : (p.kind == 1) = false := beq_eq_false_iff_ne.2 (by omega)
  have t2 : (p.kind == 2) = false := beq_eq_false_iff_ne.2 (by omega)
  have t3 : (p.kind == 3) = false := beq_eq_false_iff_ne.2 (by omega)
  have t4 : (p.kind == 4) = false := beq_eq_false_iff_ne.2 (by omega)
  have t5 : (p.kind == 5) = false := beq_eq_false_iff_ne.2 (by omega)
  have t6 : (p.kind == 6) = false := beq_eq_false_iff_ne.2 (by omega)
  have t7 : (p.kind == 7) = false := beq_eq_false_iff_ne.2 (by omega)
  have t14 : (p.kind == 14) = false := beq_eq_false_iff_ne.2 (by omega)
  have t15 : (p.kind == 15) = false := beq_eq_false_iff_ne.2 (by omega)
  have t8 : (p.kind == 8) = false := beq_eq_false_iff_ne.2 (by omega)
  have t9 : (p.kind == 9) = true := by rw [hk]; rfl
  obtain ⟨a, c⟩ := t
  simp only
  have h0 := Dw.new s (a, c) p m hB hd
  obtain ⟨W, hW⟩ : ∃ W, (((w.alloc (.cells (inA s a c) 118)).alloc (.cells (pkA .i64 p m) 52)).alloc (.cells (inA eS 0 0) 118)).alloc (.cells (pkA .i64 zPk nHs) 52) = W := ⟨_, rfl⟩
  rw [hW] at h0
  have H0 := Lib.hid h0
  have HW := Lib.hid (show (((w.alloc (.cells (inA s a c) 118)).alloc (.cells (pkA .i64 p m) 52)).alloc (.cells #[.string ⟨#[]⟩, .int .i64 0, .int .i64 0] 118)).alloc (.cells #[.int .i64 0, .bool false, .bool false, .int .i64 0, .int .i64 0, .string ⟨#[]⟩, .string ⟨#[]⟩, .int .i64 0, .slice none 0 0, .slice none 0 0, .string ⟨#[]⟩, .bool false, .int .i64 0, .bool false, .string ⟨#[]⟩, .string ⟨#[]⟩, .int .i64 0, .bool false, .slice none 0 0, .bool false, .bool false, .string ⟨#[]⟩, .string ⟨#[]⟩, .bool false, .slice none 0 0, .slice none 0 0] 52) = W from hW)
  have HR0 : Hid (Rg s (a, c)) := Lib.hid hr
  clear h0 hW hd hr
  have k0 : W.cell? ⟨w.heap.size + 1, 0, none⟩ = some (.int .i64 p.kind) := H0.out.k.cell 0
  have HZ := Lib.hid hz
  have HM := Lib.hid hm
  clear hk hz hm
  go_enter Tryd.func39, Tryd.ntmps39
  have C1 := dlists_any B s (a, c) p m W hs HR0.out (Nat.le_trans hB H0.out.bl.size) H0.out.d HZ.out HM.out
  obtain ⟨⟨⟨a9, c9⟩, p9⟩, e1⟩ : ∃ x, dLists s p (a, c) = x := ⟨_, rfl⟩
  rw [e1] at C1
  have C1 := Lib.hid C1
  have E1 := Lib.hid e1
  clear e1
  go_wp2_with (first | (rw [HW.out]) | (refine wpList_load_row rfl 118 (.tmp 2) rfl (w.heap.size) rfl 118 _ (0, 0) _ H0.out.r Tryd.underlying118 rfl in_size ?_) | (refine wpList_load_row rfl 52 (.tmp 3) rfl (w.heap.size + 1) rfl 52 _ (0, 0) _ H0.out.k Tryd.underlying52 rfl dpk_size ?_) | (fail))
  refine C1.out.mono ?_
  rintro e w1 ⟨mr, rfl, hdr, b1⟩
  simp only at hdr ⊢
  have hst := H0.out.step b1
  have hrc := hst.retc (u := (a9, c9)) hdr (Nat.le_refl _)
  simp only at hrc
  obtain ⟨Za, hZa⟩ : ∃ Z, w1.setRow (w.heap.size + 2) (inA s a9 c9) = Z := ⟨_, rfl⟩
  rw [hZa] at hrc
  obtain ⟨Zb, hZb⟩ : ∃ Z, Za.setRow (w.heap.size + 3) (pkA .i64 p9 mr) = Z := ⟨_, rfl⟩
  rw [hZb] at hrc
  have HRC := Lib.hid hrc
  have HST := Lib.hid hst
  have HZa := Lib.hid hZa
  have HZb := Lib.hid hZb
  clear hrc hst hZa hZb hdr b1 C1
  go_wp2_with (first | (refine wpList_store_rowN rfl 118 (.tmp 4) (.tmp 131) rfl rfl (w.heap.size + 2) (inA s a9 c9) rfl rfl 118 (inA eS 0 0) HST.out.q in_size rfl (in_one _ _ _) Za HZa.out ?_) | (refine wpList_store_rowN rfl 52 (.tmp 5) (.tmp 132) rfl rfl (w.heap.size + 3) (pkA .i64 p9 mr) rfl rfl 52 (pkA .i64 zPk nHs) HRC.out.1 dpk_size rfl (dpk_one _ _) Zb HZb.out ?_) | (fail))
  refine bodyPost_ret (v := .tuple #[.agg (inA s a9 c9), .agg (pkA .i64 p9 mr)]) (results_two_rows (P := Tryd.prog) (t1 := 4) (t2 := 5) (ty1 := 118) (ty2 := 52) (by kernel_rfl) _ _ (w.heap.size + 2) (w.heap.size + 3) 118 52 _ _ _ _ rfl rfl HRC.out.2.1 HRC.out.2.2.1 Tryd.underlying118 rfl in_size Tryd.underlying52 rfl dpk_size) rfl ?_
  exact dwPost_mk (a := a9) (c := c9) (p := p9) (m := mr) (by rw [EK.out, E1.out]) HRC.out.2.2.2.1 HRC.out.2.2.2.2
set_option maxHeartbeats 8000000 in
set_option maxRecDepth 100000 in
theorem dbody_10 (B : Nat) (s : ByteArray) (t : Tt) (p : Pk) (m : Hs) (w : World) (hs : s.size ≤ 140737488351232) (hr : Rg s t) (hB : B ≤ w.heap.size) (hd : PkD B w p m) (hz : p.codes = [] ∧ p.subs = [] ∧ p.filters = []) (hm : m.c = nHd ∧ m.s = nHd ∧ m.f = nHd) (hk : p.kind = 10) :
    Calls Tryd.prog 39 #[.agg (inA s t.1 t.2), .agg (pkA .i64 p m)] w (DwPost B w s (dKind s p t)) := by
  have EK := Lib.hid (show dKind s p t = dLists s p t by unfold dKind; rw [if_neg (by omega)]; rw [if_neg (by omega)]; rw [if_neg (by omega)]; rw [if_neg (by omega)]; rw [if_neg (by omega)]; rw [if_pos (by omega)])
  have t1 : (p.kind == 1) = false := beq_eq_false_iff_ne.2 (by omega)
  have t2 : (p.kind == 2) = false := beq_eq_false_iff_ne.2 (by omega)
  have t3 : (p.kind == 3) = false := beq_eq_false_iff_ne.2 (by omega)
  have t4 : (p.kind == 4) = false := beq_eq_false_iff_ne.2 (by omega)
  have t5 : (p.kind == 5) = false := beq_eq_false_iff_ne.2 (by omega)
  have t6 : (p.kind == 6) = false := beq_eq_false_iff_ne.2 (by omega)
  have t7 : (p.kind == 7) = false := beq_eq_false_iff_ne.2 (by omega)
  have t14 : (p.kind == 14) = false := beq_eq_false_iff_ne.2 (by omega)
  have t15 : (p.kind == 15) = false := beq_eq_false_iff_ne.2 (by omega)
  have t8 : (p.kind == 8) = false := beq_eq_false_iff_ne.2 (by omega)
  have t9 : (p.kind == 9) = false := beq_eq_false_iff_ne.2 (by omega)
  have t10 : (p.kind == 10) = true := by rw [hk]; rfl
  obtain ⟨a, c⟩ := t
  simp only
  have h0 := Dw.new s (a, c) p m hB hd
  obtain ⟨W, hW⟩ : ∃ W, (((w.alloc (.cells (inA s a c) 118)).alloc (.cells (pkA .i64 p m) 52)).alloc (.cells (inA eS 0 0) 118)).alloc (.cells (pkA .i64 zPk nHs) 52) = W := ⟨_, rfl⟩
  rw [hW] at h0
  have H0 := Lib.hid h0
  have HW := Lib.hid (show (((w.alloc (.cells (inA s a c) 118)).alloc (.cells (pkA .i64 p m) 52)).alloc (.cells #[.string ⟨#[]⟩, .int .i64 0, .int .i64 0] 118)).alloc (.cells #[.int .i64 0, .bool false, .bool false, .int .i64 0, .int .i64 0, .string ⟨#[]⟩, .string ⟨#[]⟩, .int .i64 0, .slice none 0 0, .slice none 0 0, .string ⟨#[]⟩, .bool false, .int .i64 0, .bool false, .string ⟨#[]⟩, .string ⟨#[]⟩, .int .i64 0, .bool false, .slice none 0 0, .bool false, .bool false, .string ⟨#[]⟩, .string ⟨#[]⟩, .bool false, .slice none 0 0, .slice none 0 0] 52) = W from hW)
  have HR0 : Hid (Rg s (a, c)) := Lib.hid hr
  clear h0 hW hd hr
  have k0 : W.cell? ⟨w.heap.size + 1, 0, none⟩ = some (.int .i64 p.kind) := H0.out.k.cell 0
  have HZ := Lib.hid hz
  have HM := Lib.hid hm
  clear hk hz hm
  go_enter Tryd.func39, Tryd.ntmps39
  have C1 := dlists_any B s (a, c) p m W hs HR0.out (Nat.le_trans hB H0.out.bl.size) H0.out.d HZ.out HM.out
  obtain ⟨⟨⟨a9, c9⟩, p9⟩, e1⟩ : ∃ x, dLists s p (a, c) = x := ⟨_, rfl⟩
  rw [e1] at C1
  have C1 := Lib.hid C1
  have E1 := Lib.hid e1
  clear e1
  go_wp2_with (first | (rw [HW.out]) | (refine wpList_load_row rfl 118 (.tmp 2) rfl (w.heap.size) rfl 118 _ (0, 0) _ H0.out.r Tryd.underlying118 rfl in_size ?_) | (refine wpList_load_row rfl 52 (.tmp 3) rfl (w.heap.size + 1) rfl 52 _ (0, 0) _ H0.out.k Tryd.underlying52 rfl dpk_size ?_) | (fail))
  refine C1.out.mono ?_
  rintro e w1 ⟨mr, rfl, hdr, b1⟩
  simp only at hdr ⊢
  have hst := H0.out.step b1
  have hrc := hst.retc (u := (a9, c9)) hdr (Nat.le_refl _)
  simp only at hrc
  obtain ⟨Za, hZa⟩ : ∃ Z, w1.setRow (w.heap.size + 2) (inA s a9 c9) = Z := ⟨_, rfl⟩
  rw [hZa] at hrc
  obtain ⟨Zb, hZb⟩ : ∃ Z, Za.setRow (w.heap.size + 3) (pkA .i64 p9 mr) = Z := ⟨_, rfl⟩
  rw [hZb] at hrc
  have HRC := Lib.hid hrc
  have HST := Lib.hid hst
  have HZa := Lib.hid hZa
  have HZb := Lib.hid hZb
  clear hrc hst hZa hZb hdr b1 C1
  go_wp2_with (first | (refine wpList_store_rowN rfl 118 (.tmp 4) (.tmp 131) rfl rfl (w.heap.size + 2) (inA s a9 c9) rfl rfl 118 (inA eS 0 0) HST.out.q in_size rfl (in_one _ _ _) Za HZa.out ?_) | (refine wpList_store_rowN rfl 52 (.tmp 5) (.tmp 132) rfl rfl (w.heap.size + 3) (pkA .i64 p9 mr) rfl rfl 52 (pkA .i64 zPk nHs) HRC.out.1 dpk_size rfl (dpk_one _ _) Zb HZb.out ?_) | (fail))
  refine bodyPost_ret (v := .tuple #[.agg (inA s a9 c9), .agg (pkA .i64 p9 mr)]) (results_two_rows (P := Tryd.prog) (t1 := 4) (t2 := 5) (ty1 := 118) (ty2 := 52) (by kernel_rfl) _ _ (w.heap.size + 2) (w.heap.size + 3) 118 52 _ _ _ _ rfl rfl HRC.out.2.1 HRC.out.2.2.1 Tryd.underlying118 rfl in_size Tryd.underlying52 rfl dpk_size) rfl ?_
  exact dwPost_mk (a := a9) (c := c9) (p := p9) (m := mr) (by rw [EK.out, E1.out]) HRC.out.2.2.2.1 HRC.out.2.2.2.2
set_option maxHeartbeats 8000000 in
set_option maxRecDepth 100000 in
theorem dbody_11 (B : Nat) (s : ByteArray) (t : Tt) (p : Pk) (m : Hs) (w : World) (hs : s.size ≤ 140737488351232) (hr : Rg s t) (hB : B ≤ w.heap.size) (hd : PkD B w p m) (hz : p.codes = [] ∧ p.subs = [] ∧ p.filters = []) (hm : m.c = nHd ∧ m.s = nHd ∧ m.f = nHd) (hk : p.kind = 11) :
    Calls Tryd.prog 39 #[.agg (inA s t.1 t.2), .agg (pkA .i64 p m)] w (DwPost B w s (dKind s p t)) := by
  have EK := Lib.hid (show dKind s p t = dLists s p t by unfold dKind; rw [if_neg (by omega)]; rw [if_neg (by omega)]; rw [if_neg (by omega)]; rw [if_neg (by omega)]; rw [if_neg (by omega)]; rw [if_pos (by omega)])
  have t1 : (p.kind == 1) = false := beq_eq_false_iff_ne.2 (by omega)
  have t2 : (p.kind == 2) = false := beq_eq_false_iff_ne.2 (by omega)
  have t3 : (p.kind == 3) = false := beq_eq_false_iff_ne.2 (by omega)
  have t4 : (p.kind == 4) = false := beq_eq_false_iff_ne.2 (by omega)
  have t5 : (p.kind == 5) = false := beq_eq_false_iff_ne.2 (by omega)
  have t6 : (p.kind == 6) = false := beq_eq_false_iff_ne.2 (by omega)
  have t7 : (p.kind == 7) = false := beq_eq_false_iff_ne.2 (by omega)
  have t14 : (p.kind == 14) = false := beq_eq_false_iff_ne.2 (by omega)
  have t15 : (p.kind == 15) = false := beq_eq_false_iff_ne.2 (by omega)
  have t8 : (p.kind == 8) = false := beq_eq_false_iff_ne.2 (by omega)
  have t9 : (p.kind == 9) = false := beq_eq_false_iff_ne.2 (by omega)
  have t10 : (p.kind == 10) = false := beq_eq_false_iff_ne.2 (by omega)
  have t11 : (p.kind == 11) = true := by rw [hk]; rfl
  obtain ⟨a, c⟩ := t
  simp only
  have h0 := Dw.new s (a, c) p m hB hd
  obtain ⟨W, hW⟩ : ∃ W, (((w.alloc (.cells (inA s a c) 118)).alloc (.cells (pkA .i64 p m) 52)).alloc (.cells (inA eS 0 0) 118)).alloc (.cells (pkA .i64 zPk nHs) 52) = W := ⟨_, rfl⟩
  rw [hW] at h0
  have H0 := Lib.hid h0
  have HW := Lib.hid (show (((w.alloc (.cells (inA s a c) 118)).alloc (.cells (pkA .i64 p m) 52)).alloc (.cells #[.string ⟨#[]⟩, .int .i64 0, .int .i64 0] 118)).alloc (.cells #[.int .i64 0, .bool false, .bool false, .int .i64 0, .int .i64 0, .string ⟨#[]⟩, .string ⟨#[]⟩, .int .i64 0, .slice none 0 0, .slice none 0 0, .string ⟨#[]⟩, .bool false, .int .i64 0, .bool false, .string ⟨#[]⟩, .string ⟨#[]⟩, .int .i64 0, .bool false, .slice none 0 0, .bool false, .bool false, .string ⟨#[]⟩, .string ⟨#[]⟩, .bool false, .slice none 0 0, .slice none 0 0] 52) = W from hW)
  have HR0 : Hid (Rg s (a, c)) := Lib.hid hr
  clear h0 hW hd hr
  have k0 : W.cell? ⟨w.heap.size + 1, 0, none⟩ = some (.int .i64 p.kind) := H0.out.k.cell 0
  have HZ := Lib.hid hz
  have HM := Lib.hid hm
  clear hk hz hm
  go_enter Tryd.func39, Tryd.ntmps39
  have C1 := dlists_any B s (a, c) p m W hs HR0.out (Nat.le_trans hB H0.out.bl.size) H0.out.d HZ.out HM.out
  obtain ⟨⟨⟨a9, c9⟩, p9⟩, e1⟩ : ∃ x, dLists s p (a, c) = x := ⟨_, rfl⟩
  rw [e1] at C1
  have C1 := Lib.hid C1
  have E1 := Lib.hid e1
  clear e1
  go_wp2_with (first | (rw [HW.out]) | (refine wpList_load_row rfl 118 (.tmp 2) rfl (w.heap.size) rfl 118 _ (0, 0) _ H0.out.r Tryd.underlying118 rfl in_size ?_) | (refine wpList_load_row rfl 52 (.tmp 3) rfl (w.heap.size + 1) rfl 52 _ (0, 0) _ H0.out.k Tryd.underlying52 rfl dpk_size ?_) | (fail))
  refine C1.out.mono ?_
  rintro e w1 ⟨mr, rfl, hdr, b1⟩
  simp only at hdr ⊢
  have hst := H0.out.step b1
  have hrc := hst.retc (u := (a9, c9)) hdr (Nat.le_refl _)
  simp only at hrc
  obtain ⟨Za, hZa⟩ : ∃ Z, w1.setRow (w.heap.size + 2) (inA s a9 c9) = Z := ⟨_, rfl⟩
  rw [hZa] at hrc
  obtain ⟨Zb, hZb⟩ : ∃ Z, Za.setRow (w.heap.size + 3) (pkA .i64 p9 mr) = Z := ⟨_, rfl⟩
  rw [hZb] at hrc
  have HRC := Lib.hid hrc
  have HST := Lib.hid hst
  have HZa := Lib.hid hZa
  have HZb := Lib.hid hZb
  clear hrc hst hZa hZb hdr b1 C1
  go_wp2_with (first | (refine wpList_store_rowN rfl 118 (.tmp 4) (.tmp 131) rfl rfl (w.heap.size + 2) (inA s a9 c9) rfl rfl 118 (inA eS 0 0) HST.out.q in_size rfl (in_one _ _ _) Za HZa.out ?_) | (refine wpList_store_rowN rfl 52 (.tmp 5) (.tmp 132) rfl rfl (w.heap.size + 3) (pkA .i64 p9 mr) rfl rfl 52 (pkA .i64 zPk nHs) HRC.out.1 dpk_size rfl (dpk_one _ _) Zb HZb.out ?_) | (fail))
  refine bodyPost_ret (v := .tuple #[.agg (inA s a9 c9), .agg (pkA .i64 p9 mr)]) (results_two_rows (P := Tryd.prog) (t1 := 4) (t2 := 5) (ty1 := 118) (ty2 := 52) (by kernel_rfl) _ _ (w.heap.size + 2) (w.heap.size + 3) 118 52 _ _ _ _ rfl rfl HRC.out.2.1 HRC.out.2.2.1 Tryd.underlying118 rfl in_size Tryd.underlying52 rfl dpk_size) rfl ?_
  exact dwPost_mk (a := a9) (c := c9) (p := p9) (m := mr) (by rw [EK.out, E1.out]) HRC.out.2.2.2.1 HRC.out.2.2.2.2
set_option maxHeartbeats 8000000 in
set_option maxRecDepth 100000 in
theorem dbody_4 (B : Nat) (s : ByteArray) (t : Tt) (p : Pk) (m : Hs) (w : World) (hs : s.size ≤ 140737488351232) (hr : Rg s t) (hB : B ≤ w.heap.size) (hd : PkD B w p m) (hk : p.kind = 4) :
    Calls Tryd.prog 39 #[.agg (inA s t.1 t.2), .agg (pkA .i64 p m)] w (DwPost B w s (dKind s p t)) := by
  have EK := Lib.hid (show dKind s p t = dAck s p t by unfold dKind; rw [if_neg (by omega)]; rw [if_neg (by omega)]; rw [if_neg (by omega)]; rw [if_pos (by omega)])
  have t1 : (p.kind == 1) = false := beq_eq_false_iff_ne.2 (by omega)
  have t2 : (p.kind == 2) = false := beq_eq_false_iff_ne.2 (by omega)
  have t3 : (p.kind == 3) = false := beq_eq_false_iff_ne.2 (by omega)
  have t4 : (p.kind == 4) = true := by rw [hk]; rfl
  obtain ⟨a, c⟩ := t
  simp only
  have h0 := Dw.new s (a, c) p m hB hd
  obtain ⟨W, hW⟩ : ∃ W, (((w.alloc (.cells (inA s a c) 118)).alloc (.cells (pkA .i64 p m) 52)).alloc (.cells (inA eS 0 0) 118)).alloc (.cells (pkA .i64 zPk nHs) 52) = W := ⟨_, rfl⟩
  rw [hW] at h0
  have H0 := Lib.hid h0
  have HW := Lib.hid (show (((w.alloc (.cells (inA s a c) 118)).alloc (.cells (pkA .i64 p m) 52)).alloc (.cells #[.string ⟨#[]⟩, .int .i64 0, .int .i64 0] 118)).alloc (.cells #[.int .i64 0, .bool false, .bool false, .int .i64 0, .int .i64 0, .string ⟨#[]⟩, .string ⟨#[]⟩, .int .i64 0, .slice none 0 0, .slice none 0 0, .string ⟨#[]⟩, .bool false, .int .i64 0, .bool false, .string ⟨#[]⟩, .string ⟨#[]⟩, .int .i64 0, .bool false, .slice none 0 0, .bool false, .bool false, .string ⟨#[]⟩, .string ⟨#[]⟩, .bool false, .slice none 0 0, .slice none 0 0] 52) = W from hW)
  have HR0 : Hid (Rg s (a, c)) := Lib.hid hr
  clear h0 hW hd hr
  have k0 : W.cell? ⟨w.heap.size + 1, 0, none⟩ = some (.int .i64 p.kind) := H0.out.k.cell 0
  clear hk
  go_enter Tryd.func39, Tryd.ntmps39
  have C1 := did_any s (a, c) W hs HR0.out
  obtain ⟨⟨⟨a1, c1⟩, n1⟩, e1⟩ : ∃ x, dId s (a, c) = x := ⟨_, rfl⟩
  rw [e1] at C1
  simp only at C1
  have C1 := Lib.hid C1
  have E1 := Lib.hid e1
  clear e1
  go_wp2_with (first | (rw [HW.out]) | (refine wpList_load_row rfl 118 (.tmp 2) rfl (w.heap.size) rfl 118 _ (0, 0) _ H0.out.r Tryd.underlying118 rfl in_size ?_) | (fail))
  refine C1.out.mono ?_
  rintro e w1 ⟨rfl, b1⟩
  have H1 := Lib.hid (H0.out.step b1)
  clear C1
  have HR1 : Hid (Rg s (a1, c1)) := Lib.hid (by have h := dId_rg HR0.out; rw [E1.out] at h; exact h)
  clear k0
  have kV := blkAt w1 (#[.string ⟨#[]⟩, .int .i64 0, .int .i64 0] : Array Value) 118 rfl
  have bV := below_setRow ((Below.refl w1.heap.size w1).alloc (Nat.le_refl _) (.cells #[.string ⟨#[]⟩, .int .i64 0, .int .i64 0] 118)) (Nat.le_refl _) (inA s a1 c1)
  have kV2 := kV.row0 (inA s a1 c1)
  obtain ⟨V2, hV⟩ : ∃ V, (w1.alloc (.cells #[.string ⟨#[]⟩, .int .i64 0, .int .i64 0] 118)).setRow w1.heap.size (inA s a1 c1) = V := ⟨_, rfl⟩
  rw [hV] at kV2 bV
  have HV2 := Lib.hid hV
  have KW2 := Lib.hid kV
  have KV2 := Lib.hid kV2
  have BV2 := Lib.hid bV
  have H2 := Lib.hid (H1.out.step bV)
  have lV2 : w.heap.size + 3 < w1.heap.size := H1.out.z.lt
  clear kV kV2 bV hV
  have g4 := H2.out.k.cell 4
  have q4 := H2.out.k.frozen 4
  simp only [pkA, List.getElem?_toArray, List.getElem?_cons_zero, List.getElem?_cons_succ] at g4
  obtain ⟨Y3, hY3⟩ : ∃ Y, V2.setCell ⟨w.heap.size + 1, 4, none⟩ (.int .i64 n1) = Y := ⟨_, rfl⟩
  have h := H2.out.set 4 (.int .i64 n1) (({ p with id := n1 } : Pk)) (m) rfl (H2.out.d.keep ⟨rfl, rfl, rfl, rfl, rfl⟩)
  rw [hY3] at h
  have H3 := Lib.hid h
  clear h
  have HVF : Hid (Blk Y3 (w1.heap.size) (inA s a1 c1) 118) := Lib.hid (by rw [← hY3]; exact KV2.out.other (by omega) _ _)
  have C4 := dend_any B s (a1, c1) ({ p with id := n1 } : Pk) m Y3 hs HR1.out (Nat.le_trans hB H3.out.bl.size) H3.out.d
  obtain ⟨⟨⟨a9, c9⟩, p9⟩, e4⟩ : ∃ x, dEnd s ({ p with id := n1 } : Pk) (a1, c1) = x := ⟨_, rfl⟩
  rw [e4] at C4
  have C4 := Lib.hid C4
  have E4 := Lib.hid e4
  clear e4
  go_wp2_with (first | (refine wpList_store_rowN rfl 118 (.tmp 18) (.tmp 106) rfl rfl (w1.heap.size) (inA s a1 c1) rfl rfl 118 (#[.string ⟨#[]⟩, .int .i64 0, .int .i64 0]) KW2.out in_size rfl (in_one _ _ _) V2 HV2.out ?_) | (refine wpList_load_row rfl 118 (.tmp 18) rfl (w1.heap.size) rfl 118 _ (0, 0) _ HVF.out Tryd.underlying118 rfl in_size ?_) | (refine wpList_load_row rfl 52 (.tmp 3) rfl (w.heap.size + 1) rfl 52 _ (0, 0) _ H3.out.k Tryd.underlying52 rfl dpk_size ?_) | (fail))
  refine C4.out.mono ?_
  rintro e w4 ⟨mr, rfl, hdr, b4⟩
  simp only at hdr ⊢
  have hst := H3.out.step b4
  have hrc := hst.retc (u := (a9, c9)) hdr (Nat.le_refl _)
  simp only at hrc
  obtain ⟨Za, hZa⟩ : ∃ Z, w4.setRow (w.heap.size + 2) (inA s a9 c9) = Z := ⟨_, rfl⟩
  rw [hZa] at hrc
  obtain ⟨Zb, hZb⟩ : ∃ Z, Za.setRow (w.heap.size + 3) (pkA .i64 p9 mr) = Z := ⟨_, rfl⟩
  rw [hZb] at hrc
  have HRC := Lib.hid hrc
  have HST := Lib.hid hst
  have HZa := Lib.hid hZa
  have HZb := Lib.hid hZb
  clear hrc hst hZa hZb hdr b4 C4
  go_wp2_with (first | (refine wpList_store_rowN rfl 118 (.tmp 4) (.tmp 113) rfl rfl (w.heap.size + 2) (inA s a9 c9) rfl rfl 118 (inA eS 0 0) HST.out.q in_size rfl (in_one _ _ _) Za HZa.out ?_) | (refine wpList_store_rowN rfl 52 (.tmp 5) (.tmp 114) rfl rfl (w.heap.size + 3) (pkA .i64 p9 mr) rfl rfl 52 (pkA .i64 zPk nHs) HRC.out.1 dpk_size rfl (dpk_one _ _) Zb HZb.out ?_) | (fail))
  refine bodyPost_ret (v := .tuple #[.agg (inA s a9 c9), .agg (pkA .i64 p9 mr)]) (results_two_rows (P := Tryd.prog) (t1 := 4) (t2 := 5) (ty1 := 118) (ty2 := 52) (by kernel_rfl) _ _ (w.heap.size + 2) (w.heap.size + 3) 118 52 _ _ _ _ rfl rfl HRC.out.2.1 HRC.out.2.2.1 Tryd.underlying118 rfl in_size Tryd.underlying52 rfl dpk_size) rfl ?_
  exact dwPost_mk (a := a9) (c := c9) (p := p9) (m := mr) (by rw [EK.out]; unfold dAck; rw [E1.out]; exact E4.out) HRC.out.2.2.2.1 HRC.out.2.2.2.2
set_option maxHeartbeats 8000000 in
set_option maxRecDepth 100000 in
theorem dbody_5 (B : Nat) (s : ByteArray) (t : Tt) (p : Pk) (m : Hs) (w : World) (hs : s.size ≤ 140737488351232) (hr : Rg s t) (hB : B ≤ w.heap.size) (hd : PkD B w p m) (hk : p.kind = 5) :
    Calls Tryd.prog 39 #[.agg (inA s t.1 t.2), .agg (pkA .i64 p m)] w (DwPost B w s (dKind s p t)) := by
  have EK := Lib.hid (show dKind s p t = dAck s p t by unfold dKind; rw [if_neg (by omega)]; rw [if_neg (by omega)]; rw [if_neg (by omega)]; rw [if_pos (by omega)])
  have t1 : (p.kind == 1) = false := beq_eq_false_iff_ne.2 (by omega)
  have t2 : (p.kind == 2) = false := beq_eq_false_iff_ne.2 (by omega)
  have t3 : (p.kind == 3) = false := beq_eq_false_iff_ne.2 (by omega)
  have t4 : (p.kind == 4) = false := beq_eq_false_iff_ne.2 (by omega)
  have t5 : (p.kind == 5) = true := by rw [hk]; rfl
  obtain ⟨a, c⟩ := t
  simp only
  have h0 := Dw.new s (a, c) p m hB hd
  obtain ⟨W, hW⟩ : ∃ W, (((w.alloc (.cells (inA s a c) 118)).alloc (.cells (pkA .i64 p m) 52)).alloc (.cells (inA eS 0 0) 118)).alloc (.cells (pkA .i64 zPk nHs) 52) = W := ⟨_, rfl⟩
  rw [hW] at h0
  have H0 := Lib.hid h0
  have HW := Lib.hid (show (((w.alloc (.cells (inA s a c) 118)).alloc (.cells (pkA .i64 p m) 52)).alloc (.cells #[.string ⟨#[]⟩, .int .i64 0, .int .i64 0] 118)).alloc (.cells #[.int .i64 0, .bool false, .bool false, .int .i64 0, .int .i64 0, .string ⟨#[]⟩, .string ⟨#[]⟩, .int .i64 0, .slice none 0 0, .slice none 0 0, .string ⟨#[]⟩, .bool false, .int .i64 0, .bool false, .string ⟨#[]⟩, .string ⟨#[]⟩, .int .i64 0, .bool false, .slice none 0 0, .bool false, .bool false, .string ⟨#[]⟩, .string ⟨#[]⟩, .bool false, .slice none 0 0, .slice none 0 0] 52) = W from hW)
  have HR0 : Hid (Rg s (a, c)) := Lib.hid hr
  clear h0 hW hd hr
  have k0 : W.cell? ⟨w.heap.size + 1, 0, none⟩ = some (.int .i64 p.kind) := H0.out.k.cell 0
  clear hk
  go_enter Tryd.func39, Tryd.ntmps39
  have C1 := did_any s (a, c) W hs HR0.out
  obtain ⟨⟨⟨a1, c1⟩, n1⟩, e1⟩ : ∃ x, dId s (a, c) = x := ⟨_, rfl⟩
  rw [e1] at C1
  simp only at C1
  have C1 := Lib.hid C1
  have E1 := Lib.hid e1
  clear e1
  go_wp2_with (first | (rw [HW.out]) | (refine wpList_load_row rfl 118 (.tmp 2) rfl (w.heap.size) rfl 118 _ (0, 0) _ H0.out.r Tryd.underlying118 rfl in_size ?_) | (fail))
  refine C1.out.mono ?_
  rintro e w1 ⟨rfl, b1⟩
  have H1 := Lib.hid (H0.out.step b1)
  clear C1
  have HR1 : Hid (Rg s (a1, c1)) := Lib.hid (by have h := dId_rg HR0.out; rw [E1.out] at h; exact h)
  clear k0
  have kV := blkAt w1 (#[.string ⟨#[]⟩, .int .i64 0, .int .i64 0] : Array Value) 118 rfl
  have bV := below_setRow ((Below.refl w1.heap.size w1).alloc (Nat.le_refl _) (.cells #[.string ⟨#[]⟩, .int .i64 0, .int .i64 0] 118)) (Nat.le_refl _) (inA s a1 c1)
  have kV2 := kV.row0 (inA s a1 c1)
  obtain ⟨V2, hV⟩ : ∃ V, (w1.alloc (.cells #[.string ⟨#[]⟩, .int .i64 0, .int .i64 0] 118)).setRow w1.heap.size (inA s a1 c1) = V := ⟨_, rfl⟩
  rw [hV] at kV2 bV
  have HV2 := Lib.hid hV
  have KW2 := Lib.hid kV
  have KV2 := Lib.hid kV2
  have BV2 := Lib.hid bV
  have H2 := Lib.hid (H1.out.step bV)
  have lV2 : w.heap.size + 3 < w1.heap.size := H1.out.z.lt
  clear kV kV2 bV hV
  have g4 := H2.out.k.cell 4
  have q4 := H2.out.k.frozen 4
  simp only [pkA, List.getElem?_toArray, List.getElem?_cons_zero, List.getElem?_cons_succ] at g4
  obtain ⟨Y3, hY3⟩ : ∃ Y, V2.setCell ⟨w.heap.size + 1, 4, none⟩ (.int .i64 n1) = Y := ⟨_, rfl⟩
  have h := H2.out.set 4 (.int .i64 n1) (({ p with id := n1 } : Pk)) (m) rfl (H2.out.d.keep ⟨rfl, rfl, rfl, rfl, rfl⟩)
  rw [hY3] at h
  have H3 := Lib.hid h
  clear h
  have HVF : Hid (Blk Y3 (w1.heap.size) (inA s a1 c1) 118) := Lib.hid (by rw [← hY3]; exact KV2.out.other (by omega) _ _)
  have C4 := dend_any B s (a1, c1) ({ p with id := n1 } : Pk) m Y3 hs HR1.out (Nat.le_trans hB H3.out.bl.size) H3.out.d
  obtain ⟨⟨⟨a9, c9⟩, p9⟩, e4⟩ : ∃ x, dEnd s ({ p with id := n1 } : Pk) (a1, c1) = x := ⟨_, rfl⟩
  rw [e4] at C4
  have C4 := Lib.hid C4
  have E4 := Lib.hid e4
  clear e4
  go_wp2_with (first | (refine wpList_store_rowN rfl 118 (.tmp 18) (.tmp 106) rfl rfl (w1.heap.size) (inA s a1 c1) rfl rfl 118 (#[.string ⟨#[]⟩, .int .i64 0, .int .i64 0]) KW2.out in_size rfl (in_one _ _ _) V2 HV2.out ?_) | (refine wpList_load_row rfl 118 (.tmp 18) rfl (w1.heap.size) rfl 118 _ (0, 0) _ HVF.out Tryd.underlying118 rfl in_size ?_) | (refine wpList_load_row rfl 52 (.tmp 3) rfl (w.heap.size + 1) rfl 52 _ (0, 0) _ H3.out.k Tryd.underlying52 rfl dpk_size ?_) | (fail))
  refine C4.out.mono ?_
  rintro e w4 ⟨mr, rfl, hdr, b4⟩
  simp only at hdr ⊢
  have hst := H3.out.step b4
  have hrc := hst.retc (u := (a9, c9)) hdr (Nat.le_refl _)
  simp only at hrc
  obtain ⟨Za, hZa⟩ : ∃ Z, w4.setRow (w.heap.size + 2) (inA s a9 c9) = Z := ⟨_, rfl⟩
  rw [hZa] at hrc
  obtain ⟨Zb, hZb⟩ : ∃ Z, Za.setRow (w.heap.size + 3) (pkA .i64 p9 mr) = Z := ⟨_, rfl⟩
  rw [hZb] at hrc
  have HRC := Lib.hid hrc
  have HST := Lib.hid hst
  have HZa := Lib.hid hZa
  have HZb := Lib.hid hZb
  clear hrc hst hZa hZb hdr b4 C4
  go_wp2_with (first | (refine wpList_store_rowN rfl 118 (.tmp 4) (.tmp 113) rfl rfl (w.heap.size + 2) (inA s a9 c9) rfl rfl 118 (inA eS 0 0) HST.out.q in_size rfl (in_one _ _ _) Za HZa.out ?_) | (refine wpList_store_rowN rfl 52 (.tmp 5) (.tmp 114) rfl rfl (w.heap.size + 3) (pkA .i64 p9 mr) rfl rfl 52 (pkA .i64 zPk nHs) HRC.out.1 dpk_size rfl (dpk_one _ _) Zb HZb.out ?_) | (fail))
  refine bodyPost_ret (v := .tuple #[.agg (inA s a9 c9), .agg (pkA .i64 p9 mr)]) (results_two_rows (P := Tryd.prog) (t1 := 4) (t2 := 5) (ty1 := 118) (ty2 := 52) (by kernel_rfl) _ _ (w.heap.size + 2) (w.heap.size + 3) 118 52 _ _ _ _ rfl rfl HRC.out.2.1 HRC.out.2.2.1 Tryd.underlying118 rfl in_size Tryd.underlying52 rfl dpk_size) rfl ?_
  exact dwPost_mk (a := a9) (c := c9) (p := p9) (m := mr) (by rw [EK.out]; unfold dAck; rw [E1.out]; exact E4.out) HRC.out.2.2.2.1 HRC.out.2.2.2.2
set_option maxHeartbeats 8000000 in
set_option maxRecDepth 100000 in
theorem dbody_6 (B : Nat) (s : ByteArray) (t : Tt) (p : Pk) (m : Hs) (w : World) (hs : s.size ≤ 140737488351232) (hr : Rg s t) (hB : B ≤ w.heap.size) (hd : PkD B w p m) (hk : p.kind = 6) :
    Calls Tryd.prog 39 #[.agg (inA s t.1 t.2), .agg (pkA .i64 p m)] w (DwPost B w s (dKind s p t)) := by
  have EK := Lib.hid (show dKind s p t = dAck s p t by unfold dKind; rw [if_neg (by omega)]; rw [if_neg (by omega)]; rw [if_neg (by omega)]; rw [if_pos (by omega)])
  have t1 : (p.kind == 1) = false := beq_eq_false_iff_ne.2 (by omega)
  have t2 : (p.kind == 2) = false := beq_eq_false_iff_ne.2 (by omega)
  have t3 : (p.kind == 3) = false := beq_eq_false_iff_ne.2 (by omega)
  have t4 : (p.kind == 4) = false := beq_eq_false_iff_ne.2 (by omega)
  have t5 : (p.kind == 5) = false := beq_eq_false_iff_ne.2 (by omega)
  have t6 : (p.kind == 6) = true := by rw [hk]; rfl
  obtain ⟨a, c⟩ := t
  simp only
  have h0 := Dw.new s (a, c) p m hB hd
  obtain ⟨W, hW⟩ : ∃ W, (((w.alloc (.cells (inA s a c) 118)).alloc (.cells (pkA .i64 p m) 52)).alloc (.cells (inA eS 0 0) 118)).alloc (.cells (pkA .i64 zPk nHs) 52) = W := ⟨_, rfl⟩
  rw [hW] at h0
  have H0 := Lib.hid h0
  have HW := Lib.hid (show (((w.alloc (.cells (inA s a c) 118)).alloc (.cells (pkA .i64 p m) 52)).alloc (.cells #[.string ⟨#[]⟩, .int .i64 0, .int .i64 0] 118)).alloc (.cells #[.int .i64 0, .bool false, .bool false, .int .i64 0, .int .i64 0, .string ⟨#[]⟩, .string ⟨#[]⟩, .int .i64 0, .slice none 0 0, .slice none 0 0, .string ⟨#[]⟩, .bool false, .int .i64 0, .bool false, .string ⟨#[]⟩, .string ⟨#[]⟩, .int .i64 0, .bool false, .slice none 0 0, .bool false, .bool false, .string ⟨#[]⟩, .string ⟨#[]⟩, .bool false, .slice none 0 0, .slice none 0 0] 52) = W from hW)
  have HR0 : Hid (Rg s (a, c)) := Lib.hid hr
  clear h0 hW hd hr
  have k0 : W.cell? ⟨w.heap.size + 1, 0, none⟩ = some (.int .i64 p.kind) := H0.out.k.cell 0
  clear hk
  go_enter Tryd.func39, Tryd.ntmps39
  have C1 := did_any s (a, c) W hs HR0.out
  obtain ⟨⟨⟨a1, c1⟩, n1⟩, e1⟩ : ∃ x, dId s (a, c) = x := ⟨_, rfl⟩
  rw [e1] at C1
  simp only at C1
  have C1 := Lib.hid C1
  have E1 := Lib.hid e1
  clear e1
  go_wp2_with (first | (rw [HW.out]) | (refine wpList_load_row rfl 118 (.tmp 2) rfl (w.heap.size) rfl 118 _ (0, 0) _ H0.out.r Tryd.underlying118 rfl in_size ?_) | (fail))
  refine C1.out.mono ?_
  rintro e w1 ⟨rfl, b1⟩
  have H1 := Lib.hid (H0.out.step b1)
  clear C1
  have HR1 : Hid (Rg s (a1, c1)) := Lib.hid (by have h := dId_rg HR0.out; rw [E1.out] at h; exact h)
  clear k0
  have kV := blkAt w1 (#[.string ⟨#[]⟩, .int .i64 0, .int .i64 0] : Array Value) 118 rfl
  have bV := below_setRow ((Below.refl w1.heap.size w1).alloc (Nat.le_refl _) (.cells #[.string ⟨#[]⟩, .int .i64 0, .int .i64 0] 118)) (Nat.le_refl _) (inA s a1 c1)
  have kV2 := kV.row0 (inA s a1 c1)
  obtain ⟨V2, hV⟩ : ∃ V, (w1.alloc (.cells #[.string ⟨#[]⟩, .int .i64 0, .int .i64 0] 118)).setRow w1.heap.size (inA s a1 c1) = V := ⟨_, rfl⟩
  rw [hV] at kV2 bV
  have HV2 := Lib.hid hV
  have KW2 := Lib.hid kV
  have KV2 := Lib.hid kV2
  have BV2 := Lib.hid bV
  have H2 := Lib.hid (H1.out.step bV)
  have lV2 : w.heap.size + 3 < w1.heap.size := H1.out.z.lt
  clear kV kV2 bV hV
  have g4 := H2.out.k.cell 4
  have q4 := H2.out.k.frozen 4
  simp only [pkA, List.getElem?_toArray, List.getElem?_cons_zero, List.getElem?_cons_succ] at g4
  obtain ⟨Y3, hY3⟩ : ∃ Y, V2.setCell ⟨w.heap.size + 1, 4, none⟩ (.int .i64 n1) = Y := ⟨_, rfl⟩
  have h := H2.out.set 4 (.int .i64 n1) (({ p with id := n1 } : Pk)) (m) rfl (H2.out.d.keep ⟨rfl, rfl, rfl, rfl, rfl⟩)
  rw [hY3] at h
  have H3 := Lib.hid h
  clear h
  have HVF : Hid (Blk Y3 (w1.heap.size) (inA s a1 c1) 118) := Lib.hid (by rw [← hY3]; exact KV2.out.other (by omega) _ _)
  have C4 := dend_any B s (a1, c1) ({ p with id := n1 } : Pk) m Y3 hs HR1.out (Nat.le_trans hB H3.out.bl.size) H3.out.d
  obtain ⟨⟨⟨a9, c9⟩, p9⟩, e4⟩ : ∃ x, dEnd s ({ p with id := n1 } : Pk) (a1, c1) = x := ⟨_, rfl⟩
  rw [e4] at C4
  have C4 := Lib.hid C4
  have E4 := Lib.hid e4
  clear e4
  go_wp2_with (first | (refine wpList_store_rowN rfl 118 (.tmp 18) (.tmp 106) rfl rfl (w1.heap.size) (inA s a1 c1) rfl rfl 118 (#[.string ⟨#[]⟩, .int .i64 0, .int .i64 0]) KW2.out in_size rfl (in_one _ _ _) V2 HV2.out ?_) | (refine wpList_load_row rfl 118 (.tmp 18) rfl (w1.heap.size) rfl 118 _ (0, 0) _ HVF.out Tryd.underlying118 rfl in_size ?_) | (refine wpList_load_row rfl 52 (.tmp 3) rfl (w.heap.size + 1) rfl 52 _ (0, 0) _ H3.out.k Tryd.underlying52 rfl dpk_size ?_) | (fail))
  refine C4.out.mono ?_
  rintro e w4 ⟨mr, rfl, hdr, b4⟩
  simp only at hdr ⊢
  have hst := H3.out.step b4
  have hrc := hst.retc (u := (a9, c9)) hdr (Nat.le_refl _)
  simp only at hrc
  obtain ⟨Za, hZa⟩ : ∃ Z, w4.setRow (w.heap.size + 2) (inA s a9 c9) = Z := ⟨_, rfl⟩
  rw [hZa] at hrc
  obtain ⟨Zb, hZb⟩ : ∃ Z, Za.setRow (w.heap.size + 3) (pkA .i64 p9 mr) = Z := ⟨_, rfl⟩
  rw [hZb] at hrc
  have HRC := Lib.hid hrc
  have HST := Lib.hid hst
  have HZa := Lib.hid hZa
  have HZb := Lib.hid hZb
  clear hrc hst hZa hZb hdr b4 C4
  go_wp2_with (first | (refine wpList_store_rowN rfl 118 (.tmp 4) (.tmp 113) rfl rfl (w.heap.size + 2) (inA s a9 c9) rfl rfl 118 (inA eS 0 0) HST.out.q in_size rfl (in_one _ _ _) Za HZa.out ?_) | (refine wpList_store_rowN rfl 52 (.tmp 5) (.tmp 114) rfl rfl (w.heap.size + 3) (pkA .i64 p9 mr) rfl rfl 52 (pkA .i64 zPk nHs) HRC.out.1 dpk_size rfl (dpk_one _ _) Zb HZb.out ?_) | (fail))
  refine bodyPost_ret (v := .tuple #[.agg (inA s a9 c9), .agg (pkA .i64 p9 mr)]) (results_two_rows (P := Tryd.prog) (t1 := 4) (t2 := 5) (ty1 := 118) (ty2 := 52) (by kernel_rfl) _ _ (w.heap.size + 2) (w.heap.size + 3) 118 52 _ _ _ _ rfl rfl HRC.out.2.1 HRC.out.2.2.1 Tryd.underlying118 rfl in_size Tryd.underlying52 rfl dpk_size) rfl ?_
  exact dwPost_mk (a := a9) (c := c9) (p := p9) (m := mr) (by rw [EK.out]; unfold dAck; rw [E1.out]; exact E4.out) HRC.out.2.2.2.1 HRC.out.2.2.2.2
set_option maxHeartbeats 8000000 in
set_option maxRecDepth 100000 in
theorem dbody_7 (B : Nat) (s : ByteArray) (t : Tt) (p : Pk) (m : Hs) (w : World) (hs : s.size ≤ 140737488351232) (hr : Rg s t) (hB : B ≤ w.heap.size) (hd : PkD B w p m) (hk : p.kind = 7) :
    Calls Tryd.prog 39 #[.agg (inA s t.1 t.2), .agg (pkA .i64 p m)] w (DwPost B w s (dKind s p t)) := by
  have EK := Lib.hid (show dKind s p t = dAck s p t by unfold dKind; rw [if_neg (by omega)]; rw [if_neg (by omega)]; rw [if_neg (by omega)]; rw [if_pos (by omega)])
  have t1 : (p.kind == 1) = false := beq_eq_false_iff_ne.2 (by omega)
  have t2 : (p.kind == 2) = false := beq_eq_false_iff_ne.2 (by omega)
  have t3 : (p.kind == 3) = false := beq_eq_false_iff_ne.2 (by omega)
  have t4 : (p.kind == 4) = false := beq_eq_false_iff_ne.2 (by omega)
  have t5 : (p.kind == 5) = false := beq_eq_false_iff_ne.2 (by omega)
  have t6 : (p.kind == 6) = false := beq_eq_false_iff_ne.2 (by omega)
  have t7 : (p.kind == 7) = true := by rw [hk]; rfl
  obtain ⟨a, c⟩ := t
  simp only
  have h0 := Dw.new s (a, c) p m hB hd
  obtain ⟨W, hW⟩ : ∃ W, (((w.alloc (.cells (inA s a c) 118)).alloc (.cells (pkA .i64 p m) 52)).alloc (.cells (inA eS 0 0) 118)).alloc (.cells (pkA .i64 zPk nHs) 52) = W := ⟨_, rfl⟩
  rw [hW] at h0
  have H0 := Lib.hid h0
  have HW := Lib.hid (show (((w.alloc (.cells (inA s a c) 118)).alloc (.cells (pkA .i64 p m) 52)).alloc (.cells #[.string ⟨#[]⟩, .int .i64 0, .int .i64 0] 118)).alloc (.cells #[.int .i64 0, .bool false, .bool false, .int .i64 0, .int .i64 0, .string ⟨#[]⟩, .string ⟨#[]⟩, .int .i64 0, .slice none 0 0, .slice none 0 0, .string ⟨#[]⟩, .bool false, .int .i64 0, .bool false, .string ⟨#[]⟩, .string ⟨#[]⟩, .int .i64 0, .bool false, .slice none 0 0, .bool false, .bool false, .string ⟨#[]⟩, .string ⟨#[]⟩, .bool false, .slice none 0 0, .slice none 0 0] 52) = W from hW)
  have HR0 : Hid (Rg s (a, c)) := Lib.hid hr
  clear h0 hW hd hr
  have k0 : W.cell? ⟨w.heap.size + 1, 0, none⟩ = some (.int .i64 p.kind) := H0.out.k.cell 0
  clear hk
  go_enter Tryd.func39, Tryd.ntmps39
  have C1 := did_any s (a, c) W hs HR0.out
  obtain ⟨⟨⟨a1, c1⟩, n1⟩, e1⟩ : ∃ x, dId s (a, c) = x := ⟨_, rfl⟩
  rw [e1] at C1
  simp only at C1
  have C1 := Lib.hid C1
  have E1 := Lib.hid e1
  clear e1
  go_wp2_with (first | (rw [HW.out]) | (refine wpList_load_row rfl 118 (.tmp 2) rfl (w.heap.size) rfl 118 _ (0, 0) _ H0.out.r Tryd.underlying118 rfl in_size ?_) | (fail))
  refine C1.out.mono ?_
  rintro e w1 ⟨rfl, b1⟩
  have H1 := Lib.hid (H0.out.step b1)
  clear C1
  have HR1 : Hid (Rg s (a1, c1)) := Lib.hid (by have h := dId_rg HR0.out; rw [E1.out] at h; exact h)
  clear k0
  have kV := blkAt w1 (#[.string ⟨#[]⟩, .int .i64 0, .int .i64 0] : Array Value) 118 rfl
  have bV := below_setRow ((Below.refl w1.heap.size w1).alloc (Nat.le_refl _) (.cells #[.string ⟨#[]⟩, .int .i64 0, .int .i64 0] 118)) (Nat.le_refl _) (inA s a1 c1)
  have kV2 := kV.row0 (inA s a1 c1)
  obtain ⟨V2, hV⟩ : ∃ V, (w1.alloc (.cells #[.string ⟨#[]⟩, .int .i64 0, .int .i64 0] 118)).setRow w1.heap.size (inA s a1 c1) = V := ⟨_, rfl⟩
  rw [hV] at kV2 bV
  have HV2 := Lib.hid hV
  have KW2 := Lib.hid kV
  have KV2 := Lib.hid kV2
  have BV2 := Lib.hid bV
  have H2 := Lib.hid (H1.out.step bV)
  have lV2 : w.heap.size + 3 < w1.heap.size := H1.out.z.lt
  clear kV kV2 bV hV
  have g4 := H2.out.k.cell 4
  have q4 := H2.out.k.frozen 4
  simp only [pkA, List.getElem?_toArray, List.getElem?_cons_zero, List.getElem?_cons_succ] at g4
  obtain ⟨Y3, hY3⟩ : ∃ Y, V2.setCell ⟨w.heap.size + 1, 4, none⟩ (.int .i64 n1) = Y := ⟨_, rfl⟩
  have h := H2.out.set 4 (.int .i64 n1) (({ p with id := n1 } : Pk)) (m) rfl (H2.out.d.keep ⟨rfl, rfl, rfl, rfl, rfl⟩)
  rw [hY3] at h
  have H3 := Lib.hid h
  clear h
  have HVF : Hid (Blk Y3 (w1.heap.size) (inA s a1 c1) 118) := Lib.hid (by rw [← hY3]; exact KV2.out.other (by omega) _ _)
  have C4 := dend_any B s (a1, c1) ({ p with id := n1 } : Pk) m Y3 hs HR1.out (Nat.le_trans hB H3.out.bl.size) H3.out.d
  obtain ⟨⟨⟨a9, c9⟩, p9⟩, e4⟩ : ∃ x, dEnd s ({ p with id := n1 } : Pk) (a1, c1) = x := ⟨_, rfl⟩
  rw [e4] at C4
  have C4 := Lib.hid C4
  have E4 := Lib.hid e4
  clear e4
  go_wp2_with (first | (refine wpList_store_rowN rfl 118 (.tmp 18) (.tmp 106) rfl rfl (w1.heap.size) (inA s a1 c1) rfl rfl 118 (#[.string ⟨#[]⟩, .int .i64 0, .int .i64 0]) KW2.out in_size rfl (in_one _ _ _) V2 HV2.out ?_) | (refine wpList_load_row rfl 118 (.tmp 18) rfl (w1.heap.size) rfl 118 _ (0, 0) _ HVF.out Tryd.underlying118 rfl in_size ?_) | (refine wpList_load_row rfl 52 (.tmp 3) rfl (w.heap.size + 1) rfl 52 _ (0, 0) _ H3.out.k Tryd.underlying52 rfl dpk_size ?_) | (fail))
  refine C4.out.mono ?_
  rintro e w4 ⟨mr, rfl, hdr, b4⟩
  simp only at hdr ⊢
  have hst := H3.out.step b4
  have hrc := hst.retc (u := (a9, c9)) hdr (Nat.le_refl _)
  simp only at hrc
  obtain ⟨Za, hZa⟩ : ∃ Z, w4.setRow (w.heap.size + 2) (inA s a9 c9) = Z := ⟨_, rfl⟩
  rw [hZa] at hrc
  obtain ⟨Zb, hZb⟩ : ∃ Z, Za.setRow (w.heap.size + 3) (pkA .i64 p9 mr) = Z := ⟨_, rfl⟩
  rw [hZb] at hrc
  have HRC := Lib.hid hrc
  have HST := Lib.hid hst
  have HZa := Lib.hid hZa
  have HZb := Lib.hid hZb
  clear hrc hst hZa hZb hdr b4 C4
  go_wp2_with (first | (refine wpList_store_rowN rfl 118 (.tmp 4) (.tmp 113) rfl rfl (w.heap.size + 2) (inA s a9 c9) rfl rfl 118 (inA eS 0 0) HST.out.q in_size rfl (in_one _ _ _) Za HZa.out ?_) | (refine wpList_store_rowN rfl 52 (.tmp 5) (.tmp 114) rfl rfl (w.heap.size + 3) (pkA .i64 p9 mr) rfl rfl 52 (pkA .i64 zPk nHs) HRC.out.1 dpk_size rfl (dpk_one _ _) Zb HZb.out ?_) | (fail))
  refine bodyPost_ret (v := .tuple #[.agg (inA s a9 c9), .agg (pkA .i64 p9 mr)]) (results_two_rows (P := Tryd.prog) (t1 := 4) (t2 := 5) (ty1 := 118) (ty2 := 52) (by kernel_rfl) _ _ (w.heap.size + 2) (w.heap.size + 3) 118 52 _ _ _ _ rfl rfl HRC.out.2.1 HRC.out.2.2.1 Tryd.underlying118 rfl in_size Tryd.underlying52 rfl dpk_size) rfl ?_
  exact dwPost_mk (a := a9) (c := c9) (p := p9) (m := mr) (by rw [EK.out]; unfold dAck; rw [E1.out]; exact E4.out) HRC.out.2.2.2.1 HRC.out.2.2.2.2
set_option maxHeartbeats 8000000 in
set_option maxRecDepth 100000 in
theorem dbody_o (B : Nat) (s : ByteArray) (t : Tt) (p : Pk) (m : Hs) (w : World) (hs : s.size ≤ 140737488351232) (hr : Rg s t) (hB : B ≤ w.heap.size) (hd : PkD B w p m) (hk : (p.kind ≠ 1 ∧ p.kind ≠ 2 ∧ p.kind ≠ 3 ∧ p.kind ≠ 4 ∧ p.kind ≠ 5 ∧ p.kind ≠ 6 ∧ p.kind ≠ 7) ∧ (p.kind ≠ 8 ∧ p.kind ≠ 9 ∧ p.kind ≠ 10 ∧ p.kind ≠ 11 ∧ p.kind ≠ 14 ∧ p.kind ≠ 15)) :
    Calls Tryd.prog 39 #[.agg (inA s t.1 t.2), .agg (pkA .i64 p m)] w (DwPost B w s (dKind s p t)) := by
  have EK := Lib.hid (show dKind s p t = (t, p) by unfold dKind; rw [if_neg (by omega)]; rw [if_neg (by omega)]; rw [if_neg (by omega)]; rw [if_neg (by omega)]; rw [if_neg (by omega)]; rw [if_neg (by omega)])
  have t1 : (p.kind == 1) = false := beq_eq_false_iff_ne.2 (by omega)
  have t2 : (p.kind == 2) = false := beq_eq_false_iff_ne.2 (by omega)
  have t3 : (p.kind == 3) = false := beq_eq_false_iff_ne.2 (by omega)
  have t4 : (p.kind == 4) = false := beq_eq_false_iff_ne.2 (by omega)
  have t5 : (p.kind == 5) = false := beq_eq_false_iff_ne.2 (by omega)
  have t6 : (p.kind == 6) = false := beq_eq_false_iff_ne.2 (by omega)
  have t7 : (p.kind == 7) = false := beq_eq_false_iff_ne.2 (by omega)
  have t14 : (p.kind == 14) = false := beq_eq_false_iff_ne.2 (by omega)
  have t15 : (p.kind == 15) = false := beq_eq_false_iff_ne.2 (by omega)
  have t8 : (p.kind == 8) = false := beq_eq_false_iff_ne.2 (by omega)
  have t9 : (p.kind == 9) = false := beq_eq_false_iff_ne.2 (by omega)
  have t10 : (p.kind == 10) = false := beq_eq_false_iff_ne.2 (by omega)
  have t11 : (p.kind == 11) = false := beq_eq_false_iff_ne.2 (by omega)
  obtain ⟨a, c⟩ := t
  simp only
  have h0 := Dw.new s (a, c) p m hB hd
  obtain ⟨W, hW⟩ : ∃ W, (((w.alloc (.cells (inA s a c) 118)).alloc (.cells (pkA .i64 p m) 52)).alloc (.cells (inA eS 0 0) 118)).alloc (.cells (pkA .i64 zPk nHs) 52) = W := ⟨_, rfl⟩
  rw [hW] at h0
  have H0 := Lib.hid h0
  have HW := Lib.hid (show (((w.alloc (.cells (inA s a c) 118)).alloc (.cells (pkA .i64 p m) 52)).alloc (.cells #[.string ⟨#[]⟩, .int .i64 0, .int .i64 0] 118)).alloc (.cells #[.int .i64 0, .bool false, .bool false, .int .i64 0, .int .i64 0, .string ⟨#[]⟩, .string ⟨#[]⟩, .int .i64 0, .slice none 0 0, .slice none 0 0, .string ⟨#[]⟩, .bool false, .int .i64 0, .bool false, .string ⟨#[]⟩, .string ⟨#[]⟩, .int .i64 0, .bool false, .slice none 0 0, .bool false, .bool false, .string ⟨#[]⟩, .string ⟨#[]⟩, .bool false, .slice none 0 0, .slice none 0 0] 52) = W from hW)
  have HR0 : Hid (Rg s (a, c)) := Lib.hid hr
  clear h0 hW hd hr
  have k0 : W.cell? ⟨w.heap.size + 1, 0, none⟩ = some (.int .i64 p.kind) := H0.out.k.cell 0
  clear hk
  go_enter Tryd.func39, Tryd.ntmps39
  go_wp2_with (first | (rw [HW.out]) | (fail))
  obtain ⟨sA, sB, sC, kq, kz, z2, z3, kd, kb⟩ := ret_end (t := (a, c)) (p := p) (m := m) H0.out H0.out.r (by omega) (by omega)
  simp only at sA sB sC kq kz z2 z3 kd kb
  refine wp_region_held (S := fun w' => SRet (w.heap.size) (w.heap.size + 1) s (a, c) (p) (m) w') (by kernel_rfl) ?_
  change wpAnyH _ _ _ _ _ _ _ _ W.drew
  refine wpAnyH_takeD (i := 0) (d := 133) (v := .agg (inA s a c)) rfl rfl (by kernel_rfl) (by kernel_rfl) (by kernel_rfl) (fun _ _ _ h => h) (y_load _ rfl rfl rfl (fun w hw => run_loadAt_row w _ _ _ _ _ _ hw.1 Tryd.underlying118 rfl in_size)) sA ?_
  simp only [Act.put, List.setIfInBounds_toArray, List.set_cons_succ, List.set_cons_zero]
  refine wpAnyH_takeD (i := 1) (d := 134) (v := .agg (pkA .i64 (p) (m))) rfl rfl (by kernel_rfl) (by kernel_rfl) (by kernel_rfl) (fun _ _ _ h => h) (y_load _ rfl rfl rfl (fun w hw => run_loadAt_row w _ _ _ _ _ _ hw.2 Tryd.underlying52 rfl dpk_size)) sA ?_
  simp only [Act.put, List.setIfInBounds_toArray, List.set_cons_succ, List.set_cons_zero]
  refine two_store (k := 2) (l := 3) (dx := 4) (dy := 5) (vx := 133) (vy := 134) (bx := w.heap.size + 2) (by' := w.heap.size + 3) (cx := inA s a c) (cy := pkA .i64 (p) (m)) _ _ rfl rfl rfl rfl rfl rfl rfl rfl (by kernel_rfl) (by kernel_rfl) (by kernel_rfl) rfl rfl rfl rfl kq kz (by omega) in_size dpk_size rfl rfl (in_one _ _ _) (dpk_one _ _) sB sC ?_
  go_wp2_with fail
  refine bodyPost_ret (v := .tuple #[.agg (inA s a c), .agg (pkA .i64 (p) (m))]) (results_two_rows (P := Tryd.prog) (t1 := 4) (t2 := 5) (ty1 := 118) (ty2 := 52) (by kernel_rfl) _ _ (w.heap.size + 2) (w.heap.size + 3) 118 52 _ _ _ _ rfl rfl z2 z3 Tryd.underlying118 rfl in_size Tryd.underlying52 rfl dpk_size) rfl ?_
  exact dwPost_mk (a := a) (c := c) (p := p) (m := m) (EK.out) kd kb
end Go.Proofs.YtedapgeabpadaaaDoor

