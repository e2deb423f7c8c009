/- OutflowNil: the walk. -/
import Derived.Test.YtnclobnnnihpfaaNilW
namespace Go.Proofs.Ytnclobnnnihpfaa
set_option linter.unusedVariables false
set_option linter.unusedSimpArgs false
open Go.RowKit Go.Maps

theorem act_size : (Try.prog.info? 49).map (·.size) = some 10 := by kernel_rfl
theorem lmsg_size : (Try.prog.info? 47).map (·.size) = some 5 := by kernel_rfl
theorem wpList_load_at {P : Program} {ops : Array Oper} {rest : List Oper} {op : Oper} {a : Act} {w : World} {Q : Exit → Act → World → Prop} (hgd : op.guard = none) (ty : TypeId) (x : Operand) (ho : op.op = .load ty x)
    (b o : Nat) (hx : a.eval x = .pointer (some ⟨b, o, none⟩)) (cs : Array Value) (d : TypeDesc) (hc : w.rangeAt b o cs.toList)
    (hu : P.underlying ty = some d) (hd : d.isRow = true) (hi : (P.info? ty).map (·.size) = some cs.size)
    (h : wpList P ops Q rest (a.put op.dst (.agg cs)) w) : wpList P ops Q (op :: rest) a w :=
  wpList_load_mid hgd ty x ho b o hx cs.toList d hc hu hd (by simpa using hi) (by simpa using h)
theorem range_msg {w : World} {b : Nat} {a : Av} {T : TypeId} (h : Blk w b (actA a) T) : w.rangeAt b 1 (omA a.m).toList := by
  intro j v hj
  rw [h.cell]
  match j, hj with
  | 0, hj => exact hj
  | 1, hj => exact hj
  | 2, hj => exact hj
  | 3, hj => exact hj
  | 4, hj => exact hj
  | j + 5, hj => exact absurd hj (by simp [omA])
/-- The laws' two packets are laid into variables. -/
theorem two_laid (w1 : World) (k id code : Int) (W2 Z1 Z2 : World) (h2 : (w1.alloc (.cells (ansA 0 0 0) 37)).alloc (.cells (refA 0 0 0) 56) = W2)
    (h3 : W2.setRow w1.heap.size (ansA k id code) = Z1) (h4 : Z1.setRow (w1.heap.size + 1) (refA k id code) = Z2) :
    Blk W2 w1.heap.size (ansA 0 0 0) 37 ∧ Blk Z1 (w1.heap.size + 1) (refA 0 0 0) 56 ∧ Blk Z2 w1.heap.size (ansA k id code) 37 ∧ Blk Z2 (w1.heap.size + 1) (refA k id code) 56 ∧ Below w1.heap.size w1 Z2 := by
  have b1 := (blk_at w1 (ansA 0 0 0) 37 rfl).alloc (.cells (refA 0 0 0) 56)
  have b2 := blk_at (w1.alloc (.cells (ansA 0 0 0) 37)) (refA 0 0 0) 56 (b := w1.heap.size + 1) (by simp)
  have bel : Below w1.heap.size w1 _ := ((Below.refl _ _).alloc (Nat.le_refl _) (.cells (ansA 0 0 0) 37)).alloc (by simp) (.cells (refA 0 0 0) 56)
  rw [h2] at b1 b2 bel
  subst h3 h4
  exact ⟨b1, b2.setRow_other (by omega), b1.setRow.setRow_other (by omega), (b2.setRow_other (by omega)).setRow, below_setRow (below_setRow bel (by omega) _) (by omega) _⟩
set_option maxRecDepth 100000 in
set_option maxHeartbeats 4000000 in
theorem outflowNil_walk (v : Value) (a : Av) (w : World) (h : v = .agg (actA a) ∧ a.fits) :
    Calls Try.prog 7 #[v] w fun e w' => e = .returned (.bool true) ∧ Below w.heap.size w w' := by
  obtain ⟨rfl, hf⟩ := h
  have b0 := blk_at w (actA a) 49 rfl
  have hb0 := (Below.refl w.heap.size w).alloc (Nat.le_refl _) (.cells (actA a) 49)
  obtain ⟨W0, hW0⟩ : ∃ W0, w.alloc (.cells (actA a) 49) = W0 := ⟨_, rfl⟩
  rw [hW0] at b0 hb0
  have B0 := Lib.hid b0
  have HB0 := Lib.hid hb0
  have HF := Lib.hid hf
  have CA := Lib.hid (answer_any a W0 hf.c0 hf.c1 hf.k0 hf.k1)
  clear b0 hb0 hf
  go_enter Try.func7, Try.ntmps7
  go_wp2_with (first | (refine wpList_load_row rfl 49 (.tmp 1) rfl w.heap.size rfl 49 (actA a) (0, 0) _ B0.out Try.underlying49 rfl act_size ?_) | (fail))
  (with_reducible refine CA.out.mono ?_)
  rintro e w1 ⟨rfl, hb1⟩
  obtain ⟨k, hk⟩ : ∃ k : Int, ansK (ansI a.kind) = k := ⟨_, rfl⟩
  rw [hk]
  obtain ⟨W2, hW2⟩ : ∃ W2, (w1.alloc (.cells (ansA 0 0 0) 37)).alloc (.cells (refA 0 0 0) 56) = W2 := ⟨_, rfl⟩
  obtain ⟨Z1, hZ1⟩ : ∃ Z1, W2.setRow w1.heap.size (ansA k a.id a.code) = Z1 := ⟨_, rfl⟩
  obtain ⟨Z2, hZ2⟩ : ∃ Z2, Z1.setRow (w1.heap.size + 1) (refA k a.id a.code) = Z2 := ⟨_, rfl⟩
  obtain ⟨l1, l2, l3, l4, l5⟩ := two_laid w1 k a.id a.code W2 Z1 Z2 hW2 hZ1 hZ2
  have B0z := Lib.hid ((B0.out.of_below hb1).of_below l5)
  have HBz := Lib.hid (HB0.out.trans ((hb1.mono HB0.out.size).trans (l5.mono (Nat.le_trans HB0.out.size hb1.size))))
  have L1 := Lib.hid l1; have L2 := Lib.hid l2; have L3 := Lib.hid l3
  have HZ1 := Lib.hid hZ1; have HZ2 := Lib.hid hZ2
  unfold ansA refA at hW2
  clear l1 l2 l3 l4 l5 hb1 hk CA hZ1 hZ2
  go_wp2_with (first | (refine wpList_store_rowZ rfl 37 (.tmp 4) (.tmp 13) rfl rfl w1.heap.size (ansA k a.id a.code) rfl rfl 37 (ansA 0 0 0) L1.out pk_size rfl (ans_one _ _ _) Z1 HZ1.out ?_) | (refine wpList_store_rowZ rfl 56 (.tmp 5) (.tmp 14) rfl rfl (w1.heap.size + 1) (refA k a.id a.code) rfl rfl 56 (refA 0 0 0) L2.out rpk_size rfl (ref_one _ _ _) Z2 HZ2.out ?_) | (refine wpList_load_at rfl 47 (.tmp 17) rfl w.heap.size 1 rfl (omA a.m) _ (range_msg B0z.out) Try.underlying47 rfl lmsg_size ?_) | (fail))
  (with_reducible refine (nsend_any a.m Z2).mono ?_)
  rintro e w3 ⟨rfl, hb3⟩
  have L3b := Lib.hid (L3.out.of_below hb3)
  have B3 := Lib.hid (B0z.out.of_below hb3)
  have HB3 := Lib.hid (HBz.out.trans (hb3.mono HBz.out.size))
  clear hb3
  go_wp2_with (first | (refine wpList_load_row rfl 37 (.tmp 4) rfl w1.heap.size rfl 37 (ansA k a.id a.code) (0, 0) _ L3b.out Try.underlying37 rfl pk_size ?_) | (fail))
  (with_reducible refine (nanswer_any _ w3).mono ?_)
  rintro e w4 ⟨rfl, hb4⟩
  have B4 := Lib.hid (B3.out.of_below hb4)
  have HB4 := Lib.hid (HB3.out.trans (hb4.mono HB3.out.size))
  clear hb4
  go_wp2_with fail
  (with_reducible refine (nend_any w4).mono ?_)
  rintro e w5 ⟨rfl, rfl⟩
  go_wp2_with fail
  (with_reducible refine (fwakes_any _).mono ?_)
  rintro e w6 ⟨rfl, hb6⟩
  have b6 := B4.out.of_below hb6
  have HB6 := Lib.hid (HB4.out.trans (hb6.mono HB4.out.size))
  have c9 : w6.cell? ⟨w.heap.size, 9, none⟩ = some (.int .i64 a.most) := b6.cell 9
  clear hb6 b6
  go_wp2_with fail
  (with_reducible refine (nbegin_any a.most w6).mono ?_)
  rintro e w7 ⟨rfl, rfl⟩
  go_wp2_with fail
  (with_reducible refine (nflights_any _).mono ?_)
  rintro e w8 ⟨rfl, rfl⟩
  go_wp2_with fail
  (with_reducible refine (nwaiting_any _).mono ?_)
  rintro e w9 ⟨rfl, rfl⟩
  go_wp2
  go_ret
  exact ⟨rfl, HB6.out⟩
end Go.Proofs.Ytnclobnnnihpfaa
