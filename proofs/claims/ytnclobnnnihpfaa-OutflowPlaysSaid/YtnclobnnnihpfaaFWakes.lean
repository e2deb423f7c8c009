/- Law 14's wakes. -/
import Derived.Test.YtnclobnnnihpfaaBegin
namespace Go.Proofs.Ytnclobnnnihpfaa
set_option linter.unusedVariables false
open Go.RowKit Go.Maps

theorem outL_get : ∀ (L : List OP) (pvs : List Value) (i : Nat) (p : OP) (pv : Value), L[i]? = some p → pvs[i]? = some pv → ∀ j u, (opA p pv).toList[j]? = some u → (outL L pvs)[i * 26 + j]? = some u
  | [], pvs, i, p, pv, h, h2, j, u, hu => by cases h
  | x :: L, [], i, p, pv, h, h2, j, u, hu => by cases h2
  | x :: L, y :: pvs, 0, p, pv, h, h2, j, u, hu => by
    cases h
    cases h2
    show ((opA x y).toList ++ outL L pvs)[0 * 26 + j]? = some u
    rw [Nat.zero_mul, Nat.zero_add, List.getElem?_append_left (List.getElem?_eq_some_iff.1 hu).1]
    exact hu
  | x :: L, y :: pvs, i + 1, p, pv, h, h2, j, u, hu => by
    show ((opA x y).toList ++ outL L pvs)[(i + 1) * 26 + j]? = some u
    have hy : (opA x y).toList.length = 26 := opA_size x y
    rw [List.getElem?_append_right (by rw [hy]; omega), hy, show (i + 1) * 26 + j - 26 = i * 26 + j from by omega]
    exact outL_get L pvs i p pv (by simpa using h) (by simpa using h2) j u hu
/-- A packet's cells among what goes out. -/
theorem OutAt.at {C : Nat} {w : World} {v : Value} {L : List OP} (h : OutAt C w v L) {i : Nat} {p : OP} (hi : L[i]? = some p) :
    ∃ g o cap pv, v = .slice (some ⟨g, o, none⟩) L.length cap ∧ L.length ≤ cap ∧ cap ≤ maxLen ∧ OpAt C w p pv ∧ ∀ j u, (opA p pv).toList[j]? = some u → w.cell? ⟨g, o + i * 26 + j, none⟩ = some u := by
  obtain ⟨pvs, h1, h2, h3⟩ := h
  have hlt := (List.getElem?_eq_some_iff.1 hi).1
  obtain ⟨pv, hpv⟩ : ∃ pv, pvs[i]? = some pv := ⟨_, List.getElem?_eq_getElem (by omega)⟩
  obtain ⟨g, o, cap, rfl, _, _, h4, h5, h6⟩ := h2.at (by omega)
  exact ⟨g, o, cap, pv, rfl, h4, h5, h3 i p pv hi hpv, fun j u hu => by rw [Nat.add_assoc]; exact h6 _ u (outL_get L pvs i p pv hi hpv j u hu)⟩
theorem OutAt.form {C : Nat} {w : World} {v : Value} {L : List OP} (h : OutAt C w v L) : ∃ ao cap, v = .slice ao L.length cap := by
  obtain ⟨pvs, h1, h2, h3⟩ := h
  obtain ⟨ao, cap, e, -⟩ := h2.form
  exact ⟨ao, cap, e⟩
theorem OutAt.flow {C B mb : Nat} {w w' : World} {v : Value} {L : List OP} (h : OutAt C w v L) (m : Fr B (flowS mb) w w') : OutAt C w' v L :=
  h.fr m (fun _ _ _ => flowS_not (by unfold flowT; decide)) (fun _ _ => flowS_not (by unfold flowT; decide))
def wkA : OM := ⟨⟨#[97]⟩, ⟨#[]⟩, 1, false, ⟨#[]⟩⟩
def wkB : OM := ⟨⟨#[98]⟩, ⟨#[]⟩, 1, false, ⟨#[]⟩⟩
theorem wk0 : fbegin ⟨0, bounded 1, false, [], []⟩ 1 = (⟨0, 1, true, [], []⟩, []) := by rfl
theorem wk1 : fsend ⟨0, 1, true, [], []⟩ wkA = (⟨1, 1, true, [⟨1, wkA, false⟩], []⟩, [.pub wkA 1 false], 0) := by rfl
theorem wk2 : fsend ⟨1, 1, true, [⟨1, wkA, false⟩], []⟩ wkB = (⟨1, 1, true, [⟨1, wkA, false⟩], [wkB]⟩, [], 0) := by rfl
theorem wk3 : fanswer ⟨1, 1, true, [⟨1, wkA, false⟩], [wkB]⟩ 4 1 0 = (⟨2, 1, true, [⟨2, wkB, false⟩], []⟩, [.pub wkB 2 false], 0) := by rfl
set_option maxRecDepth 100000 in
set_option maxHeartbeats 4000000 in
theorem fwakes_any (w : World) : Calls Try.prog 16 #[] w fun e w' => e = .returned (.bool true) ∧ Below w.heap.size w w' := by
  go_enter Try.func16, Try.ntmps16
  go_wp2_with fail
  (with_reducible refine (fnew_any 1 w (by decide) (by decide)).mono ?_)
  rintro e w1 ⟨fp, pb, mb, rfl, hf1, hb1⟩
  have H1 := Lib.hid hf1
  have B1 := Lib.hid hb1
  clear hf1 hb1
  go_wp2_with fail
  (with_reducible refine (fbegin_any w.heap.size fp pb mb _ 1 w1 H1.out (by decide) (by decide)).mono ?_)
  rintro e w2 ⟨v2, rfl, hf2, _, hr2⟩
  rw [wk0] at hf2
  have H2 := Lib.hid hf2
  have R2 := Lib.hid hr2
  clear hf2 hr2
  go_wp2_with (first | (refine wpList_buildTo rfl 43 _ rfl (some 13) rfl (omA wkA) (by kernel_rfl) ?_) | (fail))
  (with_reducible refine (fsend_any w.heap.size fp pb mb _ wkA w2 H2.out).mono ?_)
  rintro e w3 ⟨v3, rfl, hf3, ho3, hr3⟩
  rw [wk1] at hf3 ho3 ⊢
  have H3 := Lib.hid hf3
  have R3 := Lib.hid hr3
  have O3 := Lib.hid ho3
  clear hf3 hr3 ho3
  go_wp2_with (first | (refine wpList_buildTo rfl 43 _ rfl (some 19) rfl (omA wkB) (by kernel_rfl) ?_) | (fail))
  (with_reducible refine (fsend_any w.heap.size fp pb mb _ wkB w3 H3.out).mono ?_)
  rintro e w4 ⟨v4, rfl, hf4, ho4, hr4⟩
  rw [wk2] at hf4 ho4 ⊢
  have H4 := Lib.hid hf4
  have R4 := Lib.hid hr4
  have O4 := Lib.hid ho4
  clear hf4 hr4 ho4
  go_wp2_with (first | (refine wpList_buildTo rfl 37 _ rfl (some 25) rfl (ansA 4 1 0) (by kernel_rfl) ?_) | (fail))
  (with_reducible refine (fanswer_any w.heap.size fp pb mb _ 4 1 0 w4 H4.out (by decide) (by decide)).mono ?_)
  rintro e w5 ⟨v5, rfl, hf5, ho5, hr5⟩
  rw [wk3] at hf5 ho5 ⊢
  have R5 := Lib.hid hr5
  obtain ⟨ga, oa, ca, pva, rfl, _, _, _, hca⟩ := ((O3.out.flow R4.out).flow R5.out).at (i := 0) rfl
  obtain ⟨gb, cb, rfl⟩ := O4.out.form
  obtain ⟨ge, oe, ce, pve, rfl, _, _, _, hce⟩ := ho5.at (i := 0) rfl
  have a4 := hca 4 _ rfl
  have e4 := hce 4 _ rfl
  have e5 := hce 5 _ rfl
  simp only [Nat.zero_mul, Nat.add_zero, List.length_cons, List.length_nil, Nat.zero_add] at a4 e4 e5 ⊢
  simp only [wkB] at e5
  clear hca hce hf5 ho5 hr5
  go_wp2
  go_ret
  exact ⟨rfl, B1.out.trans (((R2.out.below.trans R3.out.below).trans R4.out.below).trans R5.out.below)⟩
end Go.Proofs.Ytnclobnnnihpfaa
