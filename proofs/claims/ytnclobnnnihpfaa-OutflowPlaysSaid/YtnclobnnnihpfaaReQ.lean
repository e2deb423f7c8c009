/- OutflowPlays: same. -/
import Derived.Test.YtnclobnnnihpfaaReP
namespace Go.Proofs.Ytnclobnnnihpfaa
set_option linter.unusedVariables false
set_option linter.unusedSimpArgs false
open Go.RowKit Go.Maps
theorem wtL_get : ∀ (l : List OM) (i : Nat) (x : OM), l[i]? = some x → ∀ j u, (omC x)[j]? = some u → (wtL l)[i * 5 + j]? = some u
  | [], i, x, h, j, u, hu => by cases h
  | y :: l, 0, x, h, j, u, hu => by
    cases h
    show (omC y ++ wtL l)[0 * 5 + j]? = some u
    rw [Nat.zero_mul, Nat.zero_add, List.getElem?_append_left (List.getElem?_eq_some_iff.1 hu).1]
    exact hu
  | y :: l, i + 1, x, h, j, u, hu => by
    show (omC y ++ wtL l)[(i + 1) * 5 + j]? = some u
    have hy : (omC y).length = 5 := rfl
    rw [List.getElem?_append_right (by rw [hy]; omega), hy, show (i + 1) * 5 + j - 5 = i * 5 + j from by omega]
    exact wtL_get l i x (by simpa using h) j u hu
set_option maxHeartbeats 4000000 in
set_option maxRecDepth 100000 in
theorem same2_any (B B' fp pb mb dp qb : Nat) (s : FS) (w : World) (h : FlowAt B fp pb mb s w) (h' : DFlowAt B' dp qb s w) :
    Calls Try.prog 23 #[.pointer (some ⟨fp, 0, none⟩), .pointer (some ⟨dp, 0, none⟩)] w fun e w' => e = .returned (.bool true) ∧ Below w.heap.size w w' := by
  have H := Lib.hid h
  have H' := Lib.hid h'
  clear h h'
  go_enter Try.func23, Try.ntmps23
  go_wp2_with fail
  (with_reducible refine (flights_any B fp pb mb s w H.out).mono ?_)
  rintro e w2 ⟨v2, rfl, ho2, hb2⟩
  have H2 := Lib.hid (H.out.below hb2)
  have HO2 := Lib.hid ho2
  have HB2 := Lib.hid hb2
  clear ho2 hb2
  go_wp2_with fail
  (with_reducible refine (waiting_any B fp pb mb s w2 H2.out).mono ?_)
  rintro e w3 ⟨v3, rfl, ho3, hb3⟩
  have HB3 := Lib.hid (HB2.out.trans (hb3.mono HB2.out.size))
  have S2 := Lib.hid ((Sl.of_own HO2.out).below hb3)
  have S3 := Lib.hid (Sl.of_own ho3)
  have hw2 : w.heap.size ≤ w2.heap.size := HB2.out.size
  have hw3 : w2.heap.size ≤ w3.heap.size := hb3.size
  obtain ⟨vf, vw, vl, LL, hD⟩ := H'.out.below HB3.out
  clear ho3 hb3 HO2 H2 HB2
  obtain ⟨a2, c2, rfl, q1, q2, -⟩ := S2.out.form
  obtain ⟨a3, c3, rfl, q3, q4, -⟩ := S3.out.form
  obtain ⟨a4, c4, rfl, q5, q6, -⟩ := hD.fl.form
  obtain ⟨a5, c5, rfl, q7, q8, -⟩ := hD.wt.form
  have HD := Lib.hid hD
  have d3 := hD.blk.cell 3
  have d4 := hD.blk.cell 4
  simp only [List.getElem?_toArray, List.getElem?_cons_zero, List.getElem?_cons_succ] at d3 d4
  have hl1 := hD.ok.fl
  have hl2 := hD.ok.wt
  unfold maxLen at q2 q4 q6 q8
  clear hD
  go_wp2_with fail
  clear d3 d4
  go_loopw [33] (fun iv wr => ∃ i : Nat, iv = .int .i64 i ∧ i ≤ s.fl.length ∧ Hid (Below w3.heap.size w3 wr)) (fun iv _ => ((s.fl.length : Int) - intOf iv).toNat)
  case atStart => exact ⟨0, rfl, Nat.zero_le _, Lib.hid (Below.refl _ _)⟩
  case round =>
    obtain ⟨i, rfl, hi, hW⟩ := hrel
    by_cases hil : i < s.fl.length
    · have hI : (i : Int) < (s.fl.length : Int) := by omega
      obtain ⟨x, hx⟩ : ∃ x, s.fl[i]? = some x := ⟨_, List.getElem?_eq_getElem hil⟩
      have d3 := (HD.out.blk.of_below hW.out).cell 3
      simp only [List.getElem?_toArray, List.getElem?_cons_zero, List.getElem?_cons_succ] at d3
      obtain ⟨g, o, k1, ev, -, -, -, -, hcl⟩ := (S2.out.below hW.out).at (by omega)
      obtain ⟨g', o', k2, ev', -, -, -, -, hcl'⟩ := (HD.out.fl.below hW.out).at (by omega)
      injection ev with e1 e2 e3
      injection ev' with e1' e2' e3'
      subst e1 e1'
      have cl : ∀ k u, (ofC x)[k]? = some u → wr.cell? ⟨g, o + i * 7 + k, none⟩ = some u := fun k u hu => by rw [Nat.add_assoc]; exact hcl _ _ (flL_get s.fl i x hx k u hu)
      have cl' : ∀ k u, (ofC x)[k]? = some u → wr.cell? ⟨g', o' + i * 7 + k, none⟩ = some u := fun k u hu => by rw [Nat.add_assoc]; exact hcl' _ _ (flL_get s.fl i x hx k u hu)
      obtain ⟨xid, ⟨xt, xp, xq, xr, xg⟩, xrel⟩ := x
      have x0 := cl 0 (.int .i64 xid) rfl
      have x1 := cl 1 (.string xt) rfl
      have x2 := cl 2 (.string xp) rfl
      have x3 := cl 3 (.int .i64 xq) rfl
      have x4 := cl 4 (.bool xr) rfl
      have x5 := cl 5 (.string xg) rfl
      have x6 := cl 6 (.bool xrel) rfl
      have y0 := cl' 0 (.int .i64 xid) rfl
      have y1 := cl' 1 (.string xt) rfl
      have y2 := cl' 2 (.string xp) rfl
      have y3 := cl' 3 (.int .i64 xq) rfl
      have y4 := cl' 4 (.bool xr) rfl
      have y5 := cl' 5 (.string xg) rfl
      have y6 := cl' 6 (.bool xrel) rfl
      simp only [Nat.add_zero] at x0 y0
      have f1 : (xt.toList == xt.toList) = true := by simp
      have f2 : (xp.toList == xp.toList) = true := by simp
      have f3 : (xg.toList == xg.toList) = true := by simp
      have II := Lib.hid hil
      clear hcl hcl' cl cl' hx e2 e3 e2' e3' hil
      go_wp2
      go_quiet (fail)
      go_wp2
      go_roundw
      case rel => exact ⟨i + 1, by go_num, by have := II.out; omega, Lib.hid (hW.out.trans ((drewN_below _ _).mono hW.out.size))⟩
      case measure => have := II.out; simp [intOf]; omega
    · obtain rfl : i = s.fl.length := by omega
      have hnl : ¬ ((s.fl.length : Int) < (s.fl.length : Int)) := by omega
      have HDW := Lib.hid (HD.out.below hW.out)
      have S3W := Lib.hid (S3.out.below hW.out)
      have HBW := Lib.hid (HB3.out.trans (hW.out.mono HB3.out.size))
      obtain ⟨wo, hwo⟩ : ∃ wo : World, wr = wo := ⟨_, rfl⟩
      rw [hwo] at HDW S3W HBW ⊢
      clear hwo hW
      go_wp2
      go_loopw [85] (fun iv wr => ∃ i : Nat, iv = .int .i64 i ∧ i ≤ s.wt.length ∧ Hid (Below wo.heap.size wo wr)) (fun iv _ => ((s.wt.length : Int) - intOf iv).toNat)
      case atStart => exact ⟨0, rfl, Nat.zero_le _, Lib.hid (Below.refl _ _)⟩
      case round =>
        obtain ⟨i, rfl, hi, hW⟩ := hrel
        by_cases hil : i < s.wt.length
        · have hI : (i : Int) < (s.wt.length : Int) := by omega
          obtain ⟨x, hx⟩ : ∃ x, s.wt[i]? = some x := ⟨_, List.getElem?_eq_getElem hil⟩
          have d4 := (HDW.out.blk.of_below hW.out).cell 4
          simp only [List.getElem?_toArray, List.getElem?_cons_zero, List.getElem?_cons_succ] at d4
          obtain ⟨g, o, k1, ev, -, -, -, -, hcl⟩ := (S3W.out.below hW.out).at (by omega)
          obtain ⟨g', o', k2, ev', -, -, -, -, hcl'⟩ := (HDW.out.wt.below hW.out).at (by omega)
          injection ev with e1 e2 e3
          injection ev' with e1' e2' e3'
          subst e1 e1'
          have cl : ∀ k u, (omC x)[k]? = some u → wr.cell? ⟨g, o + i * 5 + k, none⟩ = some u := fun k u hu => by rw [Nat.add_assoc]; exact hcl _ _ (wtL_get s.wt i x hx k u hu)
          have cl' : ∀ k u, (omC x)[k]? = some u → wr.cell? ⟨g', o' + i * 5 + k, none⟩ = some u := fun k u hu => by rw [Nat.add_assoc]; exact hcl' _ _ (wtL_get s.wt i x hx k u hu)
          obtain ⟨xt, xp, xq, xr, xg⟩ := x
          have x1 := cl 0 (.string xt) rfl
          have x2 := cl 1 (.string xp) rfl
          have x3 := cl 2 (.int .i64 xq) rfl
          have x4 := cl 3 (.bool xr) rfl
          have x5 := cl 4 (.string xg) rfl
          have y1 := cl' 0 (.string xt) rfl
          have y2 := cl' 1 (.string xp) rfl
          have y3 := cl' 2 (.int .i64 xq) rfl
          have y4 := cl' 3 (.bool xr) rfl
          have y5 := cl' 4 (.string xg) rfl
          simp only [Nat.add_zero] at x1 y1
          have f1 : (xt.toList == xt.toList) = true := by simp
          have f2 : (xp.toList == xp.toList) = true := by simp
          have f3 : (xg.toList == xg.toList) = true := by simp
          have II := Lib.hid hil
          clear hcl hcl' cl cl' hx e2 e3 e2' e3' hil
          go_wp2
          go_quiet (fail)
          go_wp2
          go_roundw
          case rel => exact ⟨i + 1, by go_num, by have := II.out; omega, Lib.hid (hW.out.trans ((drewN_below _ _).mono hW.out.size))⟩
          case measure => have := II.out; simp [intOf]; omega
        · obtain rfl : i = s.wt.length := by omega
          have hnl : ¬ ((s.wt.length : Int) < (s.wt.length : Int)) := by omega
          go_wp2
          go_ret
          exact ⟨rfl, HBW.out.trans (hW.out.mono HBW.out.size)⟩
end Go.Proofs.Ytnclobnnnihpfaa
