/- The walks of both sides' Flip, of the laws' rule and wakes (layer 10). -/
import Derived.Test.YtdjiioidkgppjaaDoorRemap2
import Derived.Test.YtdjiioidkgppjaaDoorRemapRef
import Derived.Deep.RegionHeld3
import Derived.RegionTactic
namespace Go.Proofs.YtdjiioidkgppjaaDoor
set_option linter.unusedVariables false
open Go.RowKit Pl Go.Shelf

theorem flip_any (r : Rl) (w : World) (hr : r.fits) :
    Calls Tryd.prog 20 #[ruV r] w fun e w' => e = .returned (ruV (flp r)) ∧ Below w.heap.size w w' := by
  have hd0 : -9223372036854775808 ≤ r.dir := hr.2.2.2.1
  have hd1 : r.dir ≤ 9223372036854775807 := hr.2.2.2.2.1
  clear hr
  by_cases h0 : r.dir = 0
  · have hz : flp r = ⟨r.pat, 1, r.qos, r.rem, r.loc⟩ := by unfold flp; rw [if_pos h0]
    have HZ := Lib.hid hz
    have e0 : (r.dir == 0) = true := beq_iff_eq.2 h0
    clear hz h0
    unfold ruV
    rw [HZ.out]
    go_enter Tryd.func20, Tryd.ntmps20
    go_wp2
    exact bodyPost_ret (v := .agg #[.string r.pat, .int .i64 1, .int .i64 r.qos, .string r.rem, .string r.loc]) (by simp [results, Tryd.results20, go_sem]) rfl ⟨rfl, ((Below.refl _ _).alloc (Nat.le_refl _) _).alloc (by simp) _⟩
  · have e0 : (r.dir == 0) = false := beq_eq_false_iff_ne.2 h0
    by_cases h1 : r.dir = 1
    · have hz : flp r = ⟨r.pat, 0, r.qos, r.rem, r.loc⟩ := by unfold flp; rw [if_neg h0, if_pos h1]
      have HZ := Lib.hid hz
      have e1 : (r.dir == 1) = true := beq_iff_eq.2 h1
      clear hz h0 h1
      unfold ruV
      rw [HZ.out]
      go_enter Tryd.func20, Tryd.ntmps20
      go_wp2
      exact bodyPost_ret (v := .agg #[.string r.pat, .int .i64 0, .int .i64 r.qos, .string r.rem, .string r.loc]) (by simp [results, Tryd.results20, go_sem]) rfl ⟨rfl, ((Below.refl _ _).alloc (Nat.le_refl _) _).alloc (by simp) _⟩
    · have hz : flp r = ⟨r.pat, r.dir, r.qos, r.rem, r.loc⟩ := by unfold flp; rw [if_neg h0, if_neg h1]
      have HZ := Lib.hid hz
      have e1 : (r.dir == 1) = false := beq_eq_false_iff_ne.2 h1
      clear hz h0 h1
      unfold ruV
      rw [HZ.out]
      go_enter Tryd.func20, Tryd.ntmps20
      go_wp2
      exact bodyPost_ret (v := .agg #[.string r.pat, .int .i64 r.dir, .int .i64 r.qos, .string r.rem, .string r.loc]) (by simp [results, Tryd.results20, go_sem]) rfl ⟨rfl, ((Below.refl _ _).alloc (Nat.le_refl _) _).alloc (by simp) _⟩

theorem refflip_any (r : Rl) (w : World) (hr : r.fits) :
    Calls Tryd.prog 21 #[ruV r] w fun e w' => e = .returned (ruV (flp r)) ∧ Below w.heap.size w w' := by
  have hd0 : -9223372036854775808 ≤ r.dir := hr.2.2.2.1
  have hd1 : r.dir ≤ 9223372036854775807 := hr.2.2.2.2.1
  clear hr
  by_cases h0 : r.dir = 0
  · have hz : flp r = ⟨r.pat, 1, r.qos, r.rem, r.loc⟩ := by unfold flp; rw [if_pos h0]
    have HZ := Lib.hid hz
    obtain ⟨p, d, q, l, m⟩ := r
    obtain rfl : d = 0 := h0
    clear hz
    unfold ruV
    rw [HZ.out]
    go_enter Tryd.func21, Tryd.ntmps21
    go_wp2
    exact bodyPost_ret (v := .agg #[.string p, .int .i64 1, .int .i64 q, .string m, .string l]) (by simp [results, Tryd.results21, go_sem]) rfl ⟨rfl, ((Below.refl _ _).alloc (Nat.le_refl _) _).alloc (by simp) _⟩
  · have e0 : (r.dir == 0) = false := beq_eq_false_iff_ne.2 h0
    by_cases h1 : r.dir = 1
    · have hz : flp r = ⟨r.pat, 0, r.qos, r.rem, r.loc⟩ := by unfold flp; rw [if_neg h0, if_pos h1]
      have HZ := Lib.hid hz
      obtain ⟨p, d, q, l, m⟩ := r
      obtain rfl : d = 1 := h1
      clear hz
      unfold ruV
      rw [HZ.out]
      go_enter Tryd.func21, Tryd.ntmps21
      go_wp2
      exact bodyPost_ret (v := .agg #[.string p, .int .i64 0, .int .i64 q, .string m, .string l]) (by simp [results, Tryd.results21, go_sem]) rfl ⟨rfl, ((Below.refl _ _).alloc (Nat.le_refl _) _).alloc (by simp) _⟩
    · have hz : flp r = ⟨r.pat, r.dir, r.qos, r.rem, r.loc⟩ := by unfold flp; rw [if_neg h0, if_neg h1]
      have HZ := Lib.hid hz
      have e1 : (r.dir == 1) = false := beq_eq_false_iff_ne.2 h1
      clear hz h0 h1
      unfold ruV
      rw [HZ.out]
      go_enter Tryd.func21, Tryd.ntmps21
      go_wp2
      exact bodyPost_ret (v := .agg #[.string r.pat, .int .i64 r.dir, .int .i64 r.qos, .string r.rem, .string r.loc]) (by simp [results, Tryd.results21, go_sem]) rfl ⟨rfl, ((Below.refl _ _).alloc (Nat.le_refl _) _).alloc (by simp) _⟩

theorem rule_any (r : Rl) (w : World) (hr : r.fits) :
    Calls Tryd.prog 9 #[ruV r] w fun e w' => e = .returned (.tuple #[ruV r, ruV r]) ∧ Below w.heap.size w w' := by
  unfold ruV
  go_enter Tryd.func9, Tryd.ntmps9
  go_wp2
  go_region_held3 (fun w' => w'.cell? ⟨w.heap.size, 0, none⟩ = some (.string r.pat) ∧ w'.cell? ⟨w.heap.size, 1, none⟩ = some (.int .i64 r.dir) ∧ w'.cell? ⟨w.heap.size, 2, none⟩ = some (.int .i64 r.qos) ∧ w'.cell? ⟨w.heap.size, 3, none⟩ = some (.string r.loc) ∧ w'.cell? ⟨w.heap.size, 4, none⟩ = some (.string r.rem)) (go_keep) (fail)
  all_goals go_wp2
  all_goals
    exact bodyPost_ret (v := .tuple #[.agg #[.string r.pat, .int .i64 r.dir, .int .i64 r.qos, .string r.loc, .string r.rem], .agg #[.string r.pat, .int .i64 r.dir, .int .i64 r.qos, .string r.loc, .string r.rem]])
      (by simp [results, Tryd.results9, go_sem]) rfl ⟨rfl, ((((Below.refl _ _).alloc (Nat.le_refl _) _).alloc (by simp) _).alloc (by simp; omega) _).drew⟩

/-- The rule that wakes asks of. -/
def Pl.ruW : Rl := ⟨⟨#[116, 47, 35]⟩, 0, 1, ⟨#[104, 101, 114, 101, 47]⟩, ⟨#[116, 104, 101, 114, 101, 47]⟩⟩
theorem ruW_fits : ruW.fits := by unfold Rl.fits ruW; decide
theorem rwakes_any (w : World) (hT : Tabs w) :
    Calls Tryd.prog 10 #[] w fun e w' => e = .returned (.bool true) ∧ Below w.heap.size w w' := by
  have H1 := Lib.hid (show toRem ruW ⟨#[104, 101, 114, 101, 47, 116, 47, 120]⟩ = (⟨#[116, 104, 101, 114, 101, 47, 116, 47, 120]⟩, true) by decide +kernel)
  have H2 := Lib.hid (show toRem ruW ⟨#[116, 47, 120]⟩ = (⟨#[]⟩, false) by decide +kernel)
  have H3 := Lib.hid (show ckR ruW = 0 by decide +kernel)
  have b0 : Below w.heap.size w (w.alloc (.cells (ruC ruW) 26)) := (Below.refl _ _).alloc (Nat.le_refl _) _
  have HT := Lib.hid (hT.below b0)
  have R0 := RuAt.new w ruW 26
  obtain ⟨W0, hW0⟩ : ∃ W0, w.alloc (.cells (ruC ruW) 26) = W0 := ⟨_, rfl⟩
  have HW := Lib.hid hW0
  rw [hW0] at b0 HT R0
  have HR := Lib.hid R0
  clear hT hW0 R0
  unfold ruC ruW at HW
  go_enter Tryd.func10, Tryd.ntmps10
  go_wp2_with fail
  rw [HW.out]
  refine (toremote_any ruW _ _ ruW_fits (by decide) HT.out).mono ?_
  rintro e w1 ⟨rfl, b1⟩
  rw [H1.out]
  have c1 := b0.trans (b1.mono b0.size)
  have HT1 := Lib.hid (HT.out.below b1)
  have HR1 := Lib.hid (HR.out.below b1)
  have HX1 := HR1.out
  unfold RuAt ruW at HX1
  obtain ⟨g1, q0, q1, q2, q3, q4⟩ := HX1
  go_wp2_with fail
  refine (toremote_any ruW _ _ ruW_fits (by decide) HT1.out).mono ?_
  rintro e w2 ⟨rfl, b2⟩
  rw [H2.out]
  have c2 := c1.trans (b2.mono c1.size)
  have HT2 := Lib.hid (HT1.out.below b2)
  have HX2 := HR1.out.below b2
  unfold RuAt ruW at HX2
  obtain ⟨g2, r0, r1, r2, r3, r4⟩ := HX2
  go_wp2_with fail
  refine (rcheck_any ruW _ ruW_fits HT2.out).mono ?_
  rintro e w3 ⟨rfl, b3⟩
  rw [H3.out]
  have c3 := c2.trans (b3.mono c2.size)
  go_wp2
  go_ret
  exact ⟨rfl, c3⟩
end Go.Proofs.YtdjiioidkgppjaaDoor
