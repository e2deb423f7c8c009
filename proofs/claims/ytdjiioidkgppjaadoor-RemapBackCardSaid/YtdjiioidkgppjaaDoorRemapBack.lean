/- RemapBack: the law's walk. -/
import Derived.Test.YtdjiioidkgppjaaDoorRemapLaw1
import Derived.Test.YtdjiioidkgppjaaDoorRemapBackP
import Derived.Deep.RegionHeld3
namespace Go.Proofs.YtdjiioidkgppjaaDoor
set_option linter.unusedVariables false
open Go.RowKit Pl Go.Shelf
attribute [local go_sem ↓] Go.wp_at_zero Go.wp_at_succ

theorem flp_fits {r : Rl} (h : r.fits) : (flp r).fits := by
  obtain ⟨h0, h1, h2, h3, h4, h5, h6⟩ := h
  refine ⟨h0, h2, h1, ?_, ?_, h5, h6⟩
  · show -9223372036854775808 ≤ (if r.dir = 0 then 1 else if r.dir = 1 then 0 else r.dir)
    split
    · omega
    · split <;> omega
  · show (if r.dir = 0 then 1 else if r.dir = 1 then 0 else r.dir) ≤ 9223372036854775807
    split
    · omega
    · split <;> omega

theorem flip_lit (r : Rl) (w : World) (hr : r.fits) :
    Calls Tryd.prog 20 #[.agg #[.string r.pat, .int .i64 r.dir, .int .i64 r.qos, .string r.loc, .string r.rem]] w fun e w' => e = .returned (ruV (flp r)) ∧ Below w.heap.size w w' := flip_any r w hr
/-- A rule lies in a block. -/
abbrev S5 (w' : World) (A : Nat) (r : Rl) : Prop := w'.cell? ⟨A, 0, none⟩ = some (.string r.pat) ∧ w'.cell? ⟨A, 1, none⟩ = some (.int .i64 r.dir) ∧ w'.cell? ⟨A, 2, none⟩ = some (.int .i64 r.qos) ∧ w'.cell? ⟨A, 3, none⟩ = some (.string r.loc) ∧ w'.cell? ⟨A, 4, none⟩ = some (.string r.rem)
theorem held5 {X w' : World} {A : Nat} {r : Rl} (hb : Below X.heap.size X w') (h : S5 X A r) (hA : A < X.heap.size) : S5 w' A r := by
  obtain ⟨h0, h1, h2, h3, h4⟩ := h
  exact ⟨(hb.cell (p := ⟨A, 0, none⟩) hA).trans h0, (hb.cell (p := ⟨A, 1, none⟩) hA).trans h1, (hb.cell (p := ⟨A, 2, none⟩) hA).trans h2, (hb.cell (p := ⟨A, 3, none⟩) hA).trans h3, (hb.cell (p := ⟨A, 4, none⟩) hA).trans h4⟩

set_option maxHeartbeats 4000000 in
theorem remapBack_core (r : Rl) (hr : r.fits) (n : ByteArray) (hn : n.size ≤ 140737488351232) (w : World) (hT : Tabs w) :
    Calls Tryd.prog 7 #[ruV r, .string n] w fun e w' => e = .returned (.bool true) ∧ Below w.heap.size w w' := by
  have HF := Lib.hid hr
  have HFf := Lib.hid (flp_fits hr)
  have hd0 : -9223372036854775808 ≤ r.dir := hr.2.2.2.1
  have hd1 : r.dir ≤ 9223372036854775807 := hr.2.2.2.2.1
  obtain ⟨x1, y1, h1⟩ : ∃ x y, toRem r n = (x, y) := ⟨_, _, rfl⟩
  obtain ⟨x2, y2, h2⟩ : ∃ x y, toLoc r n = (x, y) := ⟨_, _, rfl⟩
  have h3 := (toLoc_flp r n).trans h1
  have h4 := (toRem_flp r n).trans h2
  have h5 := flp_flp r
  obtain ⟨fr, hfr⟩ : ∃ x, flp r = x := ⟨_, rfl⟩
  rw [hfr] at h3 h4 h5 HFf
  have Hfr := Lib.hid hfr
  have H1 := Lib.hid h1
  have H2 := Lib.hid h2
  have H3 := Lib.hid h3
  have H4 := Lib.hid h4
  have H5 := Lib.hid h5
  have b0 : Below w.heap.size w (w.alloc (.cells (ruC r) 23)) := (Below.refl _ _).alloc (Nat.le_refl _) _
  have HT := Lib.hid (hT.below b0)
  obtain ⟨W0, hW0⟩ : ∃ W0, w.alloc (.cells (ruC r) 23) = W0 := ⟨_, rfl⟩
  have HW := Lib.hid hW0
  rw [hW0] at b0 HT
  have hx1 : (x1.toList == x1.toList) = true := by simp
  have hx1' : (x1.toList != x1.toList) = false := by unfold bne; rw [hx1]; rfl
  have hx2 : (x2.toList == x2.toList) = true := by simp
  have hy2 : (y2 == y2) = true := by simp
  have hy2' : (y2 != y2) = false := by unfold bne; rw [hy2]; rfl
  have hxn : (n.toList == n.toList) = true := by simp
  have hxn' : (n.toList != n.toList) = false := by unfold bne; rw [hxn]; rfl
  clear hT hW0 hr h2 h3 h4 h5 hfr
  unfold ruV
  unfold ruC at HW
  cases y1
  · clear h1
    go_enter Tryd.func7, Tryd.ntmps7
    go_wp2_with fail
    rw [HW.out]
    refine (rule_any r _ HF.out).mono ?_
    rintro e w1 ⟨rfl, b1⟩
    have c1 := b0.trans (b1.mono b0.size)
    have HT1 := Lib.hid (HT.out.below b1)
    obtain ⟨W2, hW2⟩ : ∃ W2, (w1.alloc (.cells (ruC r) 26)).alloc (.cells (ruC r) 27) = W2 := ⟨_, rfl⟩
    have HW2 := Lib.hid hW2
    have hnew := RuAt.new2 w1 r 26 27
    have e2 : Below w1.heap.size w1 W2 := by rw [← hW2]; exact ((Below.refl _ _).alloc (Nat.le_refl _) _).alloc (by simp) _
    rw [hW2] at hnew
    have HA2 := Lib.hid hnew.1
    have HT2 := Lib.hid (HT1.out.below e2)
    have c2 := c1.trans (e2.mono c1.size)
    clear hW2 hnew e2 b1
    unfold ruC at HW2
    unfold ruV
    go_wp2_with fail
    rw [HW2.out]
    refine (toremote_any r n _ HF.out hn HT2.out).mono ?_
    rintro e w3 ⟨rfl, b3⟩
    rw [H1.out]
    have c3 := c2.trans (b3.mono c2.size)
    have HT3 := Lib.hid (HT2.out.below b3)
    have HA3 := Lib.hid (HA2.out.below b3)
    obtain ⟨_, q0, q1, q2, q3, q4⟩ := HA3.out
    go_wp2_with fail
    refine (rwakes_any _ HT3.out).mono ?_
    rintro e w4 ⟨rfl, b4⟩
    have c4 := c3.trans (b4.mono c3.size)
    have HT4 := Lib.hid (HT3.out.below b4)
    have HA4 := Lib.hid (HA3.out.below b4)
    clear q0 q1 q2 q3 q4
    obtain ⟨_, q0, q1, q2, q3, q4⟩ := HA4.out
    go_wp2_with fail
    refine (tolocal_any r n _ HF.out hn HT4.out).mono ?_
    rintro e w5 ⟨rfl, b5⟩
    rw [H2.out]
    have c5 := c4.trans (b5.mono c4.size)
    have HT5 := Lib.hid (HT4.out.below b5)
    have HA5 := Lib.hid (HA4.out.below b5)
    clear q0 q1 q2 q3 q4
    obtain ⟨_, q0, q1, q2, q3, q4⟩ := HA5.out
    go_wp2_with fail
    refine (flip_any r _ HF.out).mono ?_
    rintro e w6 ⟨rfl, b6⟩
    rw [Hfr.out]
    unfold ruV
    have c6 := c5.trans (b6.mono c5.size)
    have HT6 := Lib.hid (HT5.out.below b6)
    have HA6 := Lib.hid (HA5.out.below b6)
    clear q0 q1 q2 q3 q4
    obtain ⟨_, q0, q1, q2, q3, q4⟩ := HA6.out
    go_wp2_with fail
    refine (toremote_any fr n _ HFf.out hn HT6.out).mono ?_
    rintro e w7 ⟨rfl, b7⟩
    rw [H4.out]
    have c7 := c6.trans (b7.mono c6.size)
    have HT7 := Lib.hid (HT6.out.below b7)
    have HA7 := Lib.hid (HA6.out.below b7)
    clear q0 q1 q2 q3 q4
    obtain ⟨_, q0, q1, q2, q3, q4⟩ := HA7.out
    obtain ⟨hA, _⟩ := HA7.out
    have hs0 : S5 w7.drew w1.heap.size r := ⟨q0, q1, q2, q3, q4⟩
    obtain ⟨A, hAe⟩ : ∃ A, w1.heap.size = A := ⟨_, rfl⟩
    rw [hAe] at hA hs0 ⊢
    clear q0 q1 q2 q3 q4 hAe
    go_wp2
    go_region_held3 (fun w' => S5 w' A r) (first | (with_reducible exact hs0) | (change S5 _ A r; first | exact s2 | exact s1 | exact hs0))
      (first | (go_at_call 20; (with_reducible refine (flip_lit r _ HF.out).mono ?_); rintro e v1 ⟨rfl, d1⟩; rw [Hfr.out]; unfold ruV; have z1 : w7.heap.size ≤ v1.heap.size := d1.size; have s1 : S5 v1 A r := held5 d1 hs0 (by show A < w7.heap.size; omega)) | (go_at_call 20; (with_reducible refine (flip_lit fr _ HFf.out).mono ?_); rintro e v2 ⟨rfl, d2⟩; rw [H5.out]; unfold ruV; have s2 : S5 v2 A r := held5 d2 s1 (by omega)))
    all_goals
      go_wp2
      go_ret
      have k1 := c7.drew.trans (d1.mono c7.drew.size)
      exact ⟨rfl, k1.trans (d2.mono k1.size)⟩
  · have HN := Lib.hid (nameC_ok (name_of_rem h1))
    have hxs : x1.size ≤ 256 := (szd_size (name_szd (name_of_rem h1))).2.1
    have hbk := back h1
    clear h1
    rcases hbk with ⟨hd, hb⟩ | ⟨hd, hb⟩
    · have HB := Lib.hid hb
      have e1 : (r.dir == 2) = true := beq_iff_eq.2 hd
      clear hd hb
      go_enter Tryd.func7, Tryd.ntmps7
      go_wp2_with fail
      rw [HW.out]
      refine (rule_any r _ HF.out).mono ?_
      rintro e w1 ⟨rfl, b1⟩
      have c1 := b0.trans (b1.mono b0.size)
      have HT1 := Lib.hid (HT.out.below b1)
      obtain ⟨W2, hW2⟩ : ∃ W2, (w1.alloc (.cells (ruC r) 26)).alloc (.cells (ruC r) 27) = W2 := ⟨_, rfl⟩
      have HW2 := Lib.hid hW2
      have hnew := RuAt.new2 w1 r 26 27
      have e2 : Below w1.heap.size w1 W2 := by rw [← hW2]; exact ((Below.refl _ _).alloc (Nat.le_refl _) _).alloc (by simp) _
      rw [hW2] at hnew
      have HA2 := Lib.hid hnew.1
      have HT2 := Lib.hid (HT1.out.below e2)
      have c2 := c1.trans (e2.mono c1.size)
      clear hW2 hnew e2 b1
      unfold ruC at HW2
      unfold ruV
      go_wp2_with fail
      rw [HW2.out]
      refine (toremote_any r n _ HF.out hn HT2.out).mono ?_
      rintro e w3 ⟨rfl, b3⟩
      rw [H1.out]
      have c3 := c2.trans (b3.mono c2.size)
      have HT3 := Lib.hid (HT2.out.below b3)
      have HA3 := Lib.hid (HA2.out.below b3)
      obtain ⟨_, q0, q1, q2, q3, q4⟩ := HA3.out
      go_wp2_with fail
      refine (rwakes_any _ HT3.out).mono ?_
      rintro e w4 ⟨rfl, b4⟩
      have c4 := c3.trans (b4.mono c3.size)
      have HT4 := Lib.hid (HT3.out.below b4)
      have HA4 := Lib.hid (HA3.out.below b4)
      clear q0 q1 q2 q3 q4
      obtain ⟨_, q0, q1, q2, q3, q4⟩ := HA4.out
      go_wp2_with fail
      refine (flip_any r _ HF.out).mono ?_
      rintro e w5 ⟨rfl, b5⟩
      rw [Hfr.out]
      unfold ruV
      have c5 := c4.trans (b5.mono c4.size)
      have HT5 := Lib.hid (HT4.out.below b5)
      have HA5 := Lib.hid (HA4.out.below b5)
      clear q0 q1 q2 q3 q4
      obtain ⟨_, q0, q1, q2, q3, q4⟩ := HA5.out
      go_wp2_with fail
      refine (tolocal_any fr n _ HFf.out hn HT5.out).mono ?_
      rintro e w6 ⟨rfl, b6⟩
      rw [H3.out]
      have c6 := c5.trans (b6.mono c5.size)
      have HT6 := Lib.hid (HT5.out.below b6)
      have HA6 := Lib.hid (HA5.out.below b6)
      clear q0 q1 q2 q3 q4
      obtain ⟨_, q0, q1, q2, q3, q4⟩ := HA6.out
      go_wp2_with fail
      refine (checkname_any x1 _ (by omega) HT6.out).mono ?_
      rintro e w7 ⟨rfl, b7⟩
      rw [HN.out]
      have c7 := c6.trans (b7.mono c6.size)
      have HT7 := Lib.hid (HT6.out.below b7)
      have HA7 := Lib.hid (HA6.out.below b7)
      clear q0 q1 q2 q3 q4
      obtain ⟨_, q0, q1, q2, q3, q4⟩ := HA7.out
      go_wp2_with fail
      refine (tolocal_any r x1 _ HF.out (by omega) HT7.out).mono ?_
      rintro e w8 ⟨rfl, b8⟩
      rw [HB.out]
      have c8 := c7.trans (b8.mono c7.size)
      have HT8 := Lib.hid (HT7.out.below b8)
      have HA8 := Lib.hid (HA7.out.below b8)
      clear q0 q1 q2 q3 q4
      obtain ⟨_, q0, q1, q2, q3, q4⟩ := HA8.out
      go_wp2_with fail
      refine (tolocal_any r n _ HF.out hn HT8.out).mono ?_
      rintro e w9 ⟨rfl, b9⟩
      rw [H2.out]
      have c9 := c8.trans (b9.mono c8.size)
      have HT9 := Lib.hid (HT8.out.below b9)
      have HA9 := Lib.hid (HA8.out.below b9)
      clear q0 q1 q2 q3 q4
      obtain ⟨_, q0, q1, q2, q3, q4⟩ := HA9.out
      go_wp2_with fail
      refine (flip_any r _ HF.out).mono ?_
      rintro e w10 ⟨rfl, b10⟩
      rw [Hfr.out]
      unfold ruV
      have c10 := c9.trans (b10.mono c9.size)
      have HT10 := Lib.hid (HT9.out.below b10)
      have HA10 := Lib.hid (HA9.out.below b10)
      clear q0 q1 q2 q3 q4
      obtain ⟨_, q0, q1, q2, q3, q4⟩ := HA10.out
      go_wp2_with fail
      refine (toremote_any fr n _ HFf.out hn HT10.out).mono ?_
      rintro e w11 ⟨rfl, b11⟩
      rw [H4.out]
      have c11 := c10.trans (b11.mono c10.size)
      have HT11 := Lib.hid (HT10.out.below b11)
      have HA11 := Lib.hid (HA10.out.below b11)
      clear q0 q1 q2 q3 q4
      obtain ⟨_, q0, q1, q2, q3, q4⟩ := HA11.out
      obtain ⟨hA, _⟩ := HA11.out
      have hs0 : S5 w11.drew w1.heap.size r := ⟨q0, q1, q2, q3, q4⟩
      obtain ⟨A, hAe⟩ : ∃ A, w1.heap.size = A := ⟨_, rfl⟩
      rw [hAe] at hA hs0 ⊢
      clear q0 q1 q2 q3 q4 hAe
      go_wp2
      go_region_held3 (fun w' => S5 w' A r) (first | (with_reducible exact hs0) | (change S5 _ A r; first | exact s2 | exact s1 | exact hs0))
        (first | (go_at_call 20; (with_reducible refine (flip_lit r _ HF.out).mono ?_); rintro e v1 ⟨rfl, d1⟩; rw [Hfr.out]; unfold ruV; have z1 : w11.heap.size ≤ v1.heap.size := d1.size; have s1 : S5 v1 A r := held5 d1 hs0 (by show A < w11.heap.size; omega)) | (go_at_call 20; (with_reducible refine (flip_lit fr _ HFf.out).mono ?_); rintro e v2 ⟨rfl, d2⟩; rw [H5.out]; unfold ruV; have s2 : S5 v2 A r := held5 d2 s1 (by omega)))
      all_goals
        go_wp2
        go_ret
        have k1 := c11.drew.trans (d1.mono c11.drew.size)
        exact ⟨rfl, k1.trans (d2.mono k1.size)⟩
    · have HB := Lib.hid hb
      have e1 : (r.dir == 2) = false := beq_eq_false_iff_ne.2 hd
      clear hd hb
      go_enter Tryd.func7, Tryd.ntmps7
      go_wp2_with fail
      rw [HW.out]
      refine (rule_any r _ HF.out).mono ?_
      rintro e w1 ⟨rfl, b1⟩
      have c1 := b0.trans (b1.mono b0.size)
      have HT1 := Lib.hid (HT.out.below b1)
      obtain ⟨W2, hW2⟩ : ∃ W2, (w1.alloc (.cells (ruC r) 26)).alloc (.cells (ruC r) 27) = W2 := ⟨_, rfl⟩
      have HW2 := Lib.hid hW2
      have hnew := RuAt.new2 w1 r 26 27
      have e2 : Below w1.heap.size w1 W2 := by rw [← hW2]; exact ((Below.refl _ _).alloc (Nat.le_refl _) _).alloc (by simp) _
      rw [hW2] at hnew
      have HA2 := Lib.hid hnew.1
      have HT2 := Lib.hid (HT1.out.below e2)
      have c2 := c1.trans (e2.mono c1.size)
      clear hW2 hnew e2 b1
      unfold ruC at HW2
      unfold ruV
      go_wp2_with fail
      rw [HW2.out]
      refine (toremote_any r n _ HF.out hn HT2.out).mono ?_
      rintro e w3 ⟨rfl, b3⟩
      rw [H1.out]
      have c3 := c2.trans (b3.mono c2.size)
      have HT3 := Lib.hid (HT2.out.below b3)
      have HA3 := Lib.hid (HA2.out.below b3)
      obtain ⟨_, q0, q1, q2, q3, q4⟩ := HA3.out
      go_wp2_with fail
      refine (rwakes_any _ HT3.out).mono ?_
      rintro e w4 ⟨rfl, b4⟩
      have c4 := c3.trans (b4.mono c3.size)
      have HT4 := Lib.hid (HT3.out.below b4)
      have HA4 := Lib.hid (HA3.out.below b4)
      clear q0 q1 q2 q3 q4
      obtain ⟨_, q0, q1, q2, q3, q4⟩ := HA4.out
      go_wp2_with fail
      refine (flip_any r _ HF.out).mono ?_
      rintro e w5 ⟨rfl, b5⟩
      rw [Hfr.out]
      unfold ruV
      have c5 := c4.trans (b5.mono c4.size)
      have HT5 := Lib.hid (HT4.out.below b5)
      have HA5 := Lib.hid (HA4.out.below b5)
      clear q0 q1 q2 q3 q4
      obtain ⟨_, q0, q1, q2, q3, q4⟩ := HA5.out
      go_wp2_with fail
      refine (tolocal_any fr n _ HFf.out hn HT5.out).mono ?_
      rintro e w6 ⟨rfl, b6⟩
      rw [H3.out]
      have c6 := c5.trans (b6.mono c5.size)
      have HT6 := Lib.hid (HT5.out.below b6)
      have HA6 := Lib.hid (HA5.out.below b6)
      clear q0 q1 q2 q3 q4
      obtain ⟨_, q0, q1, q2, q3, q4⟩ := HA6.out
      go_wp2_with fail
      refine (checkname_any x1 _ (by omega) HT6.out).mono ?_
      rintro e w7 ⟨rfl, b7⟩
      rw [HN.out]
      have c7 := c6.trans (b7.mono c6.size)
      have HT7 := Lib.hid (HT6.out.below b7)
      have HA7 := Lib.hid (HA6.out.below b7)
      clear q0 q1 q2 q3 q4
      obtain ⟨_, q0, q1, q2, q3, q4⟩ := HA7.out
      go_wp2_with fail
      refine (tolocal_any r x1 _ HF.out (by omega) HT7.out).mono ?_
      rintro e w8 ⟨rfl, b8⟩
      rw [HB.out]
      have c8 := c7.trans (b8.mono c7.size)
      have HT8 := Lib.hid (HT7.out.below b8)
      have HA8 := Lib.hid (HA7.out.below b8)
      clear q0 q1 q2 q3 q4
      obtain ⟨_, q0, q1, q2, q3, q4⟩ := HA8.out
      go_wp2_with fail
      refine (tolocal_any r n _ HF.out hn HT8.out).mono ?_
      rintro e w9 ⟨rfl, b9⟩
      rw [H2.out]
      have c9 := c8.trans (b9.mono c8.size)
      have HT9 := Lib.hid (HT8.out.below b9)
      have HA9 := Lib.hid (HA8.out.below b9)
      clear q0 q1 q2 q3 q4
      obtain ⟨_, q0, q1, q2, q3, q4⟩ := HA9.out
      go_wp2_with fail
      refine (flip_any r _ HF.out).mono ?_
      rintro e w10 ⟨rfl, b10⟩
      rw [Hfr.out]
      unfold ruV
      have c10 := c9.trans (b10.mono c9.size)
      have HT10 := Lib.hid (HT9.out.below b10)
      have HA10 := Lib.hid (HA9.out.below b10)
      clear q0 q1 q2 q3 q4
      obtain ⟨_, q0, q1, q2, q3, q4⟩ := HA10.out
      go_wp2_with fail
      refine (toremote_any fr n _ HFf.out hn HT10.out).mono ?_
      rintro e w11 ⟨rfl, b11⟩
      rw [H4.out]
      have c11 := c10.trans (b11.mono c10.size)
      have HT11 := Lib.hid (HT10.out.below b11)
      have HA11 := Lib.hid (HA10.out.below b11)
      clear q0 q1 q2 q3 q4
      obtain ⟨_, q0, q1, q2, q3, q4⟩ := HA11.out
      obtain ⟨hA, _⟩ := HA11.out
      have hs0 : S5 w11.drew w1.heap.size r := ⟨q0, q1, q2, q3, q4⟩
      obtain ⟨A, hAe⟩ : ∃ A, w1.heap.size = A := ⟨_, rfl⟩
      rw [hAe] at hA hs0 ⊢
      clear q0 q1 q2 q3 q4 hAe
      go_wp2
      go_region_held3 (fun w' => S5 w' A r) (first | (with_reducible exact hs0) | (change S5 _ A r; first | exact s2 | exact s1 | exact hs0))
        (first | (go_at_call 20; (with_reducible refine (flip_lit r _ HF.out).mono ?_); rintro e v1 ⟨rfl, d1⟩; rw [Hfr.out]; unfold ruV; have z1 : w11.heap.size ≤ v1.heap.size := d1.size; have s1 : S5 v1 A r := held5 d1 hs0 (by show A < w11.heap.size; omega)) | (go_at_call 20; (with_reducible refine (flip_lit fr _ HFf.out).mono ?_); rintro e v2 ⟨rfl, d2⟩; rw [H5.out]; unfold ruV; have s2 : S5 v2 A r := held5 d2 s1 (by omega)))
      all_goals
        go_wp2
        go_ret
        have k1 := c11.drew.trans (d1.mono c11.drew.size)
        exact ⟨rfl, k1.trans (d2.mono k1.size)⟩

theorem remapBack_walk (v : Value) (r : Rl) (n : ByteArray) (hn : n.size ≤ 140737488351232) (w : World) (h : v = ruV r ∧ r.fits) (hT : Tabs w) :
    Calls Tryd.prog 7 #[v, .string n] w fun e w' => e = .returned (.bool true) ∧ Below w.heap.size w w' := by
  rw [h.1]
  exact remapBack_core r h.2 n hn w hT
end Go.Proofs.YtdjiioidkgppjaaDoor
