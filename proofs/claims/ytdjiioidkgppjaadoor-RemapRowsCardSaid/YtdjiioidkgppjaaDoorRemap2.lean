/- The walks of package remap's turned, ToRemote, ToLocal, Flip. -/
import Derived.Test.YtdjiioidkgppjaaDoorRemap
import Derived.Test.YtdjiioidkgppjaaDoorShelf
namespace Go.Proofs.YtdjiioidkgppjaaDoor
set_option linter.unusedVariables false
open Go.RowKit Pl Go.Shelf

theorem cutprefix_any (n f : ByteArray) (w : World) :
    Calls Tryd.prog 38 #[.string n, .string f] w fun e w' => ∃ x : ByteArray, e = .returned (.tuple #[.string x, .bool (hp n f)]) ∧ (hp n f = true → x = rst n f) ∧ w = w' :=
  (Tryd.strings_CutPrefix n f w).mono fun e w' ⟨he, hw⟩ => ⟨_, he, fun h => trim_hit h, hw.symm⟩
theorem rst_size (n f : ByteArray) : (rst n f).size ≤ n.size := by unfold rst; rw [ByteArray.size_extract]; omega
theorem Pl.trn_no {r : Rl} {n f t : ByteArray} (h : (hp n f && (decide (ckR r = 0) && (mtB r.pat (rst n f) && (nameB n && nameB (t ++ rst n f))))) = false) : trn r n f t = (⟨#[]⟩, false) := by
  unfold trn; rw [h]; rfl
theorem Pl.trn_yes {r : Rl} {n f t : ByteArray} (h1 : hp n f = true) (h2 : ckR r = 0) (h3 : mtB r.pat (rst n f) = true) (h4 : nameB n = true) (h5 : nameB (t ++ rst n f) = true) : trn r n f t = (t ++ rst n f, true) := by
  unfold trn; rw [h1, h2, h3, h4, h5]; rfl

set_option maxHeartbeats 1000000 in
theorem turned_any (r : Rl) (n f t : ByteArray) (w : World) (hr : r.fits) (hn : n.size ≤ 140737488351232) (hf : f.size ≤ 140737488351232) (ht : t.size ≤ 140737488351232) (hT : Tabs w) :
    Calls Tryd.prog 29 #[ruV r, .string n, .string f, .string t] w fun e w' => e = .returned (.tuple #[.string (trn r n f t).1, .bool (trn r n f t).2]) ∧ Below w.heap.size w w' := by
  have p0 := hr.1
  have HF := Lib.hid hr
  have b0 : Below w.heap.size w (w.alloc (.cells (ruC r) 26)) := (Below.refl _ _).alloc (Nat.le_refl _) _
  have HT := Lib.hid (hT.below b0)
  have R0 := RuAt.new w r 26
  obtain ⟨W0, hW0⟩ : ∃ W0, w.alloc (.cells (ruC r) 26) = W0 := ⟨_, rfl⟩
  have HW := Lib.hid hW0
  rw [hW0] at b0 HT R0
  have HR := Lib.hid R0
  obtain ⟨g0, q0, q1, q2, q3, q4⟩ := R0
  have hrs := rst_size n f
  have hck := ckR_bd r
  have hck0 := hck.1
  have hck1 := hck.2
  clear hT hW0 hr hck
  unfold ruV
  unfold ruC at HW
  cases h1 : hp n f
  · have HZ := Lib.hid (trn_no (r := r) (n := n) (f := f) (t := t) (by rw [h1]; rfl))
    have H1 := Lib.hid h1
    clear h1
    go_enter Tryd.func29, Tryd.ntmps29
    go_wp2_with fail
    rw [HW.out]
    refine (cutprefix_any n f _).mono ?_
    rintro e w1 ⟨x, rfl, hx, rfl⟩
    rw [H1.out]
    clear hx
    go_wp2
    go_ret2
    exact ⟨ret2 (val_bytes (by rw [HZ.out])) (val_bool (by rw [HZ.out])), b0⟩
  · have H1 := Lib.hid h1
    by_cases h2 : ckR r = 0
    · have H2 := Lib.hid h2
      have H2r := Lib.hid h2
      cases h3 : mtB r.pat (rst n f)
      · have HZ := Lib.hid (trn_no (r := r) (n := n) (f := f) (t := t) (by rw [h3]; simp))
        have H3 := Lib.hid h3
        clear h1 h2 h3
        go_enter Tryd.func29, Tryd.ntmps29
        go_wp2_with fail
        rw [HW.out]
        refine (cutprefix_any n f _).mono ?_
        rintro e w1 ⟨x, rfl, hx, rfl⟩
        rw [H1.out]
        obtain rfl := hx H1.out
        clear hx
        go_wp2_with fail
        refine (rcheck_any r _ HF.out HT.out).mono ?_
        rintro e w2 ⟨rfl, b2⟩
        rw [H2.out]
        have HT2 := Lib.hid (HT.out.below b2)
        have c2 := b0.trans (b2.mono b0.size)
        obtain ⟨g2, s0, s1, s2, s3, s4⟩ := HR.out.below b2
        go_wp2_with fail
        refine (match_any r.pat (rst n f) _ (by omega) (by omega) HT2.out).mono ?_
        rintro e w3 ⟨rfl, b3⟩
        rw [H3.out]
        have HT3 := Lib.hid (HT2.out.below b3)
        have c3 := c2.trans (b3.mono c2.size)
        go_wp2
        go_ret2
        exact ⟨ret2 (val_bytes (by rw [HZ.out])) (val_bool (by rw [HZ.out])), c3⟩
      · have H3 := Lib.hid h3
        cases h4 : nameB n
        · have HZ := Lib.hid (trn_no (r := r) (n := n) (f := f) (t := t) (by rw [h4]; simp))
          have H4 := Lib.hid (nameC_bad h4)
          clear h1 h2 h3 h4
          go_enter Tryd.func29, Tryd.ntmps29
          go_wp2_with fail
          rw [HW.out]
          refine (cutprefix_any n f _).mono ?_
          rintro e w1 ⟨x, rfl, hx, rfl⟩
          rw [H1.out]
          obtain rfl := hx H1.out
          clear hx
          go_wp2_with fail
          refine (rcheck_any r _ HF.out HT.out).mono ?_
          rintro e w2 ⟨rfl, b2⟩
          rw [H2.out]
          have HT2 := Lib.hid (HT.out.below b2)
          have c2 := b0.trans (b2.mono b0.size)
          obtain ⟨g2, s0, s1, s2, s3, s4⟩ := HR.out.below b2
          go_wp2_with fail
          refine (match_any r.pat (rst n f) _ (by omega) (by omega) HT2.out).mono ?_
          rintro e w3 ⟨rfl, b3⟩
          rw [H3.out]
          have HT3 := Lib.hid (HT2.out.below b3)
          have c3 := c2.trans (b3.mono c2.size)
          go_wp2_with fail
          refine (checkname_any n _ (by omega) HT3.out).mono ?_
          rintro e w4 ⟨rfl, b4⟩
          rw [H4.out]
          have HT4 := Lib.hid (HT3.out.below b4)
          have c4 := c3.trans (b4.mono c3.size)
          go_wp2
          go_ret2
          exact ⟨ret2 (val_bytes (by rw [HZ.out])) (val_bool (by rw [HZ.out])), c4⟩
        · have H4 := Lib.hid (nameC_ok h4)
          cases h5 : nameB (t ++ rst n f)
          · have HZ := Lib.hid (trn_no (r := r) (n := n) (f := f) (t := t) (by rw [h5]; simp))
            have H5 := Lib.hid (nameC_bad h5)
            clear h1 h2 h3 h4 h5
            go_enter Tryd.func29, Tryd.ntmps29
            go_wp2_with fail
            rw [HW.out]
            refine (cutprefix_any n f _).mono ?_
            rintro e w1 ⟨x, rfl, hx, rfl⟩
            rw [H1.out]
            obtain rfl := hx H1.out
            clear hx
            go_wp2_with fail
            refine (rcheck_any r _ HF.out HT.out).mono ?_
            rintro e w2 ⟨rfl, b2⟩
            rw [H2.out]
            have HT2 := Lib.hid (HT.out.below b2)
            have c2 := b0.trans (b2.mono b0.size)
            obtain ⟨g2, s0, s1, s2, s3, s4⟩ := HR.out.below b2
            go_wp2_with fail
            refine (match_any r.pat (rst n f) _ (by omega) (by omega) HT2.out).mono ?_
            rintro e w3 ⟨rfl, b3⟩
            rw [H3.out]
            have HT3 := Lib.hid (HT2.out.below b3)
            have c3 := c2.trans (b3.mono c2.size)
            go_wp2_with fail
            refine (checkname_any n _ (by omega) HT3.out).mono ?_
            rintro e w4 ⟨rfl, b4⟩
            rw [H4.out]
            have HT4 := Lib.hid (HT3.out.below b4)
            have c4 := c3.trans (b4.mono c3.size)
            go_wp2_with fail
            refine (checkname_any (t ++ rst n f) _ (by rw [ByteArray.size_append]; omega) HT4.out).mono ?_
            rintro e w5 ⟨rfl, b5⟩
            rw [H5.out]
            have c5 := c4.trans (b5.mono c4.size)
            go_wp2
            go_ret2
            exact ⟨ret2 (val_bytes (by rw [HZ.out])) (val_bool (by rw [HZ.out])), c5⟩
          · have HZ := Lib.hid (trn_yes h1 h2 h3 h4 h5)
            have H5 := Lib.hid (nameC_ok h5)
            clear h1 h2 h3 h4 h5
            go_enter Tryd.func29, Tryd.ntmps29
            go_wp2_with fail
            rw [HW.out]
            refine (cutprefix_any n f _).mono ?_
            rintro e w1 ⟨x, rfl, hx, rfl⟩
            rw [H1.out]
            obtain rfl := hx H1.out
            clear hx
            go_wp2_with fail
            refine (rcheck_any r _ HF.out HT.out).mono ?_
            rintro e w2 ⟨rfl, b2⟩
            rw [H2.out]
            have HT2 := Lib.hid (HT.out.below b2)
            have c2 := b0.trans (b2.mono b0.size)
            obtain ⟨g2, s0, s1, s2, s3, s4⟩ := HR.out.below b2
            go_wp2_with fail
            refine (match_any r.pat (rst n f) _ (by omega) (by omega) HT2.out).mono ?_
            rintro e w3 ⟨rfl, b3⟩
            rw [H3.out]
            have HT3 := Lib.hid (HT2.out.below b3)
            have c3 := c2.trans (b3.mono c2.size)
            go_wp2_with fail
            refine (checkname_any n _ (by omega) HT3.out).mono ?_
            rintro e w4 ⟨rfl, b4⟩
            rw [H4.out]
            have HT4 := Lib.hid (HT3.out.below b4)
            have c4 := c3.trans (b4.mono c3.size)
            go_wp2_with fail
            refine (checkname_any (t ++ rst n f) _ (by rw [ByteArray.size_append]; omega) HT4.out).mono ?_
            rintro e w5 ⟨rfl, b5⟩
            rw [H5.out]
            have c5 := c4.trans (b5.mono c4.size)
            go_wp2
            go_ret2
            exact ⟨ret2 (val_bytes (by rw [HZ.out])) (val_bool (by rw [HZ.out])), c5⟩
    · have HZ := Lib.hid (trn_ck (n := n) (f := f) (t := t) h2)
      obtain ⟨c, hc⟩ : ∃ c, ckR r = c := ⟨_, rfl⟩
      rw [hc] at h2 hck0 hck1
      have h2a : (c == 0) = false := beq_eq_false_iff_ne.2 h2
      have h2b : (c != 0) = true := by rw [bne_iff_ne]; exact h2
      have Hc := Lib.hid hc
      clear h1 h2 hc
      go_enter Tryd.func29, Tryd.ntmps29
      go_wp2_with fail
      rw [HW.out]
      refine (cutprefix_any n f _).mono ?_
      rintro e w1 ⟨x, rfl, hx, rfl⟩
      rw [H1.out]
      obtain rfl := hx H1.out
      clear hx
      go_wp2_with fail
      refine (rcheck_any r _ HF.out HT.out).mono ?_
      rintro e w2 ⟨rfl, b2⟩
      rw [Hc.out]
      have HT2 := Lib.hid (HT.out.below b2)
      have c2 := b0.trans (b2.mono b0.size)
      obtain ⟨g2, s0, s1, s2, s3, s4⟩ := HR.out.below b2
      go_wp2
      go_ret2
      exact ⟨ret2 (val_bytes (by rw [HZ.out])) (val_bool (by rw [HZ.out])), c2⟩

theorem toremote_any (r : Rl) (n : ByteArray) (w : World) (hr : r.fits) (hn : n.size ≤ 140737488351232) (hT : Tabs w) :
    Calls Tryd.prog 15 #[ruV r, .string n] w fun e w' => e = .returned (.tuple #[.string (toRem r n).1, .bool (toRem r n).2]) ∧ Below w.heap.size w w' := by
  have HF := Lib.hid hr
  have hl : r.loc.size ≤ 140737488351232 := hr.2.1
  have hm : r.rem.size ≤ 140737488351232 := hr.2.2.1
  have hd0 : -9223372036854775808 ≤ r.dir := hr.2.2.2.1
  have hd1 : r.dir ≤ 9223372036854775807 := hr.2.2.2.2.1
  have b0 : Below w.heap.size w (w.alloc (.cells (ruC r) 26)) := (Below.refl _ _).alloc (Nat.le_refl _) _
  have HT := Lib.hid (hT.below b0)
  have R0 := RuAt.new w r 26
  obtain ⟨W0, hW0⟩ : ∃ W0, w.alloc (.cells (ruC r) 26) = W0 := ⟨_, rfl⟩
  have HW := Lib.hid hW0
  rw [hW0] at b0 HT R0
  obtain ⟨g0, q0, q1, q2, q3, q4⟩ := R0
  clear hT hW0 hr
  unfold ruV
  unfold ruC at HW
  by_cases h : r.dir = 1
  · have HZ := Lib.hid (show toRem r n = (⟨#[]⟩, false) by unfold toRem; rw [if_pos h])
    have h1 : (r.dir == 1) = true := beq_iff_eq.2 h
    clear h
    go_enter Tryd.func15, Tryd.ntmps15
    go_wp2
    go_ret2
    refine ⟨ret2 (val_bytes (by rw [HZ.out])) (val_bool (by rw [HZ.out])), ?_⟩
    exact (Below.refl _ _).alloc (Nat.le_refl _) _
  · have HZ := Lib.hid (show toRem r n = trn r n r.loc r.rem by unfold toRem; rw [if_neg h])
    have h1 : (r.dir == 1) = false := beq_eq_false_iff_ne.2 h
    clear h
    go_enter Tryd.func15, Tryd.ntmps15
    go_wp2_with fail
    rw [HW.out]
    refine (turned_any r n r.loc r.rem _ HF.out hn (by omega) (by omega) HT.out).mono ?_
    rintro e w1 ⟨rfl, b1⟩
    go_wp2
    go_ret2
    exact ⟨ret2 (val_bytes (by rw [HZ.out])) (val_bool (by rw [HZ.out])), b0.trans (b1.mono b0.size)⟩

theorem tolocal_any (r : Rl) (n : ByteArray) (w : World) (hr : r.fits) (hn : n.size ≤ 140737488351232) (hT : Tabs w) :
    Calls Tryd.prog 18 #[ruV r, .string n] w fun e w' => e = .returned (.tuple #[.string (toLoc r n).1, .bool (toLoc r n).2]) ∧ Below w.heap.size w w' := by
  have HF := Lib.hid hr
  have hl : r.loc.size ≤ 140737488351232 := hr.2.1
  have hm : r.rem.size ≤ 140737488351232 := hr.2.2.1
  have hd0 : -9223372036854775808 ≤ r.dir := hr.2.2.2.1
  have hd1 : r.dir ≤ 9223372036854775807 := hr.2.2.2.2.1
  have b0 : Below w.heap.size w (w.alloc (.cells (ruC r) 26)) := (Below.refl _ _).alloc (Nat.le_refl _) _
  have HT := Lib.hid (hT.below b0)
  have R0 := RuAt.new w r 26
  obtain ⟨W0, hW0⟩ : ∃ W0, w.alloc (.cells (ruC r) 26) = W0 := ⟨_, rfl⟩
  have HW := Lib.hid hW0
  rw [hW0] at b0 HT R0
  obtain ⟨g0, q0, q1, q2, q3, q4⟩ := R0
  clear hT hW0 hr
  unfold ruV
  unfold ruC at HW
  by_cases h : r.dir = 0
  · have HZ := Lib.hid (show toLoc r n = (⟨#[]⟩, false) by unfold toLoc; rw [if_pos h])
    have h1 : (r.dir == 0) = true := beq_iff_eq.2 h
    clear h
    go_enter Tryd.func18, Tryd.ntmps18
    go_wp2
    go_ret2
    refine ⟨ret2 (val_bytes (by rw [HZ.out])) (val_bool (by rw [HZ.out])), ?_⟩
    exact (Below.refl _ _).alloc (Nat.le_refl _) _
  · have HZ := Lib.hid (show toLoc r n = trn r n r.rem r.loc by unfold toLoc; rw [if_neg h])
    have h1 : (r.dir == 0) = false := beq_eq_false_iff_ne.2 h
    clear h
    go_enter Tryd.func18, Tryd.ntmps18
    go_wp2_with fail
    rw [HW.out]
    refine (turned_any r n r.rem r.loc _ HF.out hn (by omega) (by omega) HT.out).mono ?_
    rintro e w1 ⟨rfl, b1⟩
    go_wp2
    go_ret2
    exact ⟨ret2 (val_bytes (by rw [HZ.out])) (val_bool (by rw [HZ.out])), b0.trans (b1.mono b0.size)⟩
end Go.Proofs.YtdjiioidkgppjaaDoor
