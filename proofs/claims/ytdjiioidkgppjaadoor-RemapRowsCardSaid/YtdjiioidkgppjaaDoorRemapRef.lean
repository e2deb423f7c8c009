/- The walks of the document's Check, joined, ToRemote, ToLocal (layer 10). -/
import Derived.Test.YtdjiioidkgppjaaDoorRemap
import Derived.Test.YtdjiioidkgppjaaDoorRefMatch
namespace Go.Proofs.YtdjiioidkgppjaaDoor
set_option linter.unusedVariables false
open Go.RowKit Pl Go.Shelf

theorem name_empty {s : ByteArray} (h : s.size = 0) : nameC s = 144 := by
  apply nameC_bad
  unfold nameB szd
  rw [show decide (0 < s.size) = false from decide_eq_false (by omega)]
  simp
theorem pre_cases (s : ByteArray) : (s.toList.isEmpty = true ∧ nameC s = 144 ∧ pre s = true) ∨ (s.toList.isEmpty = false ∧ nameC s = 0 ∧ pre s = true) ∨ (s.toList.isEmpty = false ∧ nameC s = 144 ∧ pre s = false) := by
  by_cases h0 : s.size = 0
  · have he : s = ⟨#[]⟩ := ByteArray.ext (Array.eq_empty_of_size_eq_zero h0)
    exact .inl ⟨by rw [he, ByteArray.toList_eq]; rfl, name_empty h0, by unfold pre; rw [decide_eq_true h0]; rfl⟩
  · have hemp : s.toList.isEmpty = false := by
      rw [ByteArray.toList_eq, List.isEmpty_eq_false_iff]
      intro hc
      exact h0 (congrArg List.length hc)
    have hp0 : pre s = nameB s := by unfold pre; rw [decide_eq_false h0]; rfl
    cases hn : nameB s
    · exact .inr (.inr ⟨hemp, nameC_bad hn, hp0.trans hn⟩)
    · exact .inr (.inl ⟨hemp, nameC_ok hn, hp0.trans hn⟩)

set_option maxHeartbeats 2000000 in
theorem refrcheck_any (r : Rl) (w : World) (hr : r.fits) :
    Calls Tryd.prog 12 #[ruV r] w fun e w' => e = .returned (.int .i64 (ckR r)) ∧ Below w.heap.size w w' := by
  obtain ⟨p0, p1, p2, p3, p4, p5, p6⟩ := hr
  have b0 : Below w.heap.size w (w.alloc (.cells (ruC r) 27)) := (Below.refl _ _).alloc (Nat.le_refl _) _
  have R0 := RuAt.new w r 27
  obtain ⟨W0, hW0⟩ : ∃ W0, w.alloc (.cells (ruC r) 27) = W0 := ⟨_, rfl⟩
  have HW := Lib.hid hW0
  rw [hW0] at b0 R0
  have HR := Lib.hid R0
  obtain ⟨g0, q0, q1, q2, q3, q4⟩ := R0
  have hck : ckR r = if filtB r.pat then (if pre r.loc && pre r.rem then inC r.dir r.qos else 144) else 143 := rfl
  clear hW0
  unfold ruV
  unfold ruC at HW
  cases hf : filtB r.pat
  · have HF := Lib.hid (filtC_bad hf)
    have Hz := Lib.hid (show ckR r = 143 by rw [hck, hf]; rfl)
    clear hck hf
    go_enter Tryd.func12, Tryd.ntmps12
    go_wp2_with fail
    rw [HW.out]
    refine (refcheckfilter_any r.pat _ (by omega)).mono ?_
    rintro e w1 ⟨rfl, b1⟩
    rw [HF.out]
    have c1 := b0.trans (b1.mono b0.size)
    have HR1 := Lib.hid (HR.out.below b1)
    obtain ⟨g1, r0, r1, r2, r3, r4⟩ := HR1.out
    go_wp2_with fail
    refine (refcheckname_any r.loc _ (by omega)).mono ?_
    rintro e w2 ⟨rfl, b2⟩
    have c2 := c1.trans (b2.mono c1.size)
    have HR2 := Lib.hid (HR1.out.below b2)
    obtain ⟨g2, s0, s1, s2, s3, s4⟩ := HR2.out
    go_wp2_with fail
    refine (refcheckname_any r.rem _ (by omega)).mono ?_
    rintro e w3 ⟨rfl, b3⟩
    have c3 := c2.trans (b3.mono c2.size)
    obtain ⟨g3, t0, t1, t2, t3, t4⟩ := HR2.out.below b3
    go_wp2
    go_ret
    exact ⟨ret_int Hz.out.symm, c3⟩
  · have HF := Lib.hid (filtC_ok hf)
    have hl := pre_cases r.loc
    have hm := pre_cases r.rem
    rcases hl with ⟨l1, l2, l3⟩ | ⟨l1, l2, l3⟩ | ⟨l1, l2, l3⟩
    rotate_left 2
    · have Hz := Lib.hid (show ckR r = 144 by rw [hck, hf, l3]; rfl)
      have HL := Lib.hid l2
      clear hck hf hm l2 l3
      go_enter Tryd.func12, Tryd.ntmps12
      go_wp2_with fail
      rw [HW.out]
      refine (refcheckfilter_any r.pat _ (by omega)).mono ?_
      rintro e w1 ⟨rfl, b1⟩
      rw [HF.out]
      have c1 := b0.trans (b1.mono b0.size)
      have HR1 := Lib.hid (HR.out.below b1)
      obtain ⟨g1, r0, r1, r2, r3, r4⟩ := HR1.out
      go_wp2_with fail
      refine (refcheckname_any r.loc _ (by omega)).mono ?_
      rintro e w2 ⟨rfl, b2⟩
      rw [HL.out]
      have c2 := c1.trans (b2.mono c1.size)
      have HR2 := Lib.hid (HR1.out.below b2)
      obtain ⟨g2, s0, s1, s2, s3, s4⟩ := HR2.out
      go_wp2_with fail
      refine (refcheckname_any r.rem _ (by omega)).mono ?_
      rintro e w3 ⟨rfl, b3⟩
      have c3 := c2.trans (b3.mono c2.size)
      obtain ⟨g3, t0, t1, t2, t3, t4⟩ := HR2.out.below b3
      go_wp2
      go_ret
      exact ⟨ret_int Hz.out.symm, c3⟩
    all_goals
      rcases hm with ⟨m1, m2, m3⟩ | ⟨m1, m2, m3⟩ | ⟨m1, m2, m3⟩
      rotate_left 2
      · have Hz := Lib.hid (show ckR r = 144 by rw [hck, hf, l3, m3]; rfl)
        have HL := Lib.hid l2
        have HM := Lib.hid m2
        clear hck hf l2 l3 m2 m3
        go_enter Tryd.func12, Tryd.ntmps12
        go_wp2_with fail
        rw [HW.out]
        refine (refcheckfilter_any r.pat _ (by omega)).mono ?_
        rintro e w1 ⟨rfl, b1⟩
        rw [HF.out]
        have c1 := b0.trans (b1.mono b0.size)
        have HR1 := Lib.hid (HR.out.below b1)
        obtain ⟨g1, r0, r1, r2, r3, r4⟩ := HR1.out
        go_wp2_with fail
        refine (refcheckname_any r.loc _ (by omega)).mono ?_
        rintro e w2 ⟨rfl, b2⟩
        rw [HL.out]
        have c2 := c1.trans (b2.mono c1.size)
        have HR2 := Lib.hid (HR1.out.below b2)
        obtain ⟨g2, s0, s1, s2, s3, s4⟩ := HR2.out
        go_wp2_with fail
        refine (refcheckname_any r.rem _ (by omega)).mono ?_
        rintro e w3 ⟨rfl, b3⟩
        rw [HM.out]
        have c3 := c2.trans (b3.mono c2.size)
        obtain ⟨g3, t0, t1, t2, t3, t4⟩ := HR2.out.below b3
        go_wp2
        go_ret
        exact ⟨ret_int Hz.out.symm, c3⟩
      all_goals
        have hz : ckR r = inC r.dir r.qos := by rw [hck, hf, l3, m3]; rfl
        have hic := inC_cases r.dir r.qos
        rw [← hz] at hic
        have HL := Lib.hid l2
        have HM := Lib.hid m2
        clear hck hf hz l2 l3 m2 m3
        rcases hic with ⟨i1, hz⟩ | ⟨i1, i2, hz⟩ | ⟨i1, i2, i3, hz⟩ | ⟨i1, i2, i3, i4, hz⟩ | ⟨i1, i2, i3, i4, hz⟩
        all_goals
          have Hz := Lib.hid hz
          clear hz
          go_enter Tryd.func12, Tryd.ntmps12
          go_wp2_with fail
          rw [HW.out]
          refine (refcheckfilter_any r.pat _ (by omega)).mono ?_
          rintro e w1 ⟨rfl, b1⟩
          rw [HF.out]
          have c1 := b0.trans (b1.mono b0.size)
          have HR1 := Lib.hid (HR.out.below b1)
          obtain ⟨g1, r0, r1, r2, r3, r4⟩ := HR1.out
          go_wp2_with fail
          refine (refcheckname_any r.loc _ (by omega)).mono ?_
          rintro e w2 ⟨rfl, b2⟩
          rw [HL.out]
          have c2 := c1.trans (b2.mono c1.size)
          have HR2 := Lib.hid (HR1.out.below b2)
          obtain ⟨g2, s0, s1, s2, s3, s4⟩ := HR2.out
          go_wp2_with fail
          refine (refcheckname_any r.rem _ (by omega)).mono ?_
          rintro e w3 ⟨rfl, b3⟩
          rw [HM.out]
          have c3 := c2.trans (b3.mono c2.size)
          obtain ⟨g3, t0, t1, t2, t3, t4⟩ := HR2.out.below b3
          go_wp2
          go_ret
          exact ⟨ret_int Hz.out.symm, c3⟩

theorem rst_size' (n f : ByteArray) : (rst n f).size ≤ n.size := by unfold rst; rw [ByteArray.size_extract]; omega
theorem Pl.trn_no' {r : Rl} {n f t : ByteArray} (h : (hp n f && (decide (ckR r = 0) && (mtB r.pat (rst n f) && (nameB n && nameB (t ++ rst n f))))) = false) : trn r n f t = (⟨#[]⟩, false) := by
  unfold trn; rw [h]; rfl

set_option maxHeartbeats 2000000 in
theorem joined_any (r : Rl) (n f t : ByteArray) (w : World) (hr : r.fits) (hn : n.size ≤ 140737488351232) (hf : f.size ≤ 140737488351232) (ht : t.size ≤ 140737488351232) :
    Calls Tryd.prog 30 #[ruV r, .string n, .string f, .string t] w fun e w' => e = .returned (.tuple #[.string (trn r n f t).1, .bool (trn r n f t).2]) ∧ Below w.heap.size w w' := by
  have HFit := Lib.hid hr
  obtain ⟨p0, p1, p2, p3, p4, p5, p6⟩ := hr
  have b0 : Below w.heap.size w (w.alloc (.cells (ruC r) 27)) := (Below.refl _ _).alloc (Nat.le_refl _) _
  have R0 := RuAt.new w r 27
  obtain ⟨W0, hW0⟩ : ∃ W0, w.alloc (.cells (ruC r) 27) = W0 := ⟨_, rfl⟩
  have HW := Lib.hid hW0
  rw [hW0] at b0 R0
  have HR := Lib.hid R0
  obtain ⟨g0, q0, q1, q2, q3, q4⟩ := R0
  have hrs := rst_size' n f
  clear hW0
  unfold ruV
  unfold ruC at HW
  by_cases h2 : ckR r = 0
  · have HC := Lib.hid h2
    by_cases hlt : n.size < f.size
    · have HZ := Lib.hid (trn_no' (r := r) (n := n) (f := f) (t := t) (by rw [hp_short hlt]; rfl))
      clear h2
      go_enter Tryd.func30, Tryd.ntmps30
      go_wp2_with fail
      rw [HW.out]
      refine (refrcheck_any r _ HFit.out).mono ?_
      rintro e w1 ⟨rfl, b1⟩
      rw [HC.out]
      have c1 := b0.trans (b1.mono b0.size)
      have HR1 := Lib.hid (HR.out.below b1)
      obtain ⟨g1, r0, r1, r2, r3, r4⟩ := HR1.out
      go_wp2
      go_ret2
      exact ⟨ret2 (val_bytes (by rw [HZ.out])) (val_bool (by rw [HZ.out])), c1⟩
    · have hle : f.size ≤ n.size := by omega
      have htk := hp_take n f
      cases h1 : hp n f
      · have e1 : ((n.extract 0 f.size).toList == f.toList) = false := htk.trans h1
        have e2 : ((n.extract 0 f.size).toList != f.toList) = true := by unfold bne; rw [e1]; rfl
        have HZ := Lib.hid (trn_no' (r := r) (n := n) (f := f) (t := t) (by rw [h1]; rfl))
        clear h1 h2 htk
        go_enter Tryd.func30, Tryd.ntmps30
        go_wp2_with fail
        rw [HW.out]
        refine (refrcheck_any r _ HFit.out).mono ?_
        rintro e w1 ⟨rfl, b1⟩
        rw [HC.out]
        have c1 := b0.trans (b1.mono b0.size)
        have HR1 := Lib.hid (HR.out.below b1)
        obtain ⟨g1, r0, r1, r2, r3, r4⟩ := HR1.out
        go_wp2
        go_ret2
        exact ⟨ret2 (val_bytes (by rw [HZ.out])) (val_bool (by rw [HZ.out])), c1⟩
      · have e1 : ((n.extract 0 f.size).toList == f.toList) = true := htk.trans h1
        have e2 : ((n.extract 0 f.size).toList != f.toList) = false := by unfold bne; rw [e1]; rfl
        cases h3 : mtB r.pat (rst n f) <;> cases h4 : nameB n <;> cases h5 : nameB (t ++ rst n f)
        rotate_left 7
        · have HZ := Lib.hid (show trn r n f t = (t ++ rst n f, true) by unfold trn; rw [h1, h2, h3, h4, h5]; rfl)
          have H3 := Lib.hid h3
          have H4 := Lib.hid (nameC_ok h4)
          have H5 := Lib.hid (nameC_ok h5)
          clear h1 h2 h3 h4 h5 htk
          go_enter Tryd.func30, Tryd.ntmps30
          go_wp2_with fail
          rw [HW.out]
          refine (refrcheck_any r _ HFit.out).mono ?_
          rintro e w1 ⟨rfl, b1⟩
          rw [HC.out]
          have c1 := b0.trans (b1.mono b0.size)
          have HR1 := Lib.hid (HR.out.below b1)
          obtain ⟨g1, r0, r1, r2, r3, r4⟩ := HR1.out
          go_wp2_with fail
          refine (refmatch_any r.pat (rst n f) _ (by omega) (by omega)).mono ?_
          rintro e w2 ⟨rfl, b2⟩
          rw [H3.out]
          have c2 := c1.trans (b2.mono c1.size)
          go_wp2_with fail
          refine (refcheckname_any n _ (by omega)).mono ?_
          rintro e w3 ⟨rfl, b3⟩
          rw [H4.out]
          have c3 := c2.trans (b3.mono c2.size)
          go_wp2_with fail
          refine (refcheckname_any (t ++ rst n f) _ (by rw [ByteArray.size_append]; omega)).mono ?_
          rintro e w4 ⟨rfl, b4⟩
          rw [H5.out]
          have c4 := c3.trans (b4.mono c3.size)
          go_wp2
          go_ret2
          exact ⟨ret2 (val_bytes (by rw [HZ.out]; rfl)) (val_bool (by rw [HZ.out])), c4⟩
        all_goals
          have HZ := Lib.hid (trn_no' (r := r) (n := n) (f := f) (t := t) (by rw [h3, h4, h5]; simp))
          have H3 := Lib.hid h3
          have H4 := Lib.hid (show nameC n = _ by first | exact nameC_ok h4 | exact nameC_bad h4)
          have H5 := Lib.hid (show nameC (t ++ rst n f) = _ by first | exact nameC_ok h5 | exact nameC_bad h5)
          clear h1 h2 h3 h4 h5 htk
          go_enter Tryd.func30, Tryd.ntmps30
          go_wp2_with fail
          rw [HW.out]
          refine (refrcheck_any r _ HFit.out).mono ?_
          rintro e w1 ⟨rfl, b1⟩
          rw [HC.out]
          have c1 := b0.trans (b1.mono b0.size)
          have HR1 := Lib.hid (HR.out.below b1)
          obtain ⟨g1, r0, r1, r2, r3, r4⟩ := HR1.out
          go_wp2_with fail
          refine (refmatch_any r.pat (rst n f) _ (by omega) (by omega)).mono ?_
          rintro e w2 ⟨rfl, b2⟩
          rw [H3.out]
          have c2 := c1.trans (b2.mono c1.size)
          go_wp2_with fail
          refine (refcheckname_any n _ (by omega)).mono ?_
          rintro e w3 ⟨rfl, b3⟩
          rw [H4.out]
          have c3 := c2.trans (b3.mono c2.size)
          go_wp2_with fail
          refine (refcheckname_any (t ++ rst n f) _ (by rw [ByteArray.size_append]; omega)).mono ?_
          rintro e w4 ⟨rfl, b4⟩
          rw [H5.out]
          have c4 := c3.trans (b4.mono c3.size)
          go_wp2
          go_ret2
          exact ⟨ret2 (val_bytes (by rw [HZ.out])) (val_bool (by rw [HZ.out])), c4⟩
  · have HZ := Lib.hid (trn_ck (n := n) (f := f) (t := t) h2)
    have hck := ckR_bd r
    obtain ⟨c, hc⟩ : ∃ c, ckR r = c := ⟨_, rfl⟩
    rw [hc] at h2 hck
    have hck0 := hck.1
    have hck1 := hck.2
    have h2a : (c == 0) = false := beq_eq_false_iff_ne.2 h2
    have h2b : (c != 0) = true := by rw [bne_iff_ne]; exact h2
    have HC := Lib.hid hc
    clear h2 hc hck
    go_enter Tryd.func30, Tryd.ntmps30
    go_wp2_with fail
    rw [HW.out]
    refine (refrcheck_any r _ HFit.out).mono ?_
    rintro e w1 ⟨rfl, b1⟩
    rw [HC.out]
    have c1 := b0.trans (b1.mono b0.size)
    have HR1 := Lib.hid (HR.out.below b1)
    obtain ⟨g1, r0, r1, r2, r3, r4⟩ := HR1.out
    go_wp2
    go_ret2
    exact ⟨ret2 (val_bytes (by rw [HZ.out])) (val_bool (by rw [HZ.out])), c1⟩

theorem reftoremote_any (r : Rl) (n : ByteArray) (w : World) (hr : r.fits) (hn : n.size ≤ 140737488351232) :
    Calls Tryd.prog 17 #[ruV r, .string n] w fun e w' => e = .returned (.tuple #[.string (toRem r n).1, .bool (toRem r n).2]) ∧ Below w.heap.size w w' := by
  have HFit := Lib.hid hr
  obtain ⟨p0, p1, p2, p3, p4, p5, p6⟩ := hr
  have b0 : Below w.heap.size w (w.alloc (.cells (ruC r) 27)) := (Below.refl _ _).alloc (Nat.le_refl _) _
  have R0 := RuAt.new w r 27
  obtain ⟨W0, hW0⟩ : ∃ W0, w.alloc (.cells (ruC r) 27) = W0 := ⟨_, rfl⟩
  have HW := Lib.hid hW0
  rw [hW0] at b0 R0
  have HR := Lib.hid R0
  obtain ⟨g0, q0, q1, q2, q3, q4⟩ := R0
  clear hW0
  unfold ruV
  unfold ruC at HW
  have hz := toRem_ref r n
  by_cases h : r.dir = 0
  · have HZ := Lib.hid (hz.trans (if_neg (by omega)))
    have h1 : (r.dir == 0) = true := beq_iff_eq.2 h
    have h2 : (r.dir != 0) = false := by unfold bne; rw [h1]; rfl
    clear h hz
    go_enter Tryd.func17, Tryd.ntmps17
    go_wp2_with fail
    rw [HW.out]
    refine (joined_any r n r.loc r.rem _ HFit.out hn (by omega) (by omega)).mono ?_
    rintro e w1 ⟨rfl, b1⟩
    go_wp2
    go_ret2
    exact ⟨ret2 (val_bytes (by rw [HZ.out])) (val_bool (by rw [HZ.out])), b0.trans (b1.mono b0.size)⟩
  · have h1 : (r.dir == 0) = false := beq_eq_false_iff_ne.2 h
    have h2 : (r.dir != 0) = true := by unfold bne; rw [h1]; rfl
    by_cases h' : r.dir = 2
    · have HZ := Lib.hid (hz.trans (if_neg (by omega)))
      have h3 : (r.dir == 2) = true := beq_iff_eq.2 h'
      have h4 : (r.dir != 2) = false := by unfold bne; rw [h3]; rfl
      clear h h' hz
      go_enter Tryd.func17, Tryd.ntmps17
      go_wp2_with fail
      rw [HW.out]
      refine (joined_any r n r.loc r.rem _ HFit.out hn (by omega) (by omega)).mono ?_
      rintro e w1 ⟨rfl, b1⟩
      go_wp2
      go_ret2
      exact ⟨ret2 (val_bytes (by rw [HZ.out])) (val_bool (by rw [HZ.out])), b0.trans (b1.mono b0.size)⟩
    · have HZ := Lib.hid (hz.trans (if_pos ⟨h, h'⟩))
      have h3 : (r.dir == 2) = false := beq_eq_false_iff_ne.2 h'
      have h4 : (r.dir != 2) = true := by unfold bne; rw [h3]; rfl
      clear h h' hz
      go_enter Tryd.func17, Tryd.ntmps17
      go_wp2
      go_ret2
      refine ⟨ret2 (val_bytes (by rw [HZ.out])) (val_bool (by rw [HZ.out])), ?_⟩
      exact (Below.refl _ _).alloc (Nat.le_refl _) _

theorem reftolocal_any (r : Rl) (n : ByteArray) (w : World) (hr : r.fits) (hn : n.size ≤ 140737488351232) :
    Calls Tryd.prog 19 #[ruV r, .string n] w fun e w' => e = .returned (.tuple #[.string (toLoc r n).1, .bool (toLoc r n).2]) ∧ Below w.heap.size w w' := by
  have HFit := Lib.hid hr
  obtain ⟨p0, p1, p2, p3, p4, p5, p6⟩ := hr
  have b0 : Below w.heap.size w (w.alloc (.cells (ruC r) 27)) := (Below.refl _ _).alloc (Nat.le_refl _) _
  have R0 := RuAt.new w r 27
  obtain ⟨W0, hW0⟩ : ∃ W0, w.alloc (.cells (ruC r) 27) = W0 := ⟨_, rfl⟩
  have HW := Lib.hid hW0
  rw [hW0] at b0 R0
  have HR := Lib.hid R0
  obtain ⟨g0, q0, q1, q2, q3, q4⟩ := R0
  clear hW0
  unfold ruV
  unfold ruC at HW
  have hz := toLoc_ref r n
  by_cases h : r.dir = 1
  · have HZ := Lib.hid (hz.trans (if_neg (by omega)))
    have h1 : (r.dir == 1) = true := beq_iff_eq.2 h
    have h2 : (r.dir != 1) = false := by unfold bne; rw [h1]; rfl
    clear h hz
    go_enter Tryd.func19, Tryd.ntmps19
    go_wp2_with fail
    rw [HW.out]
    refine (joined_any r n r.rem r.loc _ HFit.out hn (by omega) (by omega)).mono ?_
    rintro e w1 ⟨rfl, b1⟩
    go_wp2
    go_ret2
    exact ⟨ret2 (val_bytes (by rw [HZ.out])) (val_bool (by rw [HZ.out])), b0.trans (b1.mono b0.size)⟩
  · have h1 : (r.dir == 1) = false := beq_eq_false_iff_ne.2 h
    have h2 : (r.dir != 1) = true := by unfold bne; rw [h1]; rfl
    by_cases h' : r.dir = 2
    · have HZ := Lib.hid (hz.trans (if_neg (by omega)))
      have h3 : (r.dir == 2) = true := beq_iff_eq.2 h'
      have h4 : (r.dir != 2) = false := by unfold bne; rw [h3]; rfl
      clear h h' hz
      go_enter Tryd.func19, Tryd.ntmps19
      go_wp2_with fail
      rw [HW.out]
      refine (joined_any r n r.rem r.loc _ HFit.out hn (by omega) (by omega)).mono ?_
      rintro e w1 ⟨rfl, b1⟩
      go_wp2
      go_ret2
      exact ⟨ret2 (val_bytes (by rw [HZ.out])) (val_bool (by rw [HZ.out])), b0.trans (b1.mono b0.size)⟩
    · have HZ := Lib.hid (hz.trans (if_pos ⟨h, h'⟩))
      have h3 : (r.dir == 2) = false := beq_eq_false_iff_ne.2 h'
      have h4 : (r.dir != 2) = true := by unfold bne; rw [h3]; rfl
      clear h h' hz
      go_enter Tryd.func19, Tryd.ntmps19
      go_wp2
      go_ret2
      refine ⟨ret2 (val_bytes (by rw [HZ.out])) (val_bool (by rw [HZ.out])), ?_⟩
      exact (Below.refl _ _).alloc (Nat.le_refl _) _
end Go.Proofs.YtdjiioidkgppjaaDoor
