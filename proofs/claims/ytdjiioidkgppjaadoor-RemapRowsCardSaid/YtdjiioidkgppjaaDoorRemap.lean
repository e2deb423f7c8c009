/- The walks of package remap's Check, turned, ToRemote, ToLocal. -/
import Derived.Test.YtdjiioidkgppjaaDoorMatch
import Derived.Test.YtdjiioidkgppjaaDoorRemapPlain
import Derived.WalkSpells
import Derived.WalkLawsBesides
namespace Go.Proofs.YtdjiioidkgppjaaDoor
set_option linter.unusedVariables false
open Go.RowKit Pl Go.Shelf

/-- A rule lies in a block of its own. -/
def RuAt (W : World) (g : Nat) (r : Rl) : Prop :=
  g < W.heap.size ∧ W.cell? ⟨g, 0, none⟩ = some (.string r.pat) ∧ W.cell? ⟨g, 1, none⟩ = some (.int .i64 r.dir) ∧ W.cell? ⟨g, 2, none⟩ = some (.int .i64 r.qos) ∧ W.cell? ⟨g, 3, none⟩ = some (.string r.loc) ∧ W.cell? ⟨g, 4, none⟩ = some (.string r.rem)
theorem RuAt.below {W W' : World} {g : Nat} {r : Rl} (h : RuAt W g r) (hb : Below W.heap.size W W') : RuAt W' g r := by
  obtain ⟨h0, h1, h2, h3, h4, h5⟩ := h
  exact ⟨Nat.lt_of_lt_of_le h0 hb.size, (hb.cell (p := ⟨g, 0, none⟩) h0).trans h1, (hb.cell (p := ⟨g, 1, none⟩) h0).trans h2, (hb.cell (p := ⟨g, 2, none⟩) h0).trans h3, (hb.cell (p := ⟨g, 3, none⟩) h0).trans h4, (hb.cell (p := ⟨g, 4, none⟩) h0).trans h5⟩
theorem RuAt.new (w : World) (r : Rl) (T : TypeId) : RuAt (w.alloc (.cells (ruC r) T)) w.heap.size r := by
  refine ⟨by simp, ?_, ?_, ?_, ?_, ?_⟩ <;> (rw [World.cell?_alloc_mark]; rfl)

theorem prefix_any (s : ByteArray) (w : World) (hs : s.size ≤ 281474976710656) (hT : Tabs w) :
    Calls Tryd.prog 26 #[.string s] w fun e w' => e = .returned (.bool (pre s)) ∧ Below w.heap.size w w' := by
  have HT := Lib.hid hT
  clear hT
  by_cases h0 : s.size = 0
  · have he : s = ⟨#[]⟩ := ByteArray.ext (Array.eq_empty_of_size_eq_zero h0)
    have hemp : s.toList.isEmpty = true := by rw [he, ByteArray.toList_eq]; rfl
    have hnil : s.toList = [] := List.isEmpty_iff.1 hemp
    have Hz := Lib.hid (show pre s = true by unfold pre; rw [decide_eq_true h0]; rfl)
    clear he h0
    go_enter Tryd.func26, Tryd.ntmps26
    go_wp2
    go_ret
    exact ⟨ret_bool Hz.out.symm, Below.refl _ _⟩
  · have hemp : s.toList.isEmpty = false := by
      rw [ByteArray.toList_eq, List.isEmpty_eq_false_iff]
      intro hc
      exact h0 (congrArg List.length hc)
    have hnil : ¬ s.toList = [] := by rw [← List.isEmpty_iff, hemp]; simp
    have hp0 : pre s = nameB s := by unfold pre; rw [decide_eq_false h0]; rfl
    cases hn : nameB s
    · have Hc := Lib.hid (nameC_bad hn)
      have Hz := Lib.hid (hp0.trans hn)
      clear h0 hp0 hn
      go_enter Tryd.func26, Tryd.ntmps26
      go_wp2_with fail
      refine (checkname_any s _ hs HT.out).mono ?_
      rintro e w1 ⟨rfl, b1⟩
      rw [Hc.out]
      go_wp2
      go_ret
      exact ⟨ret_bool Hz.out.symm, b1⟩
    · have Hc := Lib.hid (nameC_ok hn)
      have Hz := Lib.hid (hp0.trans hn)
      clear h0 hp0 hn
      go_enter Tryd.func26, Tryd.ntmps26
      go_wp2_with fail
      refine (checkname_any s _ hs HT.out).mono ?_
      rintro e w1 ⟨rfl, b1⟩
      rw [Hc.out]
      go_wp2
      go_ret
      exact ⟨ret_bool Hz.out.symm, b1⟩

set_option maxHeartbeats 1000000 in
theorem rcheck_any (r : Rl) (w : World) (hr : r.fits) (hT : Tabs w) :
    Calls Tryd.prog 11 #[ruV r] w fun e w' => e = .returned (.int .u8 (ckR r)) ∧ Below w.heap.size w w' := by
  obtain ⟨p0, p1, p2, p3, p4, p5, p6⟩ := hr
  have b0 : Below w.heap.size w (w.alloc (.cells (ruC r) 26)) := (Below.refl _ _).alloc (Nat.le_refl _) _
  have HT := Lib.hid (hT.below b0)
  have R0 := RuAt.new w r 26
  obtain ⟨W0, hW0⟩ : ∃ W0, w.alloc (.cells (ruC r) 26) = W0 := ⟨_, rfl⟩
  have HW := Lib.hid hW0
  rw [hW0] at b0 HT R0
  have HR := Lib.hid R0
  obtain ⟨g0, q0, q1, q2, q3, q4⟩ := R0
  have hck : ckR r = if filtB r.pat then (if pre r.loc && pre r.rem then inC r.dir r.qos else 144) else 143 := rfl
  clear hT hW0
  unfold ruV
  unfold ruC at HW
  cases hf : filtB r.pat
  · have Hf := Lib.hid (filtC_bad hf)
    have Hz := Lib.hid (show ckR r = 143 by rw [hck, hf]; rfl)
    clear hck hf
    go_enter Tryd.func11, Tryd.ntmps11
    go_wp2_with fail
    rw [HW.out]
    refine (checkfilter_any r.pat _ (by omega) HT.out).mono ?_
    rintro e w1 ⟨rfl, b1⟩
    rw [Hf.out]
    go_wp2
    go_ret
    exact ⟨ret_int Hz.out.symm, b0.trans (b1.mono b0.size)⟩
  · have Hf := Lib.hid (filtC_ok hf)
    cases hl : pre r.loc
    · have Hz := Lib.hid (show ckR r = 144 by rw [hck, hf, hl]; rfl)
      have Hl := Lib.hid hl
      clear hck hf hl
      go_enter Tryd.func11, Tryd.ntmps11
      go_wp2_with fail
      rw [HW.out]
      refine (checkfilter_any r.pat _ (by omega) HT.out).mono ?_
      rintro e w1 ⟨rfl, b1⟩
      rw [Hf.out]
      have HT1 := Lib.hid (HT.out.below b1)
      have c1 := b0.trans (b1.mono b0.size)
      obtain ⟨g1, r0, r1, r2, r3, r4⟩ := HR.out.below b1
      go_wp2_with fail
      refine (prefix_any r.loc _ (by omega) HT1.out).mono ?_
      rintro e w2 ⟨rfl, b2⟩
      rw [Hl.out]
      have c2 := c1.trans (b2.mono c1.size)
      go_wp2
      go_ret
      exact ⟨ret_int Hz.out.symm, c2⟩
    · cases hrm : pre r.rem
      · have Hz := Lib.hid (show ckR r = 144 by rw [hck, hf, hl, hrm]; rfl)
        have Hl := Lib.hid hl
        have Hm := Lib.hid hrm
        clear hck hf hl hrm
        go_enter Tryd.func11, Tryd.ntmps11
        go_wp2_with fail
        rw [HW.out]
        refine (checkfilter_any r.pat _ (by omega) HT.out).mono ?_
        rintro e w1 ⟨rfl, b1⟩
        rw [Hf.out]
        have HT1 := Lib.hid (HT.out.below b1)
        have c1 := b0.trans (b1.mono b0.size)
        have HR1 := Lib.hid (HR.out.below b1)
        obtain ⟨g1, r0, r1, r2, r3, r4⟩ := HR1.out
        go_wp2_with fail
        refine (prefix_any r.loc _ (by omega) HT1.out).mono ?_
        rintro e w2 ⟨rfl, b2⟩
        rw [Hl.out]
        have HT2 := Lib.hid (HT1.out.below b2)
        have c2 := c1.trans (b2.mono c1.size)
        obtain ⟨g2, s0, s1, s2, s3, s4⟩ := HR1.out.below b2
        go_wp2_with fail
        refine (prefix_any r.rem _ (by omega) HT2.out).mono ?_
        rintro e w3 ⟨rfl, b3⟩
        rw [Hm.out]
        have c3 := c2.trans (b3.mono c2.size)
        go_wp2
        go_ret
        exact ⟨ret_int Hz.out.symm, c3⟩
      · have hz : ckR r = inC r.dir r.qos := by rw [hck, hf, hl, hrm]; rfl
        have Hl := Lib.hid hl
        have Hm := Lib.hid hrm
        have hic := inC_cases r.dir r.qos
        rw [← hz] at hic
        clear hck hf hl hrm hz
        rcases hic with ⟨i1, hz⟩ | ⟨i1, i2, hz⟩ | ⟨i1, i2, i3, hz⟩ | ⟨i1, i2, i3, i4, hz⟩ | ⟨i1, i2, i3, i4, hz⟩
        all_goals
          have Hz := Lib.hid hz
          clear hz
          go_enter Tryd.func11, Tryd.ntmps11
          go_wp2_with fail
          rw [HW.out]
          refine (checkfilter_any r.pat _ (by omega) HT.out).mono ?_
          rintro e w1 ⟨rfl, b1⟩
          rw [Hf.out]
          have HT1 := Lib.hid (HT.out.below b1)
          have c1 := b0.trans (b1.mono b0.size)
          have HR1 := Lib.hid (HR.out.below b1)
          obtain ⟨g1, r0, r1, r2, r3, r4⟩ := HR1.out
          go_wp2_with fail
          refine (prefix_any r.loc _ (by omega) HT1.out).mono ?_
          rintro e w2 ⟨rfl, b2⟩
          rw [Hl.out]
          have HT2 := Lib.hid (HT1.out.below b2)
          have c2 := c1.trans (b2.mono c1.size)
          have HR2 := Lib.hid (HR1.out.below b2)
          obtain ⟨g2, s0, s1, s2, s3, s4⟩ := HR2.out
          go_wp2_with fail
          refine (prefix_any r.rem _ (by omega) HT2.out).mono ?_
          rintro e w3 ⟨rfl, b3⟩
          rw [Hm.out]
          have c3 := c2.trans (b3.mono c2.size)
          obtain ⟨g3, t0, t1, t2, t3, t4⟩ := HR2.out.below b3
          go_wp2
          go_ret
          exact ⟨ret_int Hz.out.symm, c3⟩
end Go.Proofs.YtdjiioidkgppjaaDoor
