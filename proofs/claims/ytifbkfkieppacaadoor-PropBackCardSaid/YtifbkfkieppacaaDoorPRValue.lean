/- The walk of a reader's value (package prop): one property's value is read. -/
import Derived.Test.YtifbkfkieppacaaDoorPReader
import Derived.Test.YtifbkfkieppacaaDoorRdPlain
import Derived.Test.YtifbkfkieppacaaDoorTabsMod
namespace Go.Proofs.YtifbkfkieppacaaDoor
set_option linter.unusedVariables false
open Go.RowKit Pl

theorem to_below {P : Program} {f : Nat} {args : Array Value} {w : World} {v : Ending} (h : Calls P f args w fun e w' => e = v ∧ w = w') : Calls P f args w fun e w' => e = v ∧ Below w.heap.size w w' :=
  h.mono fun _ _ h => ⟨h.1, h.2 ▸ Below.refl _ _⟩
/-- What a reader has behind a value, and the property. -/
def RdPost (w w' : World) (R Q : Nat) (s : ByteArray) (id : Int) : Option (Pp × Int) → Prop
  | some (p, to) => Blk w' R (rdA s to false) 69 ∧ Blk w' Q (ppA p) 39 ∧ Mod (fun k => k = R ∨ k = Q) w w'
  | none => (∃ a, Blk w' R (rdA s a true) 69) ∧ (∃ p, Blk w' Q (ppA p) 39) ∧ Mod (fun k => k = R ∨ k = Q) w w'
theorem S4b.of_blk {X : World} {B : Nat} {p : Pp} {T : TypeId} (h : Blk X B (ppA p) T) : S4b X B p := ⟨h.cell 0, h.cell 1, h.cell 2, h.cell 3⟩
theorem closure_any (s : ByteArray) (a k : Int) (B : Nat) (w : World) (hs : s.size ≤ 140737488351232) (h0 : -9223372036854775808 ≤ a) (h1 : a ≤ 9223372036854775807) (hB : w.cell? ⟨B, 0, none⟩ = some (.int .i64 k)) :
    Calls Tryd.prog 46 #[.string s, .int .i64 a, .pointer (some ⟨B, 0, none⟩)] w fun e w' => e = .returned (.tuple #[.int .i64 (getF s a (wid k)).1, .int .i64 (getF s a (wid k)).2.1, .int .u8 (getF s a (wid k)).2.2]) ∧ Below w.heap.size w w' := by
  have C := Lib.hid (getfixed_all s a (wid k) w hs h0 h1)
  clear h0 h1 hs
  go_enter Tryd.func46, Tryd.ntmps46
  go_wp2_with fail
  refine (width_any k _).mono ?_
  rintro e w1 ⟨rfl, rfl⟩
  go_wp2_with fail
  refine C.out.mono ?_
  rintro e w1 ⟨rfl, rfl⟩
  go_wp2
  go_ret3
  exact ⟨rfl, Below.refl _ _⟩

set_option maxRecDepth 100000 in
set_option maxHeartbeats 4000000 in
theorem prvalue_any (R Q : Nat) (s : ByteArray) (a id : Int) (w : World) (hs : s.size ≤ 140737488351232) (h0 : -9223372036854775808 ≤ a) (h1 : a ≤ 9223372036854775807) (hR : Blk w R (rdA s a false) 69) (hQ : Blk w Q (ppA ⟨id, 0, noS, noS⟩) 39) (hRQ : R ≠ Q) (hNR : NoTab R) (hNQ : NoTab Q) (hT : Tabs w) :
    Calls Tryd.prog 27 #[.pointer (some ⟨R, 0, none⟩), .pointer (some ⟨Q, 0, none⟩)] w fun e w' => e = .returned (.tuple #[]) ∧ RdPost w w' R Q s id (rdv s id a) := by
  obtain ⟨k, hk⟩ : ∃ k, kindOf id = k := ⟨_, rfl⟩
  have CK : ∀ X : World, Calls Tryd.prog 14 #[.int .i64 id] X fun e w' => e = .returned (.int .i64 k) ∧ X = w' := fun X => by rw [← hk]; exact kind_any id X
  have hq0 := hQ.cell 0
  simp only [ppA, List.getElem?_toArray, List.getElem?_cons_zero] at hq0
  have b0 : Below w.heap.size w (w.alloc (.cells #[.int .i64 k] 42)) := (Below.refl _ _).alloc (Nat.le_refl _) _
  have hK : Blk (w.alloc (.cells #[.int .i64 k] 42)) w.heap.size #[.int .i64 k] 42 := Blk.new _ _ _
  have hk0 := hK.cell 0
  simp only [List.getElem?_toArray, List.getElem?_cons_zero] at hk0
  obtain ⟨W, hW⟩ : ∃ W, w.alloc (.cells #[.int .i64 k] 42) = W := ⟨_, rfl⟩
  rw [hW] at b0 hK hk0
  have HR := Lib.hid (hR.of_below b0)
  have HQ := Lib.hid (hQ.of_below b0)
  have HK := Lib.hid hK
  have B0 := Lib.hid b0
  have HT := Lib.hid (hT.below b0)
  have CK := Lib.hid CK
  have HKD := Lib.hid hk
  have HW := Lib.hid hW
  have HS := Lib.hid hs
  have HNR := Lib.hid hNR
  have HNQ := Lib.hid hNQ
  have HA := Lib.hid (And.intro h0 h1)
  clear hR hQ hT hNR hNQ hK b0 hk hs h0 h1 hW
  by_cases h4 : k = 4
  · subst h4
    obtain ⟨⟨n, to, c⟩, hg⟩ : ∃ g, getV s a = g := ⟨_, rfl⟩
    have CF := number_any 25 #[] R s a n to c W HR.out (enters_of Tryd.func25 (by kernel_rfl) rfl) (fun X hb => by
      have h := to_below (get_all s a X HS.out HA.out.1 HA.out.2)
      rw [hg] at h
      exact h)
    have HG := Lib.hid hg
    by_cases hc : c = 0
    · subst hc
      rw [if_pos rfl, if_pos rfl, show ((0 : Int) != 0) = false from rfl] at CF
      have CF := Lib.hid CF
      have HV : Hid (rdv s id a = some (⟨id, n, noS, noS⟩, to)) := Lib.hid (by unfold rdv; simp [HKD.out, HG.out])
      clear hg
      go_enter Tryd.func27, Tryd.ntmps27
      go_wp2_with fail
      refine (CK.out w).mono ?_
      rintro e w1 ⟨rfl, rfl⟩
      go_wp2_with fail
      rw [HW.out]
      refine CF.out.mono ?_
      rintro e w2 ⟨rfl, r2, m2⟩
      have Q2 := Lib.hid (HQ.out.mod m2 (fun e => hRQ e.symm))
      have q2 := Q2.out.cell 1
      simp only [ppA, List.getElem?_toArray, List.getElem?_cons_zero, List.getElem?_cons_succ] at q2
      have k2 := Q2.out.frozen 1
      have R2 := Lib.hid r2
      have M2 := Lib.hid ((Mod.of_below (S := fun k => k = R ∨ k = Q) B0.out).then m2 (fun _ _ h => .inl h))
      clear r2 m2
      go_wp2
      go_end0
      exact ⟨rfl, by rw [HV.out]; exact ⟨R2.out.other hRQ _ _, Q2.out.set _ _, M2.out.setCell (.inl (.inr rfl)) _⟩⟩
    · have e1 : (c != 0) = true := by rw [bne, beq_eq_false_iff_ne.2 hc]; rfl
      rw [if_neg hc, if_neg hc, e1] at CF
      have CF := Lib.hid CF
      have HV : Hid (rdv s id a = none) := Lib.hid (by unfold rdv; simp [HKD.out, HG.out, hc])
      clear hg e1
      go_enter Tryd.func27, Tryd.ntmps27
      go_wp2_with fail
      refine (CK.out w).mono ?_
      rintro e w1 ⟨rfl, rfl⟩
      go_wp2_with fail
      rw [HW.out]
      refine CF.out.mono ?_
      rintro e w2 ⟨rfl, r2, m2⟩
      have Q2 := Lib.hid (HQ.out.mod m2 (fun e => hRQ e.symm))
      have q2 := Q2.out.cell 1
      simp only [ppA, List.getElem?_toArray, List.getElem?_cons_zero, List.getElem?_cons_succ] at q2
      have k2 := Q2.out.frozen 1
      have R2 := Lib.hid r2
      have M2 := Lib.hid ((Mod.of_below (S := fun k => k = R ∨ k = Q) B0.out).then m2 (fun _ _ h => .inl h))
      clear r2 m2
      go_wp2
      go_end0
      exact ⟨rfl, by rw [HV.out]; exact ⟨⟨_, R2.out.other hRQ _ _⟩, ⟨⟨id, 0, noS, noS⟩, Q2.out.set _ _⟩, M2.out.setCell (.inl (.inr rfl)) _⟩⟩
  · by_cases h5 : k = 5
    · subst h5
      obtain ⟨⟨n, to, c⟩, hg⟩ : ∃ g, getD s a = g := ⟨_, rfl⟩
      have CF := string_any 44 #[] R s n a to c W HR.out (enters_of Tryd.func44 (by kernel_rfl) rfl) (fun X hb => by
        have h := to_below (getdata_all s a X HS.out HA.out.1 HA.out.2)
        rw [hg] at h
        exact h)
      have HG := Lib.hid hg
      by_cases hc : c = 0
      · subst hc
        rw [if_pos rfl, if_pos rfl, show ((0 : Int) != 0) = false from rfl] at CF
        have CF := Lib.hid CF
        have HV : Hid (rdv s id a = some (⟨id, 0, n, noS⟩, to)) := Lib.hid (by unfold rdv; simp [HKD.out, HG.out])
        clear hg
        go_enter Tryd.func27, Tryd.ntmps27
        go_wp2_with fail
        refine (CK.out w).mono ?_
        rintro e w1 ⟨rfl, rfl⟩
        go_wp2_with fail
        rw [HW.out]
        refine CF.out.mono ?_
        rintro e w2 ⟨rfl, r2, m2⟩
        have Q2 := Lib.hid (HQ.out.mod m2 (fun e => hRQ e.symm))
        have q2 := Q2.out.cell 2
        simp only [ppA, List.getElem?_toArray, List.getElem?_cons_zero, List.getElem?_cons_succ] at q2
        have k2 := Q2.out.frozen 2
        have R2 := Lib.hid r2
        have M2 := Lib.hid ((Mod.of_below (S := fun k => k = R ∨ k = Q) B0.out).then m2 (fun _ _ h => .inl h))
        clear r2 m2
        go_wp2
        go_end0
        exact ⟨rfl, by rw [HV.out]; exact ⟨R2.out.other hRQ _ _, Q2.out.set _ _, M2.out.setCell (.inl (.inr rfl)) _⟩⟩
      · have e1 : (c != 0) = true := by rw [bne, beq_eq_false_iff_ne.2 hc]; rfl
        rw [if_neg hc, if_neg hc, e1] at CF
        have CF := Lib.hid CF
        have HV : Hid (rdv s id a = none) := Lib.hid (by unfold rdv; simp [HKD.out, HG.out, hc])
        clear hg e1
        go_enter Tryd.func27, Tryd.ntmps27
        go_wp2_with fail
        refine (CK.out w).mono ?_
        rintro e w1 ⟨rfl, rfl⟩
        go_wp2_with fail
        rw [HW.out]
        refine CF.out.mono ?_
        rintro e w2 ⟨rfl, r2, m2⟩
        have Q2 := Lib.hid (HQ.out.mod m2 (fun e => hRQ e.symm))
        have q2 := Q2.out.cell 2
        simp only [ppA, List.getElem?_toArray, List.getElem?_cons_zero, List.getElem?_cons_succ] at q2
        have k2 := Q2.out.frozen 2
        have R2 := Lib.hid r2
        have M2 := Lib.hid ((Mod.of_below (S := fun k => k = R ∨ k = Q) B0.out).then m2 (fun _ _ h => .inl h))
        clear r2 m2
        go_wp2
        go_end0
        exact ⟨rfl, by rw [HV.out]; exact ⟨⟨_, R2.out.other hRQ _ _⟩, ⟨⟨id, 0, noS, noS⟩, Q2.out.set _ _⟩, M2.out.setCell (.inl (.inr rfl)) _⟩⟩
    · by_cases h6 : k = 6
      · subst h6
        obtain ⟨⟨n, to, c⟩, hg⟩ : ∃ g, tget s a = g := ⟨_, rfl⟩
        have CF := string_any 45 #[] R s n a to c W HR.out (enters_of Tryd.func45 (by kernel_rfl) rfl) (fun X hb => by
          have h := (tget_any s a X HS.out HA.out.1 HA.out.2 (HT.out.below hb))
          rw [hg] at h
          exact h)
        have HG := Lib.hid hg
        by_cases hc : c = 0
        · subst hc
          rw [if_pos rfl, if_pos rfl, show ((0 : Int) != 0) = false from rfl] at CF
          have CF := Lib.hid CF
          have HV : Hid (rdv s id a = some (⟨id, 0, n, noS⟩, to)) := Lib.hid (by unfold rdv; simp [HKD.out, HG.out])
          clear hg
          go_enter Tryd.func27, Tryd.ntmps27
          go_wp2_with fail
          refine (CK.out w).mono ?_
          rintro e w1 ⟨rfl, rfl⟩
          go_wp2_with fail
          rw [HW.out]
          refine CF.out.mono ?_
          rintro e w2 ⟨rfl, r2, m2⟩
          have Q2 := Lib.hid (HQ.out.mod m2 (fun e => hRQ e.symm))
          have q2 := Q2.out.cell 2
          simp only [ppA, List.getElem?_toArray, List.getElem?_cons_zero, List.getElem?_cons_succ] at q2
          have k2 := Q2.out.frozen 2
          have R2 := Lib.hid r2
          have M2 := Lib.hid ((Mod.of_below (S := fun k => k = R ∨ k = Q) B0.out).then m2 (fun _ _ h => .inl h))
          clear r2 m2
          go_wp2
          go_end0
          exact ⟨rfl, by rw [HV.out]; exact ⟨R2.out.other hRQ _ _, Q2.out.set _ _, M2.out.setCell (.inl (.inr rfl)) _⟩⟩
        · have e1 : (c != 0) = true := by rw [bne, beq_eq_false_iff_ne.2 hc]; rfl
          rw [if_neg hc, if_neg hc, e1] at CF
          have CF := Lib.hid CF
          have HV : Hid (rdv s id a = none) := Lib.hid (by unfold rdv; simp [HKD.out, HG.out, hc])
          clear hg e1
          go_enter Tryd.func27, Tryd.ntmps27
          go_wp2_with fail
          refine (CK.out w).mono ?_
          rintro e w1 ⟨rfl, rfl⟩
          go_wp2_with fail
          rw [HW.out]
          refine CF.out.mono ?_
          rintro e w2 ⟨rfl, r2, m2⟩
          have Q2 := Lib.hid (HQ.out.mod m2 (fun e => hRQ e.symm))
          have q2 := Q2.out.cell 2
          simp only [ppA, List.getElem?_toArray, List.getElem?_cons_zero, List.getElem?_cons_succ] at q2
          have k2 := Q2.out.frozen 2
          have R2 := Lib.hid r2
          have M2 := Lib.hid ((Mod.of_below (S := fun k => k = R ∨ k = Q) B0.out).then m2 (fun _ _ h => .inl h))
          clear r2 m2
          go_wp2
          go_end0
          exact ⟨rfl, by rw [HV.out]; exact ⟨⟨_, R2.out.other hRQ _ _⟩, ⟨⟨id, 0, noS, noS⟩, Q2.out.set _ _⟩, M2.out.setCell (.inl (.inr rfl)) _⟩⟩
      · by_cases h7 : k = 7
        · subst h7
          obtain ⟨⟨n, to, c⟩, hg⟩ : ∃ g, tget s a = g := ⟨_, rfl⟩
          have CF := string_any 45 #[] R s n a to c W HR.out (enters_of Tryd.func45 (by kernel_rfl) rfl) (fun X hb => by
            have h := tget_any s a X HS.out HA.out.1 HA.out.2 (HT.out.below hb)
            rw [hg] at h
            exact h)
          have HG := Lib.hid hg
          by_cases hc : c = 0
          · subst hc
            have HTO := Lib.hid (tget_to HG.out HS.out)
            obtain ⟨⟨n2, to2, c2⟩, hg2⟩ : ∃ g, tget s to = g := ⟨_, rfl⟩
            have HG2 := Lib.hid hg2
            rw [if_pos rfl, if_pos rfl, show ((0 : Int) != 0) = false from rfl] at CF
            have CF := Lib.hid CF
            clear hg hg2
            by_cases hc2 : c2 = 0
            · subst hc2
              have HV : Hid (rdv s id a = some (⟨id, 0, n, n2⟩, to2)) := Lib.hid (by unfold rdv; simp [HKD.out, HG.out, HG2.out])
              go_enter Tryd.func27, Tryd.ntmps27
              go_wp2_with fail
              refine (CK.out w).mono ?_
              rintro e w1 ⟨rfl, rfl⟩
              go_wp2_with fail
              rw [HW.out]
              refine CF.out.mono ?_
              rintro e w2 ⟨rfl, r2, m2⟩
              have Q2 := Lib.hid (HQ.out.mod m2 (fun e => hRQ e.symm))
              have q2 := Q2.out.cell 2
              simp only [ppA, List.getElem?_toArray, List.getElem?_cons_zero, List.getElem?_cons_succ] at q2
              have k2 := Q2.out.frozen 2
              have R2 := Lib.hid r2
              have M2 := Lib.hid ((Mod.of_below (S := fun k => k = R ∨ k = Q) B0.out).then m2 (fun _ _ h => .inl h))
              have HT2 := Lib.hid (tabs_mod HT.out m2 HNR.out)
              have R3 := Lib.hid (R2.out.other (R' := Q) hRQ 2 (.string n))
              have Q3 : Hid (Blk _ Q (ppA ⟨id, 0, n, noS⟩) 39) := Lib.hid (Q2.out.set 2 (.string n))
              have M3 := Lib.hid (M2.out.setCell (p := ⟨Q, 2, none⟩) (.inl (.inr rfl)) (.string n))
              have HT3 := Lib.hid (tabs_set HT2.out (p := ⟨Q, 2, none⟩) HNQ.out (.string n))
              have CG := string_any 45 #[] R s n2 to to2 0 _ R3.out (enters_of Tryd.func45 (by kernel_rfl) rfl) (fun X hb => by
                have h := (tget_any s to X HS.out HTO.out.1 HTO.out.2 ((HT3.out).below hb))
                rw [HG2.out] at h
                exact h)
              rw [if_pos rfl, if_pos rfl, show ((0 : Int) != 0) = false from rfl] at CG
              have CG := Lib.hid CG
              clear r2 m2
              go_wp2_with fail
              refine CG.out.mono ?_
              rintro e w4 ⟨rfl, r4, m4⟩
              have Q4 := Lib.hid (Q3.out.mod m4 (fun e => hRQ e.symm))
              have q4 := Q4.out.cell 3
              simp only [ppA, List.getElem?_toArray, List.getElem?_cons_zero, List.getElem?_cons_succ] at q4
              have k4 := Q4.out.frozen 3
              have R4 := Lib.hid r4
              have M4 := Lib.hid (M3.out.then m4 (fun _ _ h => .inl h))
              clear r4 m4
              go_wp2
              go_end0
              exact ⟨rfl, by rw [HV.out]; exact ⟨R4.out.other hRQ _ _, Q4.out.set _ _, M4.out.setCell (.inl (.inr rfl)) _⟩⟩
            · have HV : Hid (rdv s id a = none) := Lib.hid (by unfold rdv; simp [HKD.out, HG.out, HG2.out, hc2])
              go_enter Tryd.func27, Tryd.ntmps27
              go_wp2_with fail
              refine (CK.out w).mono ?_
              rintro e w1 ⟨rfl, rfl⟩
              go_wp2_with fail
              rw [HW.out]
              refine CF.out.mono ?_
              rintro e w2 ⟨rfl, r2, m2⟩
              have Q2 := Lib.hid (HQ.out.mod m2 (fun e => hRQ e.symm))
              have q2 := Q2.out.cell 2
              simp only [ppA, List.getElem?_toArray, List.getElem?_cons_zero, List.getElem?_cons_succ] at q2
              have k2 := Q2.out.frozen 2
              have R2 := Lib.hid r2
              have M2 := Lib.hid ((Mod.of_below (S := fun k => k = R ∨ k = Q) B0.out).then m2 (fun _ _ h => .inl h))
              have HT2 := Lib.hid (tabs_mod HT.out m2 HNR.out)
              have R3 := Lib.hid (R2.out.other (R' := Q) hRQ 2 (.string n))
              have Q3 : Hid (Blk _ Q (ppA ⟨id, 0, n, noS⟩) 39) := Lib.hid (Q2.out.set 2 (.string n))
              have M3 := Lib.hid (M2.out.setCell (p := ⟨Q, 2, none⟩) (.inl (.inr rfl)) (.string n))
              have HT3 := Lib.hid (tabs_set HT2.out (p := ⟨Q, 2, none⟩) HNQ.out (.string n))
              have CG := string_any 45 #[] R s n2 to to2 c2 _ R3.out (enters_of Tryd.func45 (by kernel_rfl) rfl) (fun X hb => by
                have h := (tget_any s to X HS.out HTO.out.1 HTO.out.2 ((HT3.out).below hb))
                rw [HG2.out] at h
                exact h)
              rw [if_neg hc2, if_neg hc2, show (c2 != 0) = true from by rw [bne, beq_eq_false_iff_ne.2 hc2]; rfl] at CG
              have CG := Lib.hid CG
              clear r2 m2
              go_wp2_with fail
              refine CG.out.mono ?_
              rintro e w4 ⟨rfl, r4, m4⟩
              have Q4 := Lib.hid (Q3.out.mod m4 (fun e => hRQ e.symm))
              have q4 := Q4.out.cell 3
              simp only [ppA, List.getElem?_toArray, List.getElem?_cons_zero, List.getElem?_cons_succ] at q4
              have k4 := Q4.out.frozen 3
              have R4 := Lib.hid r4
              have M4 := Lib.hid (M3.out.then m4 (fun _ _ h => .inl h))
              clear r4 m4
              go_wp2
              go_end0
              exact ⟨rfl, by rw [HV.out]; exact ⟨⟨_, R4.out.other hRQ _ _⟩, ⟨⟨id, 0, n, noS⟩, Q4.out.set _ _⟩, M4.out.setCell (.inl (.inr rfl)) _⟩⟩
          · have e1 : (c != 0) = true := by rw [bne, beq_eq_false_iff_ne.2 hc]; rfl
            rw [if_neg hc, if_neg hc, e1] at CF
            have CF := Lib.hid CF
            have HV : Hid (rdv s id a = none) := Lib.hid (by unfold rdv; simp [HKD.out, HG.out, hc])
            clear hg e1
            go_enter Tryd.func27, Tryd.ntmps27
            go_wp2_with fail
            refine (CK.out w).mono ?_
            rintro e w1 ⟨rfl, rfl⟩
            go_wp2_with fail
            rw [HW.out]
            refine CF.out.mono ?_
            rintro e w2 ⟨rfl, r2, m2⟩
            have Q2 := Lib.hid (HQ.out.mod m2 (fun e => hRQ e.symm))
            have q2 := Q2.out.cell 2
            simp only [ppA, List.getElem?_toArray, List.getElem?_cons_zero, List.getElem?_cons_succ] at q2
            have k2 := Q2.out.frozen 2
            have R2 := Lib.hid r2
            have M2 := Lib.hid ((Mod.of_below (S := fun k => k = R ∨ k = Q) B0.out).then m2 (fun _ _ h => .inl h))
            have HT2 := Lib.hid (tabs_mod HT.out m2 HNR.out)
            have R3 := Lib.hid (R2.out.other (R' := Q) hRQ 2 (.string noS))
            have Q3 : Hid (Blk _ Q (ppA ⟨id, 0, noS, noS⟩) 39) := Lib.hid (Q2.out.set 2 (.string noS))
            have M3 := Lib.hid (M2.out.setCell (p := ⟨Q, 2, none⟩) (.inl (.inr rfl)) (.string noS))
            have HT3 := Lib.hid (tabs_set HT2.out (p := ⟨Q, 2, none⟩) HNQ.out (.string noS))
            have CG := string_bad 45 #[] R s (tget s a).1 a (tget s a).2.1 (tget s a).2.2 _ R3.out (enters_of Tryd.func45 (by kernel_rfl) rfl) (fun X hb => tget_any s a X HS.out HA.out.1 HA.out.2 ((HT3.out).below hb))

            have CG := Lib.hid CG
            clear r2 m2
            go_wp2_with fail
            refine CG.out.mono ?_
            rintro e w4 ⟨rfl, r4, m4⟩
            have Q4 := Lib.hid (Q3.out.mod m4 (fun e => hRQ e.symm))
            have q4 := Q4.out.cell 3
            simp only [ppA, List.getElem?_toArray, List.getElem?_cons_zero, List.getElem?_cons_succ] at q4
            have k4 := Q4.out.frozen 3
            have R4 := Lib.hid r4
            have M4 := Lib.hid (M3.out.then m4 (fun _ _ h => .inl h))
            clear r4 m4
            go_wp2
            go_end0
            exact ⟨rfl, by rw [HV.out]; exact ⟨⟨_, R4.out.other hRQ _ _⟩, ⟨⟨id, 0, noS, noS⟩, Q4.out.set _ _⟩, M4.out.setCell (.inl (.inr rfl)) _⟩⟩
        · obtain ⟨⟨n, to, c⟩, hg⟩ : ∃ g, getF s a (wid k) = g := ⟨_, rfl⟩
          have CF := number_any 46 #[.pointer (some ⟨w.heap.size, 0, none⟩)] R s a n to c W HR.out (enters_of Tryd.func46 (by kernel_rfl) rfl) (fun X hb => by
            have h := closure_any s a k w.heap.size X HS.out HA.out.1 HA.out.2 ((HK.out.of_below hb).cell 0)
            rw [hg] at h
            exact h)
          have HG := Lib.hid hg
          have HK' : Hid (¬ k = 4 ∧ ¬ k = 5 ∧ ¬ k = 6 ∧ ¬ k = 7) := Lib.hid ⟨h4, h5, h6, h7⟩
          have e4 : (k == 4) = false := beq_eq_false_iff_ne.2 h4
          have e5 : (k == 5) = false := beq_eq_false_iff_ne.2 h5
          have e6 : (k == 6) = false := beq_eq_false_iff_ne.2 h6
          have e7 : (k == 7) = false := beq_eq_false_iff_ne.2 h7
          clear h4 h5 h6 h7
          by_cases hc : c = 0
          · subst hc
            rw [if_pos rfl, if_pos rfl, show ((0 : Int) != 0) = false from rfl] at CF
            have CF := Lib.hid CF
            have HV : Hid (rdv s id a = some (⟨id, n, noS, noS⟩, to)) := Lib.hid (by obtain ⟨a4, a5, a6, a7⟩ := HK'.out; unfold rdv; rw [HKD.out, if_neg a4, if_neg a5, if_neg a6, if_neg a7, HG.out]; rfl)
            clear hg
            go_enter Tryd.func27, Tryd.ntmps27
            go_wp2_with fail
            refine (CK.out w).mono ?_
            rintro e w1 ⟨rfl, rfl⟩
            go_wp2_with fail
            rw [HW.out]
            refine CF.out.mono ?_
            rintro e w2 ⟨rfl, r2, m2⟩
            have Q2 := Lib.hid (HQ.out.mod m2 (fun e => hRQ e.symm))
            have q2 := Q2.out.cell 1
            simp only [ppA, List.getElem?_toArray, List.getElem?_cons_zero, List.getElem?_cons_succ] at q2
            have k2 := Q2.out.frozen 1
            have R2 := Lib.hid r2
            have M2 := Lib.hid ((Mod.of_below (S := fun k => k = R ∨ k = Q) B0.out).then m2 (fun _ _ h => .inl h))
            clear r2 m2
            go_wp2
            go_end0
            exact ⟨rfl, by rw [HV.out]; exact ⟨R2.out.other hRQ _ _, Q2.out.set _ _, M2.out.setCell (.inl (.inr rfl)) _⟩⟩
          · have e1 : (c != 0) = true := by rw [bne, beq_eq_false_iff_ne.2 hc]; rfl
            rw [if_neg hc, if_neg hc, e1] at CF
            have CF := Lib.hid CF
            have HV : Hid (rdv s id a = none) := Lib.hid (by obtain ⟨a4, a5, a6, a7⟩ := HK'.out; unfold rdv; rw [HKD.out, if_neg a4, if_neg a5, if_neg a6, if_neg a7, HG.out]; exact if_neg hc)
            clear hg e1
            go_enter Tryd.func27, Tryd.ntmps27
            go_wp2_with fail
            refine (CK.out w).mono ?_
            rintro e w1 ⟨rfl, rfl⟩
            go_wp2_with fail
            rw [HW.out]
            refine CF.out.mono ?_
            rintro e w2 ⟨rfl, r2, m2⟩
            have Q2 := Lib.hid (HQ.out.mod m2 (fun e => hRQ e.symm))
            have q2 := Q2.out.cell 1
            simp only [ppA, List.getElem?_toArray, List.getElem?_cons_zero, List.getElem?_cons_succ] at q2
            have k2 := Q2.out.frozen 1
            have R2 := Lib.hid r2
            have M2 := Lib.hid ((Mod.of_below (S := fun k => k = R ∨ k = Q) B0.out).then m2 (fun _ _ h => .inl h))
            clear r2 m2
            go_wp2
            go_end0
            exact ⟨rfl, by rw [HV.out]; exact ⟨⟨_, R2.out.other hRQ _ _⟩, ⟨⟨id, 0, noS, noS⟩, Q2.out.set _ _⟩, M2.out.setCell (.inl (.inr rfl)) _⟩⟩
end Go.Proofs.YtifbkfkieppacaaDoor
