/- Parts of the proof, joined: PRValue, PGet, Fr, Gw1, PkM. -/
import Derived.Test.YtedapgeabpadaaaDoorH6P5
import Derived.Test.YtedapgeabpadaaaDoorH6P3
import Derived.BigQuiet
import Derived.Deep.QuietTactic
import Derived.ArgAppend
import Derived.Maps.OwnSet
import Derived.Test.YtedapgeabpadaaaDoorH6P4
/- The walk of a reader's value (package prop): one property's value is read. -/
namespace Go.Proofs.YtedapgeabpadaaaDoor
set_option linter.unusedVariables false
open Go.RowKit Pl

theorem to_below {P : Program} {f : Nat} {args : Array Value} {w : World} {v : Ending} (h : Calls P f args w fun e w' => e = v ∧ w = w') : Calls P f args w fun e w' => e = v ∧ Below w.heap.size w w' :=
  h.mono fun _ _ h => ⟨h.1, h.2 ▸ Below.refl _ _⟩
/-- What a reader has behind a value, and the property. -/
def RdPost (w w' : World) (R Q : Nat) (s : ByteArray) (id : Int) : Option (Pp × Int) → Prop
  | some (p, tu) => Blk w' R (rdA s tu false) 172 ∧ Blk w' Q (ppA p) 123 ∧ Mod (fun k => k = R ∨ k = Q) w w'
  | none => (∃ a, Blk w' R (rdA s a true) 172) ∧ (∃ p, Blk w' Q (ppA p) 123) ∧ Mod (fun k => k = R ∨ k = Q) w w'
theorem S4b.of_blk {X : World} {B : Nat} {p : Pp} {T : TypeId} (h : Blk X B (ppA p) T) : S4b X B p := ⟨h.cell 0, h.cell 1, h.cell 2, h.cell 3⟩
theorem closure_any (s : ByteArray) (a k : Int) (B : Nat) (w : World) (hs : s.size ≤ 140737488351232) (h0 : -9223372036854775808 ≤ a) (h1 : a ≤ 9223372036854775807) (hB : w.cell? ⟨B, 0, none⟩ = some (.int .i64 k)) :
    Calls Tryd.prog 114 #[.string s, .int .i64 a, .pointer (some ⟨B, 0, none⟩)] w fun e w' => e = .returned (.tuple #[.int .i64 (getF s a (wid k)).1, .int .i64 (getF s a (wid k)).2.1, .int .u8 (getF s a (wid k)).2.2]) ∧ Below w.heap.size w w' := by
  have C := Lib.hid (getfixed_all s a (wid k) w hs h0 h1)
  clear h0 h1 hs
  go_enter Tryd.func114, Tryd.ntmps114
  go_wp2_with fail
  refine (width_any k _).mono ?_
  rintro e w1 ⟨rfl, rfl⟩
  go_wp2_with fail
  refine C.out.mono ?_
  rintro e w1 ⟨rfl, rfl⟩
  go_wp2
  go_ret3
  exact ⟨rfl, Below.refl _ _⟩

set_option maxRecDepth 100000 in
set_option maxHeartbeats 4000000 in
theorem prvalue_any (R Q : Nat) (s : ByteArray) (a id : Int) (w : World) (hs : s.size ≤ 140737488351232) (h0 : -9223372036854775808 ≤ a) (h1 : a ≤ 9223372036854775807) (hR : Blk w R (rdA s a false) 172) (hQ : Blk w Q (ppA ⟨id, 0, noS, noS⟩) 123) (hRQ : R ≠ Q) (hNR : NoTab R) (hNQ : NoTab Q) (hT : Tabs w) :
    Calls Tryd.prog 100 #[.pointer (some ⟨R, 0, none⟩), .pointer (some ⟨Q, 0, none⟩)] w fun e w' => e = .returned (.tuple #[]) ∧ RdPost w w' R Q s id (rdv s id a) := by
  obtain ⟨k, hk⟩ : ∃ k, kindOf id = k := ⟨_, rfl⟩
  have CK : ∀ X : World, Calls Tryd.prog 93 #[.int .i64 id] X fun e w' => e = .returned (.int .i64 k) ∧ X = w' := fun X => by rw [← hk]; exact kind_any id X
  have hq0 := hQ.cell 0
  simp only [ppA, List.getElem?_toArray, List.getElem?_cons_zero] at hq0
  have b0 : Below w.heap.size w (w.alloc (.cells #[.int .i64 k] 164)) := (Below.refl _ _).alloc (Nat.le_refl _) _
  have hK : Blk (w.alloc (.cells #[.int .i64 k] 164)) w.heap.size #[.int .i64 k] 164 := Blk.new _ _ _
  have hk0 := hK.cell 0
  simp only [List.getElem?_toArray, List.getElem?_cons_zero] at hk0
  obtain ⟨W, hW⟩ : ∃ W, w.alloc (.cells #[.int .i64 k] 164) = W := ⟨_, rfl⟩
  rw [hW] at b0 hK hk0
  have HR := Lib.hid (hR.of_below b0)
  have HQ := Lib.hid (hQ.of_below b0)
  have HK := Lib.hid hK
  have B0 := Lib.hid b0
  have HT := Lib.hid (hT.below b0)
  have CK := Lib.hid CK
  have HKD := Lib.hid hk
  have HW := Lib.hid hW
  have HS := Lib.hid hs
  have HNR := Lib.hid hNR
  have HNQ := Lib.hid hNQ
  have HA := Lib.hid (And.intro h0 h1)
  clear hR hQ hT hNR hNQ hK b0 hk hs h0 h1 hW
  by_cases h4 : k = 4
  · subst h4
    obtain ⟨⟨n, tu, c⟩, hg⟩ : ∃ g, getV s a = g := ⟨_, rfl⟩
    have CF := number_any 31 #[] R s a n tu c W HR.out (enters_of Tryd.func31 (by kernel_rfl) rfl) (fun X hb => by
      have h := to_below (get_all s a X HS.out HA.out.1 HA.out.2)
      rw [hg] at h
      exact h)
    have HG := Lib.hid hg
    by_cases hc : c = 0
    · subst hc
      rw [if_pos rfl, if_pos rfl, show ((0 : Int) != 0) = false from rfl] at CF
      have CF := Lib.hid CF
      have HV : Hid (rdv s id a = some (⟨id, n, noS, noS⟩, tu)) := Lib.hid (by unfold rdv; simp [HKD.out, HG.out])
      clear hg
      go_enter Tryd.func100, Tryd.ntmps100
      go_wp2_with fail
      refine (CK.out w).mono ?_
      rintro e w1 ⟨rfl, rfl⟩
      go_wp2_with fail
      rw [HW.out]
      refine CF.out.mono ?_
      rintro e w2 ⟨rfl, r2, m2⟩
      have Q2 := Lib.hid (HQ.out.mod m2 (fun e => hRQ e.symm))
      have q2 := Q2.out.cell 1
      simp only [ppA, List.getElem?_toArray, List.getElem?_cons_zero, List.getElem?_cons_succ] at q2
      have k2 := Q2.out.frozen 1
      have R2 := Lib.hid r2
      have M2 := Lib.hid ((Mod.of_below (S := fun k => k = R ∨ k = Q) B0.out).then m2 (fun _ _ h => .inl h))
      clear r2 m2
      go_wp2
      go_end0
      exact ⟨rfl, by rw [HV.out]; exact ⟨R2.out.other hRQ _ _, Q2.out.set _ _, M2.out.setCell (.inl (.inr rfl)) _⟩⟩
    · have e1 : (c != 0) = true := by rw [bne, beq_eq_false_iff_ne.2 hc]; rfl
      rw [if_neg hc, if_neg hc, e1] at CF
      have CF := Lib.hid CF
      have HV : Hid (rdv s id a = none) := Lib.hid (by unfold rdv; simp [HKD.out, HG.out, hc])
      clear hg e1
      go_enter Tryd.func100, Tryd.ntmps100
      go_wp2_with fail
      refine (CK.out w).mono ?_
      rintro e w1 ⟨rfl, rfl⟩
      go_wp2_with fail
      rw [HW.out]
      refine CF.out.mono ?_
      rintro e w2 ⟨rfl, r2, m2⟩
      have Q2 := Lib.hid (HQ.out.mod m2 (fun e => hRQ e.symm))
      have q2 := Q2.out.cell 1
      simp only [ppA, List.getElem?_toArray, List.getElem?_cons_zero, List.getElem?_cons_succ] at q2
      have k2 := Q2.out.frozen 1
      have R2 := Lib.hid r2
      have M2 := Lib.hid ((Mod.of_below (S := fun k => k = R ∨ k = Q) B0.out).then m2 (fun _ _ h => .inl h))
      clear r2 m2
      go_wp2
      go_end0
      exact ⟨rfl, by rw [HV.out]; exact ⟨⟨_, R2.out.other hRQ _ _⟩, ⟨⟨id, 0, noS, noS⟩, Q2.out.set _ _⟩, M2.out.setCell (.inl (.inr rfl)) _⟩⟩
  · by_cases h5 : k = 5
    · subst h5
      obtain ⟨⟨n, tu, c⟩, hg⟩ : ∃ g, getD s a = g := ⟨_, rfl⟩
      have CF := string_any 98 #[] R s n a tu c W HR.out (enters_of Tryd.func98 (by kernel_rfl) rfl) (fun X hb => by
        have h := to_below (getdata_all s a X HS.out HA.out.1 HA.out.2)
        rw [hg] at h
        exact h)
      have HG := Lib.hid hg
      by_cases hc : c = 0
      · subst hc
        rw [if_pos rfl, if_pos rfl, show ((0 : Int) != 0) = false from rfl] at CF
        have CF := Lib.hid CF
        have HV : Hid (rdv s id a = some (⟨id, 0, n, noS⟩, tu)) := Lib.hid (by unfold rdv; simp [HKD.out, HG.out])
        clear hg
        go_enter Tryd.func100, Tryd.ntmps100
        go_wp2_with fail
        refine (CK.out w).mono ?_
        rintro e w1 ⟨rfl, rfl⟩
        go_wp2_with fail
        rw [HW.out]
        refine CF.out.mono ?_
        rintro e w2 ⟨rfl, r2, m2⟩
        have Q2 := Lib.hid (HQ.out.mod m2 (fun e => hRQ e.symm))
        have q2 := Q2.out.cell 2
        simp only [ppA, List.getElem?_toArray, List.getElem?_cons_zero, List.getElem?_cons_succ] at q2
        have k2 := Q2.out.frozen 2
        have R2 := Lib.hid r2
        have M2 := Lib.hid ((Mod.of_below (S := fun k => k = R ∨ k = Q) B0.out).then m2 (fun _ _ h => .inl h))
        clear r2 m2
        go_wp2
        go_end0
        exact ⟨rfl, by rw [HV.out]; exact ⟨R2.out.other hRQ _ _, Q2.out.set _ _, M2.out.setCell (.inl (.inr rfl)) _⟩⟩
      · have e1 : (c != 0) = true := by rw [bne, beq_eq_false_iff_ne.2 hc]; rfl
        rw [if_neg hc, if_neg hc, e1] at CF
        have CF := Lib.hid CF
        have HV : Hid (rdv s id a = none) := Lib.hid (by unfold rdv; simp [HKD.out, HG.out, hc])
        clear hg e1
        go_enter Tryd.func100, Tryd.ntmps100
        go_wp2_with fail
        refine (CK.out w).mono ?_
        rintro e w1 ⟨rfl, rfl⟩
        go_wp2_with fail
        rw [HW.out]
        refine CF.out.mono ?_
        rintro e w2 ⟨rfl, r2, m2⟩
        have Q2 := Lib.hid (HQ.out.mod m2 (fun e => hRQ e.symm))
        have q2 := Q2.out.cell 2
        simp only [ppA, List.getElem?_toArray, List.getElem?_cons_zero, List.getElem?_cons_succ] at q2
        have k2 := Q2.out.frozen 2
        have R2 := Lib.hid r2
        have M2 := Lib.hid ((Mod.of_below (S := fun k => k = R ∨ k = Q) B0.out).then m2 (fun _ _ h => .inl h))
        clear r2 m2
        go_wp2
        go_end0
        exact ⟨rfl, by rw [HV.out]; exact ⟨⟨_, R2.out.other hRQ _ _⟩, ⟨⟨id, 0, noS, noS⟩, Q2.out.set _ _⟩, M2.out.setCell (.inl (.inr rfl)) _⟩⟩
    · by_cases h6 : k = 6
      · subst h6
        obtain ⟨⟨n, tu, c⟩, hg⟩ : ∃ g, tget s a = g := ⟨_, rfl⟩
        have CF := string_any 82 #[] R s n a tu c W HR.out (enters_of Tryd.func82 (by kernel_rfl) rfl) (fun X hb => by
          have h := (tget_any s a X HS.out HA.out.1 HA.out.2 (HT.out.below hb))
          rw [hg] at h
          exact h)
        have HG := Lib.hid hg
        by_cases hc : c = 0
        · subst hc
          rw [if_pos rfl, if_pos rfl, show ((0 : Int) != 0) = false from rfl] at CF
          have CF := Lib.hid CF
          have HV : Hid (rdv s id a = some (⟨id, 0, n, noS⟩, tu)) := Lib.hid (by unfold rdv; simp [HKD.out, HG.out])
          clear hg
          go_enter Tryd.func100, Tryd.ntmps100
          go_wp2_with fail
          refine (CK.out w).mono ?_
          rintro e w1 ⟨rfl, rfl⟩
          go_wp2_with fail
          rw [HW.out]
          refine CF.out.mono ?_
          rintro e w2 ⟨rfl, r2, m2⟩
          have Q2 := Lib.hid (HQ.out.mod m2 (fun e => hRQ e.symm))
          have q2 := Q2.out.cell 2
          simp only [ppA, List.getElem?_toArray, List.getElem?_cons_zero, List.getElem?_cons_succ] at q2
          have k2 := Q2.out.frozen 2
          have R2 := Lib.hid r2
          have M2 := Lib.hid ((Mod.of_below (S := fun k => k = R ∨ k = Q) B0.out).then m2 (fun _ _ h => .inl h))
          clear r2 m2
          go_wp2
          go_end0
          exact ⟨rfl, by rw [HV.out]; exact ⟨R2.out.other hRQ _ _, Q2.out.set _ _, M2.out.setCell (.inl (.inr rfl)) _⟩⟩
        · have e1 : (c != 0) = true := by rw [bne, beq_eq_false_iff_ne.2 hc]; rfl
          rw [if_neg hc, if_neg hc, e1] at CF
          have CF := Lib.hid CF
          have HV : Hid (rdv s id a = none) := Lib.hid (by unfold rdv; simp [HKD.out, HG.out, hc])
          clear hg e1
          go_enter Tryd.func100, Tryd.ntmps100
          go_wp2_with fail
          refine (CK.out w).mono ?_
          rintro e w1 ⟨rfl, rfl⟩
          go_wp2_with fail
          rw [HW.out]
          refine CF.out.mono ?_
          rintro e w2 ⟨rfl, r2, m2⟩
          have Q2 := Lib.hid (HQ.out.mod m2 (fun e => hRQ e.symm))
          have q2 := Q2.out.cell 2
          simp only [ppA, List.getElem?_toArray, List.getElem?_cons_zero, List.getElem?_cons_succ] at q2
          have k2 := Q2.out.frozen 2
          have R2 := Lib.hid r2
          have M2 := Lib.hid ((Mod.of_below (S := fun k => k = R ∨ k = Q) B0.out).then m2 (fun _ _ h => .inl h))
          clear r2 m2
          go_wp2
          go_end0
          exact ⟨rfl, by rw [HV.out]; exact ⟨⟨_, R2.out.other hRQ _ _⟩, ⟨⟨id, 0, noS, noS⟩, Q2.out.set _ _⟩, M2.out.setCell (.inl (.inr rfl)) _⟩⟩
      · by_cases h7 : k = 7
        · subst h7
          obtain ⟨⟨n, tu, c⟩, hg⟩ : ∃ g, tget s a = g := ⟨_, rfl⟩
          have CF := string_any 82 #[] R s n a tu c W HR.out (enters_of Tryd.func82 (by kernel_rfl) rfl) (fun X hb => by
            have h := tget_any s a X HS.out HA.out.1 HA.out.2 (HT.out.below hb)
            rw [hg] at h
            exact h)
          have HG := Lib.hid hg
          by_cases hc : c = 0
          · subst hc
            have HTO := Lib.hid (tget_to HG.out HS.out)
            obtain ⟨⟨n2, to2, c2⟩, hg2⟩ : ∃ g, tget s tu = g := ⟨_, rfl⟩
            have HG2 := Lib.hid hg2
            rw [if_pos rfl, if_pos rfl, show ((0 : Int) != 0) = false from rfl] at CF
            have CF := Lib.hid CF
            clear hg hg2
            by_cases hc2 : c2 = 0
            · subst hc2
              have HV : Hid (rdv s id a = some (⟨id, 0, n, n2⟩, to2)) := Lib.hid (by unfold rdv; simp [HKD.out, HG.out, HG2.out])
              go_enter Tryd.func100, Tryd.ntmps100
              go_wp2_with fail
              refine (CK.out w).mono ?_
              rintro e w1 ⟨rfl, rfl⟩
              go_wp2_with fail
              rw [HW.out]
              refine CF.out.mono ?_
              rintro e w2 ⟨rfl, r2, m2⟩
              have Q2 := Lib.hid (HQ.out.mod m2 (fun e => hRQ e.symm))
              have q2 := Q2.out.cell 2
              simp only [ppA, List.getElem?_toArray, List.getElem?_cons_zero, List.getElem?_cons_succ] at q2
              have k2 := Q2.out.frozen 2
              have R2 := Lib.hid r2
              have M2 := Lib.hid ((Mod.of_below (S := fun k => k = R ∨ k = Q) B0.out).then m2 (fun _ _ h => .inl h))
              have HT2 := Lib.hid (tabs_mod HT.out m2 HNR.out)
              have R3 := Lib.hid (R2.out.other (R' := Q) hRQ 2 (.string n))
              have Q3 : Hid (Blk _ Q (ppA ⟨id, 0, n, noS⟩) 123) := Lib.hid (Q2.out.set 2 (.string n))
              have M3 := Lib.hid (M2.out.setCell (p := ⟨Q, 2, none⟩) (.inl (.inr rfl)) (.string n))
              have HT3 := Lib.hid (tabs_set HT2.out (p := ⟨Q, 2, none⟩) HNQ.out (.string n))
              have CG := string_any 82 #[] R s n2 tu to2 0 _ R3.out (enters_of Tryd.func82 (by kernel_rfl) rfl) (fun X hb => by
                have h := (tget_any s tu X HS.out HTO.out.1 HTO.out.2 ((HT3.out).below hb))
                rw [HG2.out] at h
                exact h)
              rw [if_pos rfl, if_pos rfl, show ((0 : Int) != 0) = false from rfl] at CG
              have CG := Lib.hid CG
              clear r2 m2
              go_wp2_with fail
              refine CG.out.mono ?_
              rintro e w4 ⟨rfl, r4, m4⟩
              have Q4 := Lib.hid (Q3.out.mod m4 (fun e => hRQ e.symm))
              have q4 := Q4.out.cell 3
              simp only [ppA, List.getElem?_toArray, List.getElem?_cons_zero, List.getElem?_cons_succ] at q4
              have k4 := Q4.out.frozen 3
              have R4 := Lib.hid r4
              have M4 := Lib.hid (M3.out.then m4 (fun _ _ h => .inl h))
              clear r4 m4
              go_wp2
              go_end0
              exact ⟨rfl, by rw [HV.out]; exact ⟨R4.out.other hRQ _ _, Q4.out.set _ _, M4.out.setCell (.inl (.inr rfl)) _⟩⟩
            · have HV : Hid (rdv s id a = none) := Lib.hid (by unfold rdv; simp [HKD.out, HG.out, HG2.out, hc2])
              go_enter Tryd.func100, Tryd.ntmps100
              go_wp2_with fail
              refine (CK.out w).mono ?_
              rintro e w1 ⟨rfl, rfl⟩
              go_wp2_with fail
              rw [HW.out]
              refine CF.out.mono ?_
              rintro e w2 ⟨rfl, r2, m2⟩
              have Q2 := Lib.hid (HQ.out.mod m2 (fun e => hRQ e.symm))
              have q2 := Q2.out.cell 2
              simp only [ppA, List.getElem?_toArray, List.getElem?_cons_zero, List.getElem?_cons_succ] at q2
              have k2 := Q2.out.frozen 2
              have R2 := Lib.hid r2
              have M2 := Lib.hid ((Mod.of_below (S := fun k => k = R ∨ k = Q) B0.out).then m2 (fun _ _ h => .inl h))
              have HT2 := Lib.hid (tabs_mod HT.out m2 HNR.out)
              have R3 := Lib.hid (R2.out.other (R' := Q) hRQ 2 (.string n))
              have Q3 : Hid (Blk _ Q (ppA ⟨id, 0, n, noS⟩) 123) := Lib.hid (Q2.out.set 2 (.string n))
              have M3 := Lib.hid (M2.out.setCell (p := ⟨Q, 2, none⟩) (.inl (.inr rfl)) (.string n))
              have HT3 := Lib.hid (tabs_set HT2.out (p := ⟨Q, 2, none⟩) HNQ.out (.string n))
              have CG := string_any 82 #[] R s n2 tu to2 c2 _ R3.out (enters_of Tryd.func82 (by kernel_rfl) rfl) (fun X hb => by
                have h := (tget_any s tu X HS.out HTO.out.1 HTO.out.2 ((HT3.out).below hb))
                rw [HG2.out] at h
                exact h)
              rw [if_neg hc2, if_neg hc2, show (c2 != 0) = true from by rw [bne, beq_eq_false_iff_ne.2 hc2]; rfl] at CG
              have CG := Lib.hid CG
              clear r2 m2
              go_wp2_with fail
              refine CG.out.mono ?_
              rintro e w4 ⟨rfl, r4, m4⟩
              have Q4 := Lib.hid (Q3.out.mod m4 (fun e => hRQ e.symm))
              have q4 := Q4.out.cell 3
              simp only [ppA, List.getElem?_toArray, List.getElem?_cons_zero, List.getElem?_cons_succ] at q4
              have k4 := Q4.out.frozen 3
              have R4 := Lib.hid r4
              have M4 := Lib.hid (M3.out.then m4 (fun _ _ h => .inl h))
              clear r4 m4
              go_wp2
              go_end0
              exact ⟨rfl, by rw [HV.out]; exact ⟨⟨_, R4.out.other hRQ _ _⟩, ⟨⟨id, 0, n, noS⟩, Q4.out.set _ _⟩, M4.out.setCell (.inl (.inr rfl)) _⟩⟩
          · have e1 : (c != 0) = true := by rw [bne, beq_eq_false_iff_ne.2 hc]; rfl
            rw [if_neg hc, if_neg hc, e1] at CF
            have CF := Lib.hid CF
            have HV : Hid (rdv s id a = none) := Lib.hid (by unfold rdv; simp [HKD.out, HG.out, hc])
            clear hg e1
            go_enter Tryd.func100, Tryd.ntmps100
            go_wp2_with fail
            refine (CK.out w).mono ?_
            rintro e w1 ⟨rfl, rfl⟩
            go_wp2_with fail
            rw [HW.out]
            refine CF.out.mono ?_
            rintro e w2 ⟨rfl, r2, m2⟩
            have Q2 := Lib.hid (HQ.out.mod m2 (fun e => hRQ e.symm))
            have q2 := Q2.out.cell 2
            simp only [ppA, List.getElem?_toArray, List.getElem?_cons_zero, List.getElem?_cons_succ] at q2
            have k2 := Q2.out.frozen 2
            have R2 := Lib.hid r2
            have M2 := Lib.hid ((Mod.of_below (S := fun k => k = R ∨ k = Q) B0.out).then m2 (fun _ _ h => .inl h))
            have HT2 := Lib.hid (tabs_mod HT.out m2 HNR.out)
            have R3 := Lib.hid (R2.out.other (R' := Q) hRQ 2 (.string noS))
            have Q3 : Hid (Blk _ Q (ppA ⟨id, 0, noS, noS⟩) 123) := Lib.hid (Q2.out.set 2 (.string noS))
            have M3 := Lib.hid (M2.out.setCell (p := ⟨Q, 2, none⟩) (.inl (.inr rfl)) (.string noS))
            have HT3 := Lib.hid (tabs_set HT2.out (p := ⟨Q, 2, none⟩) HNQ.out (.string noS))
            have CG := string_bad 82 #[] R s (tget s a).1 a (tget s a).2.1 (tget s a).2.2 _ R3.out (enters_of Tryd.func82 (by kernel_rfl) rfl) (fun X hb => tget_any s a X HS.out HA.out.1 HA.out.2 ((HT3.out).below hb))

            have CG := Lib.hid CG
            clear r2 m2
            go_wp2_with fail
            refine CG.out.mono ?_
            rintro e w4 ⟨rfl, r4, m4⟩
            have Q4 := Lib.hid (Q3.out.mod m4 (fun e => hRQ e.symm))
            have q4 := Q4.out.cell 3
            simp only [ppA, List.getElem?_toArray, List.getElem?_cons_zero, List.getElem?_cons_succ] at q4
            have k4 := Q4.out.frozen 3
            have R4 := Lib.hid r4
            have M4 := Lib.hid (M3.out.then m4 (fun _ _ h => .inl h))
            clear r4 m4
            go_wp2
            go_end0
            exact ⟨rfl, by rw [HV.out]; exact ⟨⟨_, R4.out.other hRQ _ _⟩, ⟨⟨id, 0, noS, noS⟩, Q4.out.set _ _⟩, M4.out.setCell (.inl (.inr rfl)) _⟩⟩
        · obtain ⟨⟨n, tu, c⟩, hg⟩ : ∃ g, getF s a (wid k) = g := ⟨_, rfl⟩
          have CF := number_any 114 #[.pointer (some ⟨w.heap.size, 0, none⟩)] R s a n tu c W HR.out (enters_of Tryd.func114 (by kernel_rfl) rfl) (fun X hb => by
            have h := closure_any s a k w.heap.size X HS.out HA.out.1 HA.out.2 ((HK.out.of_below hb).cell 0)
            rw [hg] at h
            exact h)
          have HG := Lib.hid hg
          have HK' : Hid (¬ k = 4 ∧ ¬ k = 5 ∧ ¬ k = 6 ∧ ¬ k = 7) := Lib.hid ⟨h4, h5, h6, h7⟩
          have e4 : (k == 4) = false := beq_eq_false_iff_ne.2 h4
          have e5 : (k == 5) = false := beq_eq_false_iff_ne.2 h5
          have e6 : (k == 6) = false := beq_eq_false_iff_ne.2 h6
          have e7 : (k == 7) = false := beq_eq_false_iff_ne.2 h7
          clear h4 h5 h6 h7
          by_cases hc : c = 0
          · subst hc
            rw [if_pos rfl, if_pos rfl, show ((0 : Int) != 0) = false from rfl] at CF
            have CF := Lib.hid CF
            have HV : Hid (rdv s id a = some (⟨id, n, noS, noS⟩, tu)) := Lib.hid (by obtain ⟨a4, a5, a6, a7⟩ := HK'.out; unfold rdv; rw [HKD.out, if_neg a4, if_neg a5, if_neg a6, if_neg a7, HG.out]; rfl)
            clear hg
            go_enter Tryd.func100, Tryd.ntmps100
            go_wp2_with fail
            refine (CK.out w).mono ?_
            rintro e w1 ⟨rfl, rfl⟩
            go_wp2_with fail
            rw [HW.out]
            refine CF.out.mono ?_
            rintro e w2 ⟨rfl, r2, m2⟩
            have Q2 := Lib.hid (HQ.out.mod m2 (fun e => hRQ e.symm))
            have q2 := Q2.out.cell 1
            simp only [ppA, List.getElem?_toArray, List.getElem?_cons_zero, List.getElem?_cons_succ] at q2
            have k2 := Q2.out.frozen 1
            have R2 := Lib.hid r2
            have M2 := Lib.hid ((Mod.of_below (S := fun k => k = R ∨ k = Q) B0.out).then m2 (fun _ _ h => .inl h))
            clear r2 m2
            go_wp2
            go_end0
            exact ⟨rfl, by rw [HV.out]; exact ⟨R2.out.other hRQ _ _, Q2.out.set _ _, M2.out.setCell (.inl (.inr rfl)) _⟩⟩
          · have e1 : (c != 0) = true := by rw [bne, beq_eq_false_iff_ne.2 hc]; rfl
            rw [if_neg hc, if_neg hc, e1] at CF
            have CF := Lib.hid CF
            have HV : Hid (rdv s id a = none) := Lib.hid (by obtain ⟨a4, a5, a6, a7⟩ := HK'.out; unfold rdv; rw [HKD.out, if_neg a4, if_neg a5, if_neg a6, if_neg a7, HG.out]; exact if_neg hc)
            clear hg e1
            go_enter Tryd.func100, Tryd.ntmps100
            go_wp2_with fail
            refine (CK.out w).mono ?_
            rintro e w1 ⟨rfl, rfl⟩
            go_wp2_with fail
            rw [HW.out]
            refine CF.out.mono ?_
            rintro e w2 ⟨rfl, r2, m2⟩
            have Q2 := Lib.hid (HQ.out.mod m2 (fun e => hRQ e.symm))
            have q2 := Q2.out.cell 1
            simp only [ppA, List.getElem?_toArray, List.getElem?_cons_zero, List.getElem?_cons_succ] at q2
            have k2 := Q2.out.frozen 1
            have R2 := Lib.hid r2
            have M2 := Lib.hid ((Mod.of_below (S := fun k => k = R ∨ k = Q) B0.out).then m2 (fun _ _ h => .inl h))
            clear r2 m2
            go_wp2
            go_end0
            exact ⟨rfl, by rw [HV.out]; exact ⟨⟨_, R2.out.other hRQ _ _⟩, ⟨⟨id, 0, noS, noS⟩, Q2.out.set _ _⟩, M2.out.setCell (.inl (.inr rfl)) _⟩⟩
end Go.Proofs.YtedapgeabpadaaaDoor

/- The walk of prop.Get. -/
namespace Go.Proofs.YtedapgeabpadaaaDoor
set_option linter.unusedVariables false
open Go.RowKit Pl

/-- How many elements a slice has. -/
def lenOf : Value → Nat | .slice _ n _ => n | _ => 0
def GetPost (w w' : World) (e : Ending) (G : List Pp × Int × Int) : Prop := ∃ v, e = .returned (.tuple #[v, .int .i64 G.2.1, .int .u8 G.2.2]) ∧ w'.ownsRow w.heap.size 123 4 v G.1.length (flat G.1) ∧ Below w.heap.size w w'
theorem own_row {w : World} {base n cap : Nat} {e : TypeId} {A : Option Addr} {L : List Pp} (h : w.ownsRow base e 4 (.slice A n cap) n (flat L)) (hm : n = L.length) : PRow w A L := by
  obtain ⟨A', cap', he, _, r⟩ := own_prow h hm
  injection he with h1
  subst h1
  exact r
set_option maxRecDepth 100000 in
set_option maxHeartbeats 4000000 in
theorem pget_any (s : ByteArray) (at_ : Int) (w : World) (hs : s.size ≤ 140737488351232) (h0 : -9223372036854775808 ≤ at_) (h1 : at_ ≤ 9223372036854775807) (hT : Tabs w) :
    Calls Tryd.prog 80 #[.string s, .int .i64 at_] w fun e w' => GetPost w w' e (getP s at_) := by
  obtain ⟨⟨n, from_, c⟩, hg⟩ : ∃ g, getV s at_ = g := ⟨_, rfl⟩
  have CG := get_all s at_ w hs h0 h1
  rw [hg] at CG
  have CG := Lib.hid CG
  have HG := Lib.hid hg
  clear hg h0 h1
  by_cases hc : c = 0
  · subst hc
    obtain ⟨i, j, rfl, rfl, hij, hj, _, hn0, hn1⟩ := getV_to HG.out
    obtain ⟨m, rfl⟩ := Int.eq_ofNat_of_zero_le hn0
    by_cases hlt : (s.size : Int) - j < m
    · have HV : Hid (getP s i = ([], 0, 242)) := Lib.hid (getP_none HG.out hlt)
      clear hij
      go_enter Tryd.func80, Tryd.ntmps80
      go_wp2_with fail
      refine CG.out.mono ?_
      rintro e w1 ⟨rfl, rfl⟩
      go_wp2
      go_ret3
      rw [HV.out]
      exact ⟨_, rfl, World.ownsRow_nil _ _ _ _, Below.refl _ _⟩
    · have hm : j + m ≤ s.size := by omega
      obtain ⟨sub, hsub⟩ : ∃ sub, s.extract j (j + m) = sub := ⟨_, rfl⟩
      have hss : sub.size = m := by rw [← hsub]; simp; omega
      have HSUB := Lib.hid hsub
      have hd0 : decide ((s.size : Int) - j < m) = false := by simpa using hlt
      go_enter Tryd.func80, Tryd.ntmps80
      go_wp2_with fail
      refine CG.out.mono ?_
      rintro e w1 ⟨rfl, rfl⟩
      have b0 : Below w.heap.size w (w.alloc (.cells (rdA sub 0 false) 172)) := (Below.refl _ _).alloc (Nat.le_refl _) _
      have hR0 : Blk (w.alloc (.cells (rdA sub 0 false) 172)) w.heap.size (rdA sub 0 false) 172 := Blk.new _ _ _
      have HB0 := Lib.hid b0
      have HR0 := Lib.hid hR0
      have HTT := Lib.hid hT
      clear b0 hR0 hT hij
      obtain ⟨i0, hi, hz0, hz1, hz2⟩ := info_parts info_p1
      go_wp2
      go_loopw [11] (fun v wr => ∃ (L : List Pp) (k f : Nat), Hid (f + L.length = 66) ∧ L.length ≤ 64 ∧ k ≤ m ∧ Hid (pgs sub f L k = pgs sub 66 [] 0) ∧ Hid (wr.ownsRow w.heap.size 123 4 v L.length (flat L)) ∧ Hid (Blk wr w.heap.size (rdA sub k false) 172) ∧ Hid (Below w.heap.size w wr)) (fun v _ => 66 - lenOf v)
      case atStart => exact ⟨[], 0, 66, Lib.hid rfl, by decide, by omega, Lib.hid rfl, Lib.hid (World.ownsRow_nil _ _ _ _), HR0, HB0⟩
      case round =>
        obtain ⟨L, k, f, hf, hL, hk, hpg, hown, hblk, hb⟩ := hrel
        obtain ⟨A, cap, rfl, hcap, hrow⟩ := own_prow hown.out rfl
        have HROW := Lib.hid hrow
        have r0 := hblk.out.cell 0
        have r1 := hblk.out.cell 1
        simp only [rdA, List.getElem?_toArray, List.getElem?_cons_zero, List.getElem?_cons_succ] at r0 r1
        clear hrow hsub
        have HF := hf
        obtain ⟨f', rfl⟩ : ∃ f', f = f' + 1 := ⟨f - 1, by have := hf.out; omega⟩
        have HNE := own_ne hown.out hblk.out (by decide)
        by_cases hkm : k < m
        · have hkB : decide (k < m) = true := by simpa using hkm
          have HK := Lib.hid (show ¬ (sub.size : Int) ≤ k by omega)
          by_cases h64 : 64 ≤ L.length
          · have h64I : (64 : Int) ≤ (L.length : Int) := by omega
            have HV : Hid (getP s i = ([], 0, 149)) := Lib.hid (getP_bad HG.out hm (by rw [HSUB.out, ← hpg.out]; exact pgs_full (by have := HK.out; omega) h64) (by decide))
            go_wp2_with fail
            go_quiet (fail)
            go_wp2
            go_ret3
            rw [HV.out]
            exact ⟨_, rfl, World.ownsRow_nil _ _ _ _, hb.out.os, hb.out.tape, hb.out.output, hb.out.size, hb.out.block⟩
          · have h64I : ¬ (64 : Int) ≤ (L.length : Int) := by omega
            have H64 := Lib.hid h64
            obtain ⟨⟨id, nx, d⟩, hg2⟩ : ∃ g, getV sub k = g := ⟨_, rfl⟩
            have CNA : ∀ X : World, Blk X w.heap.size (rdA sub k false) 172 → _ := fun X hX => number_any 31 #[] w.heap.size sub k id nx d X hX (enters_of Tryd.func31 (by kernel_rfl) rfl) (fun Y hY => by
              have h := to_below (get_all sub k Y (by omega) (by omega) (by omega))
              rw [hg2] at h
              exact h)
            have HG2 := Lib.hid hg2
            have CNA := Lib.hid CNA
            clear hg2
            go_wp2_with fail
            go_quiet (fail)
            have xb : Blk (wr.drewN nq) w.heap.size (rdA sub k false) 172 := hblk.out
            have xo : (wr.drewN nq).ownsRow w.heap.size 123 4 (.slice A L.length cap) L.length (flat L) := hown.out
            have xw : Below w.heap.size w (wr.drewN nq) := ⟨hb.out.os, hb.out.tape, hb.out.output, hb.out.size, hb.out.block⟩
            obtain ⟨X, hX⟩ : ∃ X, wr.drewN nq = X := ⟨_, rfl⟩
            rw [hX] at xb xo xw ⊢
            have XB := Lib.hid xb
            have XO := Lib.hid xo
            have XW := Lib.hid xw
            have CN := CNA.out X xb
            clear hX xb xo xw r0 r1
            by_cases hd : d = 0
            · subst hd
              rw [if_pos rfl, if_pos rfl, show ((0 : Int) != 0) = false from rfl] at CN
              have CN := Lib.hid CN
              go_wp2_with fail
              refine CN.out.mono ?_
              rintro e w2 ⟨rfl, b2, m2⟩
              have HW2 := Lib.hid (XW.out.trans (m2.below XW.out.size (fun k e => by omega)))
              have HO2 := Lib.hid (own_mod XO.out m2 (fun g e c => HNE (e.trans (by rw [c]))))
              have HQ0 := Lib.hid (Blk.new w2 (ppA ⟨id, 0, noS, noS⟩) 123)
              have HR2 := Lib.hid (b2.alloc (.cells (ppA ⟨id, 0, noS, noS⟩) 123))
              have HO3 := Lib.hid (HO2.out.alloc (.cells (ppA ⟨id, 0, noS, noS⟩) 123))
              have HW3 := Lib.hid (HW2.out.alloc HW2.out.size (.cells (ppA ⟨id, 0, noS, noS⟩) 123))
              have hlt2 := b2.lt
              have hY0 : w2.alloc (.cells (ppA ⟨id, 0, noS, noS⟩) 123) = w2.alloc (.cells #[.int .i64 id, .int .i64 0, .string ⟨#[]⟩, .string ⟨#[]⟩] 123) := rfl
              obtain ⟨Y, hY⟩ : ∃ Y, w2.alloc (.cells (ppA ⟨id, 0, noS, noS⟩) 123) = Y := ⟨_, rfl⟩
              rw [hY] at HQ0 HR2 HO3 HW3 hY0
              have HY := Lib.hid hY0.symm
              have r2 := b2.cell 2
              have q0 := HQ0.out.cell 0
              simp only [rdA, ppA, List.getElem?_toArray, List.getElem?_cons_zero, List.getElem?_cons_succ] at r2 q0
              obtain ⟨i', j', ei', rfl, hij', hj', _, hn0', hn1'⟩ := getV_to HG2.out
              obtain rfl : k = i' := by omega
              clear ei'
              have HQR : Hid (w.heap.size ≠ w2.heap.size) := Lib.hid (by omega)
              clear b2 m2 hY hY0
              obtain ⟨kd, hkd⟩ : ∃ kd, kindOf id = kd := ⟨_, rfl⟩
              have CK : ∀ X : World, Calls Tryd.prog 93 #[.int .i64 id] X fun e w' => e = .returned (.int .i64 kd) ∧ X = w' := fun X => by rw [← hkd]; exact kind_any id X
              have CK := Lib.hid CK
              have HKD := Lib.hid hkd
              clear hkd
              by_cases h0 : kd = 0
              · subst h0
                have HV : Hid (getP s i = ([], 0, 129)) := Lib.hid (getP_bad HG.out hm (by rw [HSUB.out, ← hpg.out]; exact pgs_bad (by have := HK.out; omega) (by have := H64.out; omega) HG2.out (.inr HKD.out)) (by decide))
                go_wp2_with fail
                rw [HY.out]
                refine (CK.out _).mono ?_
                rintro e w3 ⟨rfl, rfl⟩
                go_wp2
                go_ret3
                rw [HV.out]
                exact ⟨_, rfl, World.ownsRow_nil _ _ _ _, HW3.out⟩
              · have e0 : (kd == 0) = false := by rw [beq_eq_false_iff_ne]; exact h0
                go_wp2_with fail
                rw [HY.out]
                refine (CK.out _).mono ?_
                rintro e w3 ⟨rfl, rfl⟩
                have hrow := own_row HO3.out rfl
                have CH := has_any A L.length cap L id Y rfl (by omega) hrow
                change Calls _ _ _ _ (fun e w' => e = .returned (.bool (dupL L id)) ∧ Below Y.heap.size Y w') at CH
                obtain ⟨dp, hdp⟩ : ∃ dp, dupL L id = dp := ⟨_, rfl⟩
                rw [hdp] at CH
                have CH := Lib.hid CH
                have HDP := Lib.hid hdp
                have H0 := Lib.hid h0
                clear hdp hrow
                cases dp
                · go_wp2_with fail
                  refine CH.out.mono ?_
                  rintro e w4 ⟨rfl, b4⟩
                  have HR4 := Lib.hid (HR2.out.of_below b4)
                  have HQ4 := Lib.hid (HQ0.out.of_below b4)
                  have HO4 := Lib.hid (own_mod HO3.out (Mod.of_below (S := fun _ => False) b4) (fun _ _ c => c))
                  have HW4 := Lib.hid (HW3.out.trans (b4.mono HW3.out.size))
                  clear b4
                  have CV := prvalue_any w.heap.size w2.heap.size sub j' id w4 (by omega) (by omega) (by omega) HR4.out HQ4.out HQR.out (NoTab.new HTT.out (Nat.le_refl _)) (NoTab.new HTT.out (by omega)) (HTT.out.below HW4.out)
                  have HNE4 := Lib.hid (own_ne HO4.out HR4.out (by decide))
                  obtain ⟨rv, hrv⟩ : ∃ rv, rdv sub id j' = rv := ⟨_, rfl⟩
                  rw [hrv] at CV
                  have CV := Lib.hid CV
                  have HRV := Lib.hid hrv
                  clear hrv
                  cases rv with
                  | none =>
                    have HV : Hid (getP s i = ([], 0, 129)) := Lib.hid (getP_bad HG.out hm (by rw [HSUB.out, ← hpg.out, pgs_rd (by have := HK.out; omega) (by have := H64.out; omega) HG2.out (by rw [HKD.out]; exact H0.out) HDP.out, HRV.out]) (by decide))
                    go_wp2_with fail
                    refine CV.out.mono ?_
                    rintro e w5 ⟨rfl, ⟨a5, b5⟩, _, m5⟩
                    have r5 := b5.cell 2
                    simp only [rdA, List.getElem?_toArray, List.getElem?_cons_zero, List.getElem?_cons_succ] at r5
                    have HW5 := Lib.hid (HW4.out.trans (m5.below HW4.out.size (fun k e => by rcases e with e | e <;> omega)))
                    clear b5 m5
                    go_wp2
                    go_ret3
                    rw [HV.out]
                    exact ⟨_, rfl, World.ownsRow_nil _ _ _ _, HW5.out⟩
                  | some pt =>
                    obtain ⟨p, tu⟩ := pt
                    obtain ⟨ia, ja, ea, rfl, hij2, hj2, epid⟩ := rdv_to HRV.out
                    have hPG : Hid (pgs sub f' (L ++ [p]) ja = pgs sub 66 [] 0) := Lib.hid (by rw [← hpg.out, pgs_rd (by have := HK.out; omega) (by have := H64.out; omega) HG2.out (by rw [HKD.out]; exact H0.out) HDP.out, HRV.out])
                    clear ea epid
                    go_wp2_with fail
                    refine CV.out.mono ?_
                    rintro e w5 ⟨rfl, b5, q5, m5⟩
                    have r5 := b5.cell 2
                    have s0 := q5.cell 0
                    have s1 := q5.cell 1
                    have s2 := q5.cell 2
                    have s3 := q5.cell 3
                    simp only [rdA, ppA, List.getElem?_toArray, List.getElem?_cons_zero, List.getElem?_cons_succ] at r5 s0 s1 s2 s3
                    have HW5 := Lib.hid (HW4.out.trans (m5.below HW4.out.size (fun k e => by rcases e with e | e <;> omega)))
                    have hNR : ∀ g, (Value.slice A L.length cap).ownBlock = some g → ¬ (g = w.heap.size ∨ g = w2.heap.size) := fun g e c => by
                      rcases c with c | c
                      · exact HNE4.out (e.trans (by rw [c]))
                      · have := (HO2.out.lt g e).2
                        omega
                    have HO5 := Lib.hid ((own_mod HO4.out m5 hNR).alloc (.cells (ppA p) 123))
                    have HB5 := Lib.hid (Blk.new w5 (ppA p) 123)
                    have HR5 := Lib.hid (b5.alloc (.cells (ppA p) 123))
                    have HW6 := Lib.hid (HW5.out.alloc HW5.out.size (.cells (ppA p) 123))
                    have hB6 := HW6.out.size
                    have HNR := Lib.hid hNR
                    have h6b : (L.length + 1) * 48 ≤ 140737488355328 := by omega
                    clear b5 q5 m5 hNR
                    go_wp2_with (at_builtin; go_loud (refine wpList_pushB (.tmp 77) (.tmp 79) 40 123 i0 _ 4 48 w5.heap.size (ppA p) rfl rfl Tryd.underlying40 hi hz0 hz1 hz2 rfl (by decide) rfl (by intro u hu; simp [ppA] at hu; rcases hu with rfl | rfl | rfl | rfl <;> rfl) w.heap.size _ L.length (flat L) rfl rfl HO5.out HB5.out hB6 (by unfold maxLen; omega) h6b ?_; intro v' w6 own6 hg6))
                    have HO6 := Lib.hid own6
                    have HR6 := Lib.hid (HR5.out.grown hg6 (fun e => HNR.out _ e (.inl rfl)))
                    have HW7 := Lib.hid (HW6.out.grown hg6 HW6.out.size (fun g e => (HO5.out.lt g e).1))
                    obtain ⟨A', cap', rfl, _, _⟩ := own_prow (L := L ++ [p]) (by rw [← flat_snoc]; exact own6) (by simp)
                    clear own6 hg6
                    go_roundw
                    case rel => exact ⟨L ++ [p], ja, f', Lib.hid (by have := hf.out; simp; omega), by simp; omega, by omega, hPG, Lib.hid (by rw [← flat_snoc, List.length_append]; exact HO6.out), HR6, HW7⟩
                    case measure => simp [lenOf]; omega
                · have HV : Hid (getP s i = ([], 0, 130)) := Lib.hid (getP_bad HG.out hm (by rw [HSUB.out, ← hpg.out]; exact pgs_dup (by have := HK.out; omega) (by have := H64.out; omega) HG2.out (by rw [HKD.out]; exact H0.out) HDP.out) (by decide))
                  go_wp2_with fail
                  refine CH.out.mono ?_
                  rintro e w4 ⟨rfl, b4⟩
                  go_wp2
                  go_ret3
                  rw [HV.out]
                  exact ⟨_, rfl, World.ownsRow_nil _ _ _ _, HW3.out.trans (b4.mono HW3.out.size)⟩
            · have e1 : (d != 0) = true := by rw [bne, beq_eq_false_iff_ne.2 hd]; rfl
              rw [if_neg hd, if_neg hd, e1] at CN
              have CN := Lib.hid CN
              have HV : Hid (getP s i = ([], 0, 129)) := Lib.hid (getP_bad HG.out hm (by rw [HSUB.out, ← hpg.out]; exact pgs_bad (by have := HK.out; omega) (by have := H64.out; omega) HG2.out (.inl hd)) (by decide))
              clear e1
              go_wp2_with fail
              refine CN.out.mono ?_
              rintro e w2 ⟨rfl, b2, m2⟩
              have r2 := b2.cell 2
              have hlt2 := b2.lt
              simp only [rdA, List.getElem?_toArray, List.getElem?_cons_zero, List.getElem?_cons_succ] at r2
              have B3 := Lib.hid ((XW.out.trans (m2.below XW.out.size (fun k e => by omega))).alloc (Nat.le_trans XW.out.size m2.size) (.cells (ppA ⟨0, 0, noS, noS⟩) 123))
              clear b2 m2
              go_wp2
              go_ret3
              rw [HV.out]
              exact ⟨_, rfl, World.ownsRow_nil _ _ _ _, B3.out⟩
        · obtain rfl : k = m := by omega
          have hkB : decide (k < k) = false := by simp
          have HV : Hid (getP s i = (L, (j : Int) + k, 0)) := Lib.hid (getP_ok HG.out hm (by rw [HSUB.out, ← hpg.out]; exact pgs_end (by omega)))
          go_wp2_with fail
          go_quiet (fail)
          go_wp2
          go_ret3
          rw [HV.out]
          exact ⟨_, rfl, hown.out, hb.out.os, hb.out.tape, hb.out.output, hb.out.size, hb.out.block⟩
  · have e1 : (c != 0) = true := by rw [bne, beq_eq_false_iff_ne.2 hc]; rfl
    have HV : Hid (getP s at_ = ([], 0, c)) := Lib.hid (getP_code HG.out hc)
    go_enter Tryd.func80, Tryd.ntmps80
    go_wp2_with fail
    refine CG.out.mono ?_
    rintro e w1 ⟨rfl, rfl⟩
    go_wp2
    go_ret3
    rw [HV.out]
    exact ⟨_, rfl, World.ownsRow_nil _ _ _ _, Below.refl _ _⟩
end Go.Proofs.YtedapgeabpadaaaDoor

/- Worlds in which told blocks alone have turned (by number and content); a slice in memory of its own, from whatever cell on. Over whatever program. -/
namespace Go.Proofs.YtedapgeabpadaaaDoor
set_option linter.unusedVariables false
open Go.RowKit

/-- Below B nothing has turned; of what was there, only what S tells has. -/
structure Fr (B : Nat) (S : Nat → Obj → Prop) (w w' : World) : Prop where
  below : Below B w w'
  keep : ∀ k obj, w.heap[k]? = some obj → ¬ S k obj → w'.heap[k]? = some obj
theorem Fr.refl (B : Nat) (S : Nat → Obj → Prop) (w : World) : Fr B S w w := ⟨Below.refl _ _, fun _ _ h _ => h⟩
theorem Fr.trans {B : Nat} {S : Nat → Obj → Prop} {a b c : World} (h : Fr B S a b) (k : Fr B S b c) : Fr B S a c :=
  ⟨h.below.trans k.below, fun i o hi hs => k.keep i o (h.keep i o hi hs) hs⟩
theorem Fr.weaken {B B' : Nat} {S S' : Nat → Obj → Prop} {a b : World} (h : Fr B S a b) (hB : B' ≤ B) (hs : ∀ k o, a.heap[k]? = some o → S k o → S' k o) : Fr B' S' a b :=
  ⟨h.below.mono hB, fun i o hi hn => h.keep i o hi (fun c => hn (hs i o hi c))⟩
theorem heap_lt {w : World} {k : Nat} {o : Obj} (h : w.heap[k]? = some o) : k < w.heap.size := (Array.getElem?_eq_some_iff.1 h).1
/-- What turned later in blocks that are new counts for nothing. -/
theorem Fr.then {B : Nat} {S S' : Nat → Obj → Prop} {a b c : World} (h : Fr B S a b) (k : Fr B S' b c) (hs : ∀ i o, i < a.heap.size → S' i o → S i o) : Fr B S a c :=
  ⟨h.below.trans k.below, fun i o hi hn => k.keep i o (h.keep i o hi hn) (fun c => hn (hs i o (heap_lt hi) c))⟩
theorem Fr.of_below {B : Nat} {S : Nat → Obj → Prop} {a b : World} (h : Below a.heap.size a b) (hB : B ≤ a.heap.size) : Fr B S a b :=
  ⟨h.mono hB, fun k o hk _ => (h.block k (heap_lt hk)).trans hk⟩
theorem Fr.drew {B : Nat} {S : Nat → Obj → Prop} {a b : World} (h : Fr B S a b) : Fr B S a b.drew := ⟨h.below.drew, h.keep⟩
theorem Fr.alloc {B : Nat} {S : Nat → Obj → Prop} {a b : World} (h : Fr B S a b) (hB : B ≤ b.heap.size) (o : Obj) : Fr B S a (b.alloc o) :=
  h.trans (Fr.of_below ((Below.refl _ _).alloc (Nat.le_refl _) o) hB)
theorem Fr.set {B : Nat} {S : Nat → Obj → Prop} {a b : World} {R : Nat} {cs : Array Value} {t : TypeId} (h : Fr B S a b) (hb : Blk b R cs t) (hB : B ≤ R) (hS : ∀ cs' fz, S R (.cells cs' t fz)) (i : Nat) (v : Value) : Fr B S a (b.setCell ⟨R, i, none⟩ v) :=
  h.trans ⟨(Below.refl _ _).setCell hB _, fun k o hk hn => by
    by_cases e : k = R
    · subst e
      unfold Blk at hb
      rw [hb] at hk
      cases hk
      exact absurd (hS _ _) hn
    · exact (Below.heap_setCell _ _ _ _ e).trans hk⟩
theorem Fr.grown {B : Nat} {S : Nat → Obj → Prop} {a b c : World} {row : Option Nat} (h : Fr B S a b) (hg : b.grownBy c row) (hB : B ≤ b.heap.size) (hr : ∀ k, row = some k → B ≤ k) (hS : ∀ k o, row = some k → b.heap[k]? = some o → S k o ∨ a.heap.size ≤ k) : Fr B S a c :=
  ⟨h.below.grown hg hB hr, fun k o hk hn => by
    have h1 := h.keep k o hk hn
    rw [hg.block k (heap_lt h1) ?_]
    · exact h1
    · intro e
      rcases hS k o e.symm h1 with c | c
      · exact hn c
      · have := heap_lt hk; omega⟩
theorem Blk.fr {B : Nat} {S : Nat → Obj → Prop} {w w' : World} {R : Nat} {cs : Array Value} {t : TypeId} (h : Blk w R cs t) (m : Fr B S w w') (hs : ¬ S R (.cells cs t (0, 0))) : Blk w' R cs t := m.keep R _ h hs
theorem Blk.lo {B : Nat} {S : Nat → Obj → Prop} {w w' : World} {R : Nat} {cs : Array Value} {t : TypeId} (h : Blk w R cs t) (m : Fr B S w w') (hs : R < B) : Blk w' R cs t := (m.below.block R hs).trans h

/-- A slice in memory of its own, from whatever cell on: n elements of 'size' cells. -/
def Sl (B : Nat) (w : World) (e : TypeId) (size : Nat) (v : Value) (n : Nat) (xs : List Value) : Prop :=
  xs.length = n * size ∧ ((v = .slice none 0 0 ∧ n = 0) ∨
    ∃ g o cap cur, v = .slice (some ⟨g, o, none⟩) n cap ∧ B ≤ g ∧ w.heap[g]? = some (.cells cur e (0, 0)) ∧ n ≤ cap ∧ cap ≤ maxLen ∧ o + cap * size ≤ cur.size ∧ (cur.toList.drop o).take (n * size) = xs)
section
variable {B : Nat} {w : World} {e : TypeId} {size n : Nat} {v : Value} {xs : List Value}
theorem Sl.nil (B : Nat) (w : World) (e : TypeId) (size : Nat) : Sl B w e size (.slice none 0 0) 0 [] := ⟨by simp, .inl ⟨rfl, rfl⟩⟩
theorem Sl.of_own (h : w.ownsRow B e size v n xs) : Sl B w e size v n xs := by
  refine ⟨h.1, ?_⟩
  rcases h.2 with c | ⟨g, cap, cur, h1, h2, h3, h4, h5, h6, h7⟩
  · exact .inl c
  · exact .inr ⟨g, 0, cap, cur, h1, h2, h3, h4, h5, by omega, by simpa using h7⟩
theorem Sl.form (h : Sl B w e size v n xs) : ∃ ao cap, v = .slice ao n cap ∧ n ≤ cap ∧ cap ≤ maxLen ∧ (ao = none → n = 0 ∧ cap = 0) := by
  rcases h.2 with ⟨rfl, rfl⟩ | ⟨g, o, cap, cur, rfl, _, _, h4, h5, _⟩
  · exact ⟨_, _, rfl, Nat.le_refl _, by unfold maxLen; omega, fun _ => ⟨rfl, rfl⟩⟩
  · exact ⟨_, _, rfl, h4, h5, fun c => by cases c⟩
theorem Sl.lt (h : Sl B w e size v n xs) : ∀ k, v.ownBlock = some k → B ≤ k ∧ k < w.heap.size := by
  intro k hk
  rcases h.2 with ⟨rfl, _⟩ | ⟨g, o, cap, cur, rfl, hb, hg, _⟩
  · simp [Value.ownBlock] at hk
  · simp [Value.ownBlock] at hk
    subst hk
    exact ⟨hb, heap_lt hg⟩
theorem Sl.obj (h : Sl B w e size v n xs) : ∀ k o, v.ownBlock = some k → w.heap[k]? = some o → ∃ cur, o = .cells cur e (0, 0) := by
  intro k o' hk ho
  rcases h.2 with ⟨rfl, _⟩ | ⟨g, o, cap, cur, rfl, hb, hg, _⟩
  · simp [Value.ownBlock] at hk
  · simp [Value.ownBlock] at hk
    subst hk
    rw [hg] at ho
    cases ho
    exact ⟨_, rfl⟩
/-- It stays what it is while its block does. -/
theorem Sl.same {w' : World} (h : Sl B w e size v n xs) (hk : ∀ k, v.ownBlock = some k → w'.heap[k]? = w.heap[k]?) : Sl B w' e size v n xs := by
  refine ⟨h.1, ?_⟩
  rcases h.2 with c | ⟨g, o, cap, cur, rfl, hb, hg, r⟩
  · exact .inl c
  · exact .inr ⟨g, o, cap, cur, rfl, hb, (hk g rfl).trans hg, r⟩
theorem Sl.fr {w' : World} {S : Nat → Obj → Prop} {B' : Nat} (h : Sl B w e size v n xs) (m : Fr B' S w w') (hs : ∀ k cs, v.ownBlock = some k → ¬ S k (.cells cs e (0, 0))) : Sl B w' e size v n xs := by
  refine ⟨h.1, ?_⟩
  rcases h.2 with c | ⟨g, o, cap, cur, rfl, hb, hg, r⟩
  · exact .inl c
  · exact .inr ⟨g, o, cap, cur, rfl, hb, m.keep g _ hg (hs g _ rfl), r⟩
theorem Sl.below {w' : World} (h : Sl B w e size v n xs) (hb : Below w.heap.size w w') : Sl B w' e size v n xs := h.same fun k hk => hb.block k (h.lt k hk).2
theorem Sl.alloc (h : Sl B w e size v n xs) (o : Obj) : Sl B (w.alloc o) e size v n xs := h.below ((Below.refl _ _).alloc (Nat.le_refl _) o)
theorem Sl.drew (h : Sl B w e size v n xs) : Sl B w.drew e size v n xs := h
theorem Sl.set (h : Sl B w e size v n xs) {R : Nat} (i : Nat) (u : Value) (hne : v.ownBlock ≠ some R) : Sl B (w.setCell ⟨R, i, none⟩ u) e size v n xs :=
  h.same fun k hk => Below.heap_setCell _ _ _ _ (fun c => hne (hk.trans (by rw [c])))
theorem Sl.grown {w' : World} {row : Option Nat} (h : Sl B w e size v n xs) (hg : w.grownBy w' row) (hne : ∀ k, v.ownBlock = some k → row ≠ some k) : Sl B w' e size v n xs :=
  h.same fun k hk => hg.block k (h.lt k hk).2 (fun c => hne k hk c.symm)
/-- Its block is none of another type. -/
theorem Sl.ne (h : Sl B w e size v n xs) {b : Nat} {cs : Array Value} {T : TypeId} (hb : Blk w b cs T) (hT : T ≠ e) : v.ownBlock ≠ some b := by
  intro c
  unfold Blk at hb
  obtain ⟨cur, hc⟩ := h.obj b _ c hb
  injection hc with _ h2 _
  exact hT h2
theorem Sl.ne2 (h : Sl B w e size v n xs) {B' n' size' : Nat} {e' : TypeId} {v' : Value} {xs' : List Value} (h' : Sl B' w e' size' v' n' xs') (hT : e ≠ e') : ∀ k, v.ownBlock = some k → v'.ownBlock ≠ some k := by
  intro k hk hk'
  have hlt := (h.lt k hk).2
  obtain ⟨o, ho⟩ : ∃ o, w.heap[k]? = some o := ⟨_, Array.getElem?_eq_getElem hlt⟩
  obtain ⟨c1, e1⟩ := h.obj k o hk ho
  obtain ⟨c2, e2⟩ := h'.obj k o hk' ho
  rw [e1] at e2
  injection e2 with _ h2 _
  exact hT h2
theorem addr_add0 (g o j : Nat) : (⟨g, o, none⟩ : Addr).add j = ⟨g, o + j, none⟩ := Addr.add_lit _ _ _
/-- Its cells. -/
theorem Sl.cells {g o cap : Nat} (h : Sl B w e size (.slice (some ⟨g, o, none⟩) n cap) n xs) : ∀ j u, xs[j]? = some u → w.cell? ⟨g, o + j, none⟩ = some u := by
  intro j u hu
  rcases h.2 with ⟨c, _⟩ | ⟨g', o', cap', cur, hv, hb, hg, h4, h5, h6, h7⟩
  · cases c
  · cases hv
    rw [cell_of_row w g (o + j) cur e (0, 0) hg]
    rw [← h7, List.getElem?_take] at hu
    split at hu
    · simpa using hu
    · cases hu
theorem Sl.at (h : Sl B w e size v n xs) (hn : 0 < n) : ∃ g o cap, v = .slice (some ⟨g, o, none⟩) n cap ∧ B ≤ g ∧ g < w.heap.size ∧ n ≤ cap ∧ cap ≤ maxLen ∧ ∀ j u, xs[j]? = some u → w.cell? ⟨g, o + j, none⟩ = some u := by
  rcases h.2 with ⟨_, c⟩ | ⟨g, o, cap, cur, rfl, hb, hg, h4, h5, h6, h7⟩
  · omega
  · exact ⟨g, o, cap, rfl, hb, heap_lt hg, h4, h5, h.cells⟩
theorem drop_take_drop (l : List Value) (o k m : Nat) : ((l.drop o).take (k + m)).drop k = (l.drop (o + k)).take m := by
  rw [List.drop_take, List.drop_drop, Nat.add_sub_cancel_left]
/-- 'xs[1:]': the value. -/
theorem Sl.tail {a : Option Addr} {cap m : Nat} (h : Sl B w e size (.slice a (m + 1) cap) (m + 1) xs) : ∃ g o, a = some ⟨g, o, none⟩ ∧ 1 ≤ cap ∧ cap ≤ maxLen ∧
    Sl B w e size (.slice (some ⟨g, if cap = 1 then o else o + size, none⟩) m (cap - 1)) m (xs.drop size) := by
  rcases h.2 with ⟨_, c⟩ | ⟨g, o, cap', cur, hv, hb, hg, h4, h5, h6, h7⟩
  · omega
  · cases hv
    have hl : (xs.drop size).length = m * size := by rw [List.length_drop, h.1, Nat.succ_mul]; omega
    refine ⟨g, o, rfl, by omega, h5, hl, ?_⟩
    by_cases hc : cap = 1
    · obtain rfl : m = 0 := by omega
      have hx : xs.drop size = [] := List.eq_nil_of_length_eq_zero (by simpa using hl)
      rw [if_pos hc, hx]
      exact .inr ⟨g, o, cap - 1, cur, rfl, hb, hg, by omega, by omega, by subst hc; simp at h6 ⊢; omega, by simp⟩
    · rw [if_neg hc]
      refine .inr ⟨g, o + size, cap - 1, cur, rfl, hb, hg, by omega, by omega, ?_, ?_⟩
      · have : cap * size = (cap - 1) * size + size := by
          rw [← Nat.succ_mul]; congr 1; omega
        omega
      · rw [← h7, ← drop_take_drop]
        congr 2
        rw [Nat.succ_mul]; omega
variable {P : Program}
theorem run_append_sl (t ty : TypeId) (i : TypeInfo) (z : Value) (bytes : Nat) (ht : P.underlying t = some (.slice e)) (hi : P.info? e = some i) (hz : i.zero = some z)
    (hsize : i.size = size) (hby : i.bytes = bytes) (hzs : z.cells.size = size) (hsz : 0 < size) (h : Sl B w e size v n xs)
    (a : Addr) (m c : Nat) (news : List Value) (hl : news.length = m * size) (hnews : ∀ j u, news[j]? = some u → w.cell? (a.add j) = some u) (h1 : ∀ u ∈ news, u.oneCell' = true)
    (h63 : n + m ≤ maxLen) (hbytes : (n + m) * bytes ≤ 140737488355328) (hbase : B ≤ w.heap.size) :
    ∃ v' w', (Builtin.append_ #[t, t] ty #[v, .slice (some a) m c]).run P w = .ok v' w' ∧ Sl B w' e size v' (n + m) (xs ++ news) ∧ w.grownBy w' v.ownBlock ∧ (v'.ownBlock = v.ownBlock ∨ v'.ownBlock = some w.heap.size) := by
  rcases h.2 with ⟨rfl, rfl⟩ | ⟨g, o, cap, cur, rfl, hb, hg, h4, h5, h6, h7⟩
  · obtain rfl : xs = [] := List.eq_nil_of_length_eq_zero (by simpa using h.1)
    obtain ⟨v', w', hr, h2, h3, _, h5⟩ := run_append_own_at (P := P) w B t ty e i z size bytes ht hi hz hsize hby hzs hsz (.slice none 0 0) 0 [] (World.ownsRow_nil w _ e size) a m c news hl hnews h1 h63 hbytes hbase
    exact ⟨v', w', hr, Sl.of_own h2, h3, h5⟩
  · by_cases hroom : n + m ≤ cap
    · have hfc := run_firstCells_some (P := P) w i.size m a m c news (by rw [hsize]; exact hl) hnews
      have hms : (n + m) * size ≤ cap * size := Nat.mul_le_mul_right _ hroom
      have hnm : (n + m) * size = n * size + m * size := Nat.add_mul _ _ _
      have hst := run_storeCells_at P g (o + n * size) e news 0 cur w hg (by rw [hl]; omega) h1
      simp only [Nat.add_zero] at hst
      have hr : (Builtin.append_ #[t, t] ty #[.slice (some ⟨g, o, none⟩) n cap, .slice (some a) m c]).run P w =
          .ok (.slice (some ⟨g, o, none⟩) (n + m) cap) (w.setRow g (cur.toList.take (o + n * size) ++ news ++ cur.toList.drop (o + n * size + news.length)).toArray) := by
        subst hsize
        simp [Builtin.append_, run_underlying ht, sizeOf, typeInfo, hi, Builtin.lenOf, hroom, hfc, Addr.add_lit, hst]
      have hcl : cur.toList.length = cur.size := Array.length_toList
      refine ⟨_, _, hr, ⟨by rw [List.length_append, h.1, hl, hnm], .inr ⟨g, o, cap, _, rfl, hb, setRow_heap w g cur _ e _ hg, hroom, h5, ?_, ?_⟩⟩, ⟨rfl, rfl, rfl, by simp, fun k _ hk => setRow_other w g k _ (fun e => hk (by simp [Value.ownBlock, e]))⟩, .inl rfl⟩
      · simp only [List.size_toArray, List.length_append, List.length_take, List.length_drop, Array.length_toList]
        omega
      · have e1 : cur.toList.take (o + n * size) = cur.toList.take o ++ xs := by
          rw [List.take_add, h7]
        have ho : (cur.toList.take o).length = o := by rw [List.length_take]; omega
        simp only [e1, List.append_assoc]
        rw [List.drop_left' ho, ← List.append_assoc, List.take_left' (by rw [List.length_append, h.1, hl, hnm])]
    · have holds : ∀ j u, xs[j]? = some u → w.cell? ((⟨g, o, none⟩ : Addr).add j) = some u := fun j u hu => by rw [addr_add0]; exact h.cells j u hu
      obtain ⟨v', w', hr, r1, r2⟩ := run_append_arg_grows (P := P) w t ty e i z size bytes ht hi hz hsize hby hzs hsz ⟨g, o, none⟩ n cap xs h.1 holds a m c news hl hnews (by omega) h63 hbytes
      refine ⟨v', w', hr, ?_, ⟨r2.os, r2.tape, r2.output, r2.size, fun k hk _ => r2.block k hk (by simp)⟩, .inr ?_⟩
      · have := Sl.of_own r1
        refine ⟨this.1, ?_⟩
        rcases this.2 with c | ⟨g', o', cap', cur', hv, hB, r⟩
        · exact .inl c
        · exact .inr ⟨g', o', cap', cur', hv, by omega, r⟩
      · have hr2 := run_append_grow (P := P) w t ty e i z ht hi hz ⟨g, o, none⟩ n cap xs (by rw [hsize]; exact h.1) holds a m c news (by rw [hsize]; exact hl) hnews (by omega) (by unfold maxLen at h63; omega) (by subst hby; exact growslice_fits (by omega) hbytes)
        rw [hr2] at hr
        injection hr with hr _
        subst hr
        rfl
/-- 'xs = append(xs, u)' for the walk: one element whose cells lie in a block of their own. -/
theorem wpList_append_sl {ops : Array Oper} {rest : List Oper} {o : Oper} {a : Act} {Q : Exit → Act → World → Prop} (s x : Operand) (t : TypeId) (i : TypeInfo) (z : Value) (bytes C : Nat) (cs : Array Value)
    (hgd : o.guard = none) (ho : o.op = .call { callee := .builtin .append, args := #[s, x], argTypes := #[t, t] })
    (ht : P.underlying t = some (.slice e)) (hi : P.info? e = some i) (hz : i.zero = some z) (hsize : i.size = size) (hby : i.bytes = bytes) (hzs : z.cells.size = size) (hsz : 0 < size) (hcl : cs.size = size) (h1 : ∀ u ∈ cs.toList, u.oneCell' = true)
    (hs : a.eval s = v) (hx : a.eval x = .slice (some ⟨C, 0, none⟩) 1 1)
    (hown : Sl B w e size v n xs) (hb : Blk w C cs e) (hB : B ≤ w.heap.size) (h63 : n + 1 ≤ maxLen) (hbytes : (n + 1) * bytes ≤ 140737488355328)
    (h : ∀ v' w', Sl B w' e size v' (n + 1) (xs ++ cs.toList) → w.grownBy w' v.ownBlock → (v'.ownBlock = v.ownBlock ∨ v'.ownBlock = some w.heap.size) → wpList P ops Q rest (a.put o.dst v') w') :
    wpList P ops Q (o :: rest) a w := by
  refine wpList_plain hgd fun K hK' => ?_
  obtain ⟨v', w', hrun, r1, r2, r3⟩ := run_append_sl (P := P) t o.type i z bytes ht hi hz hsize hby hzs hsz hown ⟨C, 0, none⟩ 1 1 cs.toList (by simpa using hcl) (World.news_of_block hb) h1 h63 hbytes hB
  unfold Oper.wp
  simp [execOp, ho, resolve, invoke, builtin, hs, hx, hrun, Result.andThen]
  exact hK' _ _ (h v' w' r1 r2 r3)
end
end Go.Proofs.YtedapgeabpadaaaDoor

/- A packet's reader walked: props. -/
set_option linter.unusedVariables false
namespace Go.Proofs.YtedapgeabpadaaaDoor
open Go.RowKit Pl Go.Shelf

theorem rpropsC_any (K : Nat) (k : Int) (p : Pp) (w : World) (hK : w.cell? ⟨K, 0, none⟩ = some (.int .i64 k)) (hl : K < w.heap.size) :
    Calls Tryd.prog 81 #[.agg #[.int .i64 p.id, .int .i64 p.n, .string p.s, .string p.t], .pointer (some ⟨K, 0, none⟩)] w fun e w' => e = .returned (.bool (!alw k p.id)) ∧ Below w.heap.size w w' := by
  have e1 : (w.alloc (.cells #[.int .i64 p.id, .int .i64 p.n, .string p.s, .string p.t] 123)).cell? ⟨K, 0, none⟩ = some (.int .i64 k) := (World.cell?_alloc_past _ _ _ hl).trans hK
  have b0 : Below w.heap.size w (w.alloc (.cells #[.int .i64 p.id, .int .i64 p.n, .string p.s, .string p.t] 123)) := (Below.refl _ _).alloc (Nat.le_refl _) _
  obtain ⟨t, ht⟩ : ∃ t, alw k p.id = t := ⟨_, rfl⟩
  have CA : ∀ X : World, Calls Tryd.prog 75 #[.int .i64 k, .int .i64 p.id] X fun e w' => e = .returned (.bool t) ∧ Below X.heap.size X w' := fun X => by rw [← ht]; exact allowed_any k p.id X
  rw [ht]
  have CA := Lib.hid CA
  have B0 := Lib.hid b0
  clear ht b0
  cases t
  · go_enter Tryd.func81, Tryd.ntmps81
    go_wp2_with fail
    (with_reducible refine (CA.out _).mono ?_)
    rintro e w1 ⟨rfl, b1⟩
    go_wp2
    go_ret
    exact ⟨rfl, B0.out.trans (b1.mono B0.out.size)⟩
  · go_enter Tryd.func81, Tryd.ntmps81
    go_wp2_with fail
    (with_reducible refine (CA.out _).mono ?_)
    rintro e w1 ⟨rfl, b1⟩
    go_wp2
    go_ret
    exact ⟨rfl, B0.out.trans (b1.mono B0.out.size)⟩
/-- Properties that have been read, in memory of their own. -/
def PsV (B : Nat) (L : List Pp) (u : Value) (w' : World) : Prop := Sl B w' 123 4 u L.length (flat L)
set_option maxHeartbeats 4000000 in
theorem rprops_any (R : Nat) (s : ByteArray) (a k : Int) (w : World) (hR : Blk w R (rdrA s a) 110) (hs : s.size ≤ 140737488351232) (h0 : 0 ≤ a) (h1 : a ≤ s.size) (hT : Tabs w) :
    Calls Tryd.prog 52 #[.pointer (some ⟨R, 0, none⟩), .int .i64 k] w (RrPost R s (PsV w.heap.size) w (rProps k s a)) := by
  have hb0 := (Below.refl w.heap.size w).alloc (Nat.le_refl _) (.cells #[.int .i64 k] 38)
  have hk0 : (w.alloc (.cells #[.int .i64 k] 38)).cell? ⟨w.heap.size, 0, none⟩ = some (.int .i64 k) := (Blk.new w #[.int .i64 k] 38).cell 0
  have hkl : w.heap.size < (w.alloc (.cells #[.int .i64 k] 38)).heap.size := by simp
  obtain ⟨W0, hW0⟩ : ∃ W0, w.alloc (.cells #[.int .i64 k] 38) = W0 := ⟨_, rfl⟩
  rw [hW0] at hb0 hk0 hkl
  have hR0 := hR.of_below hb0
  have c0 := hR0.cell 0
  have c1 := hR0.cell 1
  have hl : R < W0.heap.size := hR0.lt
  simp only [rdrA, List.getElem?_toArray, List.getElem?_cons_zero, List.getElem?_cons_succ] at c0 c1
  have hs0 : S2p W0 R s a := ⟨c0, c1⟩
  have hsd : S2p W0.drew R s a := hs0
  have hld : R < W0.drew.heap.size := hl
  have HB := Lib.hid (show Blk W0.drew R (rdrA s a) 110 from hR0)
  have HM0 := Lib.hid ((Mod.of_below (S := (· = R)) hb0).drew)
  have HKD := Lib.hid (show W0.drew.cell? ⟨w.heap.size, 0, none⟩ = some (.int .i64 k) from hk0)
  have HKL := Lib.hid (show w.heap.size < W0.drew.heap.size from hkl)
  have HZ := Lib.hid hb0.size
  have CF := Lib.hid (pget_any s a W0.drew hs (by omega) (by omega) ((hT.below hb0).below ⟨rfl, rfl, rfl, Nat.le_refl _, fun _ _ => rfl⟩))
  have hcod := getP_codes s a
  unfold rProps
  obtain ⟨⟨L, tu, c⟩, hg⟩ : ∃ g, getP s a = g := ⟨_, rfl⟩
  rw [hg] at CF hcod ⊢
  unfold GetPost at CF
  simp only at CF hcod ⊢
  obtain ⟨⟨hc0, hc1⟩, hlen⟩ := hcod
  clear hg hR hR0 c0 c1 h0 h1 hs hT hb0 hk0 hkl
  by_cases h242 : c = 242
  · subst h242
    rw [if_pos rfl]
    go_enter Tryd.func52, Tryd.ntmps52
    go_wp2_with fail
    go_region_held3 (fun X => S2p X R s a) (first | (with_reducible assumption) | exact hs0 | exact hsd | exact y) (first | (go_at_call 80; refine CF.out.mono ?_; rintro e w1 ⟨v, rfl, ow, b1⟩; have y : S2p w1 R s a := s2p_blw hsd hld b1) | (fail))
    all_goals
      have HM := Lib.hid (HM0.out.add b1)
      clear b1 ow
      go_wp2_with (first | (go_at_call 34; (with_reducible refine (must_false _).mono ?_); rintro e w2 ⟨rfl, rfl⟩) | (fail))
      exact ⟨rfl, rfl, HM.out⟩
  · have e242 : (c != 242) = true := by simp [h242]
    rw [if_neg h242]
    by_cases hc : c = 0
    · subst hc
      rw [if_neg (by simp)]
      have hR2 : ∀ (q : Bool), okAll k L = q → L.any (fun p => !alw k p.id) = !q := by intro q hq; rw [← hq]; simp [okAll]
      cases hok : okAll k L with
      | false =>
        have hany := hR2 _ hok
        rw [if_pos rfl]
        go_enter Tryd.func52, Tryd.ntmps52
        go_wp2_with fail
        go_region_held3 (fun X => S2p X R s a) (first | (with_reducible assumption) | exact hs0 | exact hsd | exact y) (first | (go_at_call 80; refine CF.out.mono ?_; rintro e w1 ⟨v, rfl, ow, b1⟩; have y : S2p w1 R s a := s2p_blw hsd hld b1) | (fail))
        all_goals
          obtain ⟨ao, cap, rfl, -⟩ := (Sl.of_own ow).form
          have HM := Lib.hid (HM0.out.add b1)
          have hk1 : w1.cell? ⟨w.heap.size, 0, none⟩ = some (.int .i64 k) := (b1.cell (p := ⟨w.heap.size, 0, none⟩) HKL.out).trans HKD.out
          have hkl1 : w.heap.size < w1.heap.size := Nat.lt_of_lt_of_le HKL.out b1.size
          have CC := Lib.hid (pcontains_any 81 #[] #[.pointer (some ⟨w.heap.size, 0, none⟩)] (fun p => !alw k p.id) ao L.length cap L w1 rfl (by omega) (own_row ow rfl) (enters_of Tryd.func81 (by kernel_rfl) rfl)
            (fun p W hbW => rpropsC_any w.heap.size k p W ((hbW.cell (p := ⟨w.heap.size, 0, none⟩) hkl1).trans hk1) (Nat.lt_of_lt_of_le hkl1 hbW.size)))
          rw [hany] at CC
          clear hk1 hkl1
          go_wp2_with (first | (go_at_call 34; (with_reducible refine (must_true _).mono ?_); rintro e w2 ⟨rfl, rfl⟩) | (fail))
          (with_reducible refine CC.out.mono ?_)
          rintro e w2 ⟨rfl, b2⟩
          have HM2 := Lib.hid (HM.out.add b2)
          clear b2 CC
          go_wp2_with fail
          (with_reducible refine (fail_any _ _).mono ?_)
          rintro e w3 ⟨rfl, rfl⟩
          exact ⟨rfl, rfl, HM2.out⟩
      | true =>
        have hany := hR2 _ hok
        rw [if_neg (by decide)]
        go_enter Tryd.func52, Tryd.ntmps52
        go_wp2_with fail
        go_region_held3 (fun X => S2p X R s a) (first | (with_reducible assumption) | exact hs0 | exact hsd | exact y) (first | (go_at_call 80; refine CF.out.mono ?_; rintro e w1 ⟨v, rfl, ow, b1⟩; have y : S2p w1 R s a := s2p_blw hsd hld b1) | (fail))
        all_goals
          obtain ⟨ao, cap, rfl, -⟩ := (Sl.of_own ow).form
          have HM := Lib.hid (HM0.out.add b1)
          have hk1 : w1.cell? ⟨w.heap.size, 0, none⟩ = some (.int .i64 k) := (b1.cell (p := ⟨w.heap.size, 0, none⟩) HKL.out).trans HKD.out
          have hkl1 : w.heap.size < w1.heap.size := Nat.lt_of_lt_of_le HKL.out b1.size
          have CC := Lib.hid (pcontains_any 81 #[] #[.pointer (some ⟨w.heap.size, 0, none⟩)] (fun p => !alw k p.id) ao L.length cap L w1 rfl (by omega) (own_row ow rfl) (enters_of Tryd.func81 (by kernel_rfl) rfl)
            (fun p W hbW => rpropsC_any w.heap.size k p W ((hbW.cell (p := ⟨w.heap.size, 0, none⟩) hkl1).trans hk1) (Nat.lt_of_lt_of_le hkl1 hbW.size)))
          rw [hany] at CC
          clear hk1 hkl1
          go_wp2_with (first | (go_at_call 34; (with_reducible refine (must_true _).mono ?_); rintro e w2 ⟨rfl, rfl⟩) | (fail))
          (with_reducible refine CC.out.mono ?_)
          rintro e w2 ⟨rfl, b2⟩
          have HM2 := Lib.hid (HM.out.add b2)
          have HB2 := Lib.hid ((HB.out.of_below b1).of_below b2)
          have OW := Lib.hid ((Sl.of_own ow).below b2)
          have k1 := HB2.out.frozen 1
          have k2 : w2.cell? ⟨R, 1, none⟩ = some (.int .i64 a) := HB2.out.cell 1
          have HNE := Lib.hid (show (Value.slice ao L.length cap).ownBlock ≠ some R from OW.out.ne HB2.out (by decide))
          clear b2 CC b1 ow
          go_wp2
          go_ret
          refine ⟨_, rfl, ?_, HB2.out.set 1 _, HM2.out.setCell (.inl rfl) _⟩
          have := OW.out.set (R := R) 1 (.int .i64 tu) HNE.out
          refine ⟨this.1, ?_⟩
          rcases this.2 with c | ⟨g, o, cp, cur, h1, h2, h3⟩
          · exact .inl c
          · exact .inr ⟨g, o, cp, cur, h1, Nat.le_trans HZ.out h2, h3⟩
    · rw [if_pos hc]
      go_enter Tryd.func52, Tryd.ntmps52
      have hcn : (c != 0) = true := by simp [hc]
      go_wp2_with fail
      go_region_held3 (fun X => S2p X R s a) (first | (with_reducible assumption) | exact hs0 | exact hsd | exact y) (first | (go_at_call 80; refine CF.out.mono ?_; rintro e w1 ⟨v, rfl, ow, b1⟩; have y : S2p w1 R s a := s2p_blw hsd hld b1) | (fail))
      all_goals
        have HM := Lib.hid (HM0.out.add b1)
        clear b1 ow
        go_wp2_with (first | (go_at_call 34; (with_reducible refine (must_true _).mono ?_); rintro e w2 ⟨rfl, rfl⟩) | (fail))
        (with_reducible refine (fail_any _ _).mono ?_)
        rintro e w3 ⟨rfl, rfl⟩
        exact ⟨rfl, rfl, HM.out⟩
end Go.Proofs.YtedapgeabpadaaaDoor

/- A packet in memory: its cells, its rows. -/
namespace Go.Proofs.YtedapgeabpadaaaDoor
set_option linter.unusedVariables false
open Go.RowKit Pl

/-- A slice's header. -/
structure Hd where
  A : Option Addr
  n : Nat
  cap : Nat
def Hd.v (h : Hd) : Value := .slice h.A h.n h.cap
/-- A packet's slices. -/
structure Hs where
  c : Hd
  p : Hd
  w : Hd
  s : Hd
  f : Hd
/-- A packet's cells (the code is of the integer kind k). -/
def pkA (k : IntKind) (p : Pk) (m : Hs) : Array Value :=
  #[.int .i64 p.kind, .bool p.dup, .bool p.ret, .int .i64 p.q, .int .i64 p.id, .string p.topic, .string p.payload, .int k p.code, .slice m.c.A m.c.n m.c.cap, .slice m.p.A m.p.n m.p.cap, .string p.client, .bool p.clean, .int .i64 p.keep, .bool p.hasWill,
    .string p.wt, .string p.wp, .int .i64 p.wq, .bool p.wr, .slice m.w.A m.w.n m.w.cap, .bool p.hasUser, .bool p.hasPass, .string p.user, .string p.pass, .bool p.session, .slice m.s.A m.s.n m.s.cap, .slice m.f.A m.f.n m.f.cap]
/-- .. and it as a value. -/
def pkV (k : IntKind) (p : Pk) (m : Hs) : Value := .agg (pkA k p m)
/-- A row of one-cell values, from an offset on. -/
def VRow (w : World) (A : Option Addr) (L : List Value) : Prop := 0 < L.length → ∃ b o, A = some ⟨b, o, none⟩ ∧ b < w.heap.size ∧ ∀ i x, L[i]? = some x → w.cell? ⟨b, o + i, none⟩ = some x
theorem VRow.below {w w' : World} {A : Option Addr} {L : List Value} (h : VRow w A L) (hb : Below w.heap.size w w') : VRow w' A L := fun hp => by
  obtain ⟨b, o, e, h1, h2⟩ := h hp
  exact ⟨b, o, e, Nat.lt_of_lt_of_le h1 hb.size, fun i x hx => (hb.cell (p := ⟨b, o + i, none⟩) h1).trans (h2 i x hx)⟩
def sbA (x : Sb) : Array Value := #[.string x.f, .int .i64 x.q, .bool x.nl, .bool x.ap, .int .i64 x.h]
/-- A row of a SUBSCRIBE's filters. -/
def SbRow (w : World) (A : Option Addr) (L : List Sb) : Prop := 0 < L.length → ∃ b o, A = some ⟨b, o, none⟩ ∧ b < w.heap.size ∧ ∀ i x, L[i]? = some x → w.cell? ⟨b, o + i * 5, none⟩ = some (.string x.f) ∧ w.cell? ⟨b, o + i * 5 + 1, none⟩ = some (.int .i64 x.q) ∧ w.cell? ⟨b, o + i * 5 + 2, none⟩ = some (.bool x.nl) ∧ w.cell? ⟨b, o + i * 5 + 3, none⟩ = some (.bool x.ap) ∧ w.cell? ⟨b, o + i * 5 + 4, none⟩ = some (.int .i64 x.h)
theorem SbRow.below {w w' : World} {A : Option Addr} {L : List Sb} (h : SbRow w A L) (hb : Below w.heap.size w w') : SbRow w' A L := fun hp => by
  obtain ⟨b, o, e, h1, h2⟩ := h hp
  refine ⟨b, o, e, Nat.lt_of_lt_of_le h1 hb.size, fun i x hx => ?_⟩
  obtain ⟨c0, c1, c2, c3, c4⟩ := h2 i x hx
  exact ⟨(hb.cell (p := ⟨b, o + i * 5, none⟩) h1).trans c0, (hb.cell (p := ⟨b, o + i * 5 + 1, none⟩) h1).trans c1, (hb.cell (p := ⟨b, o + i * 5 + 2, none⟩) h1).trans c2, (hb.cell (p := ⟨b, o + i * 5 + 3, none⟩) h1).trans c3, (hb.cell (p := ⟨b, o + i * 5 + 4, none⟩) h1).trans c4⟩
def i64B (n : Int) : Prop := -9223372036854775808 ≤ n ∧ n ≤ 9223372036854775807
/-- A packet that a machine holds, of bounded texts. -/
structure Pk.fits (p : Pk) : Prop where
  kind : i64B p.kind
  q : i64B p.q
  id : i64B p.id
  keep : i64B p.keep
  wq : i64B p.wq
  code : 0 ≤ p.code ∧ p.code ≤ 255
  topic : p.topic.size ≤ 1048576
  payload : p.payload.size ≤ 1048576
  client : p.client.size ≤ 1048576
  wt : p.wt.size ≤ 1048576
  wp : p.wp.size ≤ 1048576
  user : p.user.size ≤ 1048576
  pass : p.pass.size ≤ 1048576
  ps : p.ps.length ≤ 1048576 ∧ ∀ x ∈ p.ps, x.fits
  wps : p.wps.length ≤ 1048576 ∧ ∀ x ∈ p.wps, x.fits
  codes : p.codes.length ≤ 1048576 ∧ ∀ x ∈ p.codes, 0 ≤ x ∧ x ≤ 255
  subs : p.subs.length ≤ 1048576 ∧ ∀ x ∈ p.subs, x.f.size ≤ 1048576 ∧ i64B x.q ∧ i64B x.h
  filters : p.filters.length ≤ 1048576 ∧ ∀ x ∈ p.filters, x.size ≤ 1048576
/-- A packet's rows stand in a world. -/
structure PkIn (k : IntKind) (w : World) (p : Pk) (m : Hs) : Prop where
  fits : p.fits
  pn : p.ps.length = m.p.n
  pc : m.p.n ≤ m.p.cap
  pr : PRow w m.p.A p.ps
  wn : p.wps.length = m.w.n
  wc : m.w.n ≤ m.w.cap
  wr : PRow w m.w.A p.wps
  cn : p.codes.length = m.c.n
  cc : m.c.n ≤ m.c.cap
  cr : VRow w m.c.A (p.codes.map (Value.int k))
  sn : p.subs.length = m.s.n
  sc : m.s.n ≤ m.s.cap
  sr : SbRow w m.s.A p.subs
  fn : p.filters.length = m.f.n
  fc : m.f.n ≤ m.f.cap
  fr : VRow w m.f.A (p.filters.map Value.string)
  sa : (m.s.A = none ∧ m.s.cap = 0) ∨ ∃ a, m.s.A = some a
  fa : (m.f.A = none ∧ m.f.cap = 0) ∨ ∃ a, m.f.A = some a
theorem PkIn.below {k : IntKind} {w w' : World} {p : Pk} {m : Hs} (h : PkIn k w p m) (hb : Below w.heap.size w w') : PkIn k w' p m :=
  ⟨h.fits, h.pn, h.pc, h.pr.below hb, h.wn, h.wc, h.wr.below hb, h.cn, h.cc, h.cr.below hb, h.sn, h.sc, h.sr.below hb, h.fn, h.fc, h.fr.below hb, h.sa, h.fa⟩
end Go.Proofs.YtedapgeabpadaaaDoor
