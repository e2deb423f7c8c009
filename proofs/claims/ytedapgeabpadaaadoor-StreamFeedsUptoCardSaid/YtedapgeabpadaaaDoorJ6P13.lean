/- Parts of the proof, joined: RefRead, RefPutV, RefPGet, RgI. -/
import Derived.Test.YtedapgeabpadaaaDoorJ6P4
import Derived.Test.YtedapgeabpadaaaDoorJ6P3
import Derived.Test.YtedapgeabpadaaaDoorJ6P12
namespace Go.Proofs.YtedapgeabpadaaaDoor
set_option linter.unusedVariables false
open Go.RowKit Pl

def RdrPost (w w' : World) (e : Ending) : Option (Pp × Int) → Prop
  | some (p, tu) => e = .returned (.tuple #[ppV p, .int .i64 tu, .bool true]) ∧ Below w.heap.size w w'
  | none => (∃ q tu, e = .returned (.tuple #[ppV q, .int .i64 tu, .bool false])) ∧ Below w.heap.size w w'
set_option maxRecDepth 100000 in
set_option maxHeartbeats 8000000 in
theorem refread_any (s : ByteArray) (a id : Int) (w : World) (hs : s.size ≤ 140737488351232) (h0 : -9223372036854775808 ≤ a) (h1 : a ≤ 9223372036854775807) :
    Calls Tryd.prog 106 #[.string s, .int .i64 a, .agg #[.int .i64 id, .int .i64 0, .string ⟨#[]⟩, .string ⟨#[]⟩]] w fun e w' => RdrPost w w' e (rdv s id a) := by
  obtain ⟨k, hk⟩ : ∃ k, kindOf id = k := ⟨_, rfl⟩
  have CK : ∀ X : World, Calls Tryd.prog 104 #[.int .i64 id] X fun e w' => e = .returned (.int .i64 k) ∧ Below X.heap.size X w' := fun X => by rw [← hk]; exact refkind_any id X
  have hP := (Blk.new w (ppA ⟨id, 0, ⟨#[]⟩, ⟨#[]⟩⟩) 122).alloc (.cells (ppA ⟨0, 0, ⟨#[]⟩, ⟨#[]⟩⟩) 122)
  have hQ := Blk.new (w.alloc (.cells (ppA ⟨id, 0, ⟨#[]⟩, ⟨#[]⟩⟩) 122)) (ppA ⟨0, 0, ⟨#[]⟩, ⟨#[]⟩⟩) 122
  rw [show (w.alloc (.cells (ppA ⟨id, 0, ⟨#[]⟩, ⟨#[]⟩⟩) 122)).heap.size = w.heap.size + 1 from by simp] at hQ
  have b0 : Below w.heap.size w ((w.alloc (.cells (ppA ⟨id, 0, ⟨#[]⟩, ⟨#[]⟩⟩) 122)).alloc (.cells (ppA ⟨0, 0, ⟨#[]⟩, ⟨#[]⟩⟩) 122)) := ((Below.refl _ _).alloc (Nat.le_refl _) _).alloc (by simp) _
  have hW' : (w.alloc (.cells (ppA ⟨id, 0, ⟨#[]⟩, ⟨#[]⟩⟩) 122)).alloc (.cells (ppA ⟨0, 0, ⟨#[]⟩, ⟨#[]⟩⟩) 122) = (w.alloc (.cells #[.int .i64 id, .int .i64 0, .string ⟨#[]⟩, .string ⟨#[]⟩] 122)).alloc (.cells #[.int .i64 0, .int .i64 0, .string ⟨#[]⟩, .string ⟨#[]⟩] 122) := rfl
  obtain ⟨W, hW⟩ : ∃ W, (w.alloc (.cells (ppA ⟨id, 0, ⟨#[]⟩, ⟨#[]⟩⟩) 122)).alloc (.cells (ppA ⟨0, 0, ⟨#[]⟩, ⟨#[]⟩⟩) 122) = W := ⟨_, rfl⟩
  rw [hW] at hP hQ b0 hW'
  have p0 := hP.cell 0
  simp only [ppA, List.getElem?_toArray, List.getElem?_cons_zero] at p0
  have HP := Lib.hid hP
  have HQ := Lib.hid hQ
  have B0 := Lib.hid b0
  have HW := Lib.hid hW'.symm
  have CK := Lib.hid CK
  have HKD := Lib.hid hk
  have HS := Lib.hid hs
  have HA := Lib.hid (And.intro h0 h1)
  clear hP hQ b0 hk hs h0 h1 hW hW'
  by_cases h4 : k = 4
  · subst h4
    obtain ⟨⟨n, tu, c⟩, hg⟩ : ∃ g, getV s a = g := ⟨_, rfl⟩
    have CF : ∀ X : World, _ := fun X => refget_all s a X HS.out HA.out.1 HA.out.2
    rw [hg] at CF
    have HG := Lib.hid hg
    have CF := Lib.hid CF
    clear hg
    by_cases hc : c = 0
    · subst hc
      have HV : Hid (rdv s id a = some (⟨id, n, noS, noS⟩, tu)) := Lib.hid (by unfold rdv; simp [HKD.out, HG.out])
      go_enter Tryd.func106, Tryd.ntmps106
      go_wp2_with fail
      rw [HW.out]
      refine (CK.out W).mono ?_
      rintro e w1 ⟨rfl, b1⟩
      have P1 := Lib.hid (HP.out.of_below b1)
      have Q1 := Lib.hid (HQ.out.of_below b1)
      have B1 := Lib.hid (B0.out.trans (b1.mono B0.out.size))
      clear b1
      have c0 := P1.out.cell 0
      have c1 := P1.out.cell 1
      have c2 := P1.out.cell 2
      have c3 := P1.out.cell 3
      have d0 := Q1.out.cell 0
      have d1 := Q1.out.cell 1
      have d2 := Q1.out.cell 2
      have d3 := Q1.out.cell 3
      simp only [ppA, List.getElem?_toArray, List.getElem?_cons_zero, List.getElem?_cons_succ] at c0 c1 c2 c3 d0 d1 d2 d3
      have f0 := P1.out.frozen 0
      have f1 := P1.out.frozen 1
      have f2 := P1.out.frozen 2
      have f3 := P1.out.frozen 3
      have g0 := Q1.out.frozen 0
      have g1 := Q1.out.frozen 1
      have g2 := Q1.out.frozen 2
      have g3 := Q1.out.frozen 3
      go_wp2_with fail
      refine (CF.out _).mono ?_
      rintro e w2 ⟨rfl, rfl⟩
      go_wp2
      refine bodyPost_ret (v := .tuple #[.agg #[.int .i64 id, .int .i64 n, .string ⟨#[]⟩, .string ⟨#[]⟩], .int .i64 tu, .bool true]) (by simp [results, Tryd.results106, go_sem, d0, d1, d2, d3]) rfl ?_
      rw [HV.out]
      exact ⟨rfl, (((((B1.out.setCell (by simp) _).setCell (by simp) _).setCell (by simp) _).setCell (by simp) _).setCell (by simp) _)⟩
    · have e1 : (c == 0) = false := beq_eq_false_iff_ne.2 hc
      have HV : Hid (rdv s id a = none) := Lib.hid (by unfold rdv; simp [HKD.out, HG.out, hc])
      clear hc
      go_enter Tryd.func106, Tryd.ntmps106
      go_wp2_with fail
      rw [HW.out]
      refine (CK.out W).mono ?_
      rintro e w1 ⟨rfl, b1⟩
      have P1 := Lib.hid (HP.out.of_below b1)
      have Q1 := Lib.hid (HQ.out.of_below b1)
      have B1 := Lib.hid (B0.out.trans (b1.mono B0.out.size))
      clear b1
      have c0 := P1.out.cell 0
      have c1 := P1.out.cell 1
      have c2 := P1.out.cell 2
      have c3 := P1.out.cell 3
      have d0 := Q1.out.cell 0
      have d1 := Q1.out.cell 1
      have d2 := Q1.out.cell 2
      have d3 := Q1.out.cell 3
      simp only [ppA, List.getElem?_toArray, List.getElem?_cons_zero, List.getElem?_cons_succ] at c0 c1 c2 c3 d0 d1 d2 d3
      have f0 := P1.out.frozen 0
      have f1 := P1.out.frozen 1
      have f2 := P1.out.frozen 2
      have f3 := P1.out.frozen 3
      have g0 := Q1.out.frozen 0
      have g1 := Q1.out.frozen 1
      have g2 := Q1.out.frozen 2
      have g3 := Q1.out.frozen 3
      go_wp2_with fail
      refine (CF.out _).mono ?_
      rintro e w2 ⟨rfl, rfl⟩
      go_wp2
      refine bodyPost_ret (v := .tuple #[.agg #[.int .i64 id, .int .i64 n, .string ⟨#[]⟩, .string ⟨#[]⟩], .int .i64 tu, .bool false]) (by simp [results, Tryd.results106, go_sem, d0, d1, d2, d3]) rfl ?_
      rw [HV.out]
      exact ⟨⟨⟨_, _, _, _⟩, _, rfl⟩, (((((B1.out.setCell (by simp) _).setCell (by simp) _).setCell (by simp) _).setCell (by simp) _).setCell (by simp) _)⟩
  · by_cases h5 : k = 5
    · subst h5
      obtain ⟨⟨n, tu, c⟩, hg⟩ : ∃ g, getD s a = g := ⟨_, rfl⟩
      have CF : ∀ X : World, _ := fun X => refgetdata_all s a X HS.out HA.out.1 HA.out.2
      rw [hg] at CF
      have HG := Lib.hid hg
      have CF := Lib.hid CF
      clear hg
      by_cases hc : c = 0
      · subst hc
        have HV : Hid (rdv s id a = some (⟨id, 0, n, noS⟩, tu)) := Lib.hid (by unfold rdv; simp [HKD.out, HG.out])
        go_enter Tryd.func106, Tryd.ntmps106
        go_wp2_with fail
        rw [HW.out]
        refine (CK.out W).mono ?_
        rintro e w1 ⟨rfl, b1⟩
        have P1 := Lib.hid (HP.out.of_below b1)
        have Q1 := Lib.hid (HQ.out.of_below b1)
        have B1 := Lib.hid (B0.out.trans (b1.mono B0.out.size))
        clear b1
        have c0 := P1.out.cell 0
        have c1 := P1.out.cell 1
        have c2 := P1.out.cell 2
        have c3 := P1.out.cell 3
        have d0 := Q1.out.cell 0
        have d1 := Q1.out.cell 1
        have d2 := Q1.out.cell 2
        have d3 := Q1.out.cell 3
        simp only [ppA, List.getElem?_toArray, List.getElem?_cons_zero, List.getElem?_cons_succ] at c0 c1 c2 c3 d0 d1 d2 d3
        have f0 := P1.out.frozen 0
        have f1 := P1.out.frozen 1
        have f2 := P1.out.frozen 2
        have f3 := P1.out.frozen 3
        have g0 := Q1.out.frozen 0
        have g1 := Q1.out.frozen 1
        have g2 := Q1.out.frozen 2
        have g3 := Q1.out.frozen 3
        go_wp2_with fail
        refine (CF.out _).mono ?_
        rintro e w2 ⟨rfl, rfl⟩
        go_wp2
        refine bodyPost_ret (v := .tuple #[.agg #[.int .i64 id, .int .i64 0, .string n, .string ⟨#[]⟩], .int .i64 tu, .bool true]) (by simp [results, Tryd.results106, go_sem, d0, d1, d2, d3]) rfl ?_
        rw [HV.out]
        exact ⟨rfl, (((((B1.out.setCell (by simp) _).setCell (by simp) _).setCell (by simp) _).setCell (by simp) _).setCell (by simp) _)⟩
      · have e1 : (c == 0) = false := beq_eq_false_iff_ne.2 hc
        have HV : Hid (rdv s id a = none) := Lib.hid (by unfold rdv; simp [HKD.out, HG.out, hc])
        clear hc
        go_enter Tryd.func106, Tryd.ntmps106
        go_wp2_with fail
        rw [HW.out]
        refine (CK.out W).mono ?_
        rintro e w1 ⟨rfl, b1⟩
        have P1 := Lib.hid (HP.out.of_below b1)
        have Q1 := Lib.hid (HQ.out.of_below b1)
        have B1 := Lib.hid (B0.out.trans (b1.mono B0.out.size))
        clear b1
        have c0 := P1.out.cell 0
        have c1 := P1.out.cell 1
        have c2 := P1.out.cell 2
        have c3 := P1.out.cell 3
        have d0 := Q1.out.cell 0
        have d1 := Q1.out.cell 1
        have d2 := Q1.out.cell 2
        have d3 := Q1.out.cell 3
        simp only [ppA, List.getElem?_toArray, List.getElem?_cons_zero, List.getElem?_cons_succ] at c0 c1 c2 c3 d0 d1 d2 d3
        have f0 := P1.out.frozen 0
        have f1 := P1.out.frozen 1
        have f2 := P1.out.frozen 2
        have f3 := P1.out.frozen 3
        have g0 := Q1.out.frozen 0
        have g1 := Q1.out.frozen 1
        have g2 := Q1.out.frozen 2
        have g3 := Q1.out.frozen 3
        go_wp2_with fail
        refine (CF.out _).mono ?_
        rintro e w2 ⟨rfl, rfl⟩
        go_wp2
        refine bodyPost_ret (v := .tuple #[.agg #[.int .i64 id, .int .i64 0, .string n, .string ⟨#[]⟩], .int .i64 tu, .bool false]) (by simp [results, Tryd.results106, go_sem, d0, d1, d2, d3]) rfl ?_
        rw [HV.out]
        exact ⟨⟨⟨_, _, _, _⟩, _, rfl⟩, (((((B1.out.setCell (by simp) _).setCell (by simp) _).setCell (by simp) _).setCell (by simp) _).setCell (by simp) _)⟩
    · by_cases h6 : k = 6
      · subst h6
        obtain ⟨⟨n, tu, c⟩, hg⟩ : ∃ g, tget s a = g := ⟨_, rfl⟩
        have CF : ∀ X : World, _ := fun X => reftget_any s a X HS.out HA.out.1 HA.out.2
        rw [hg] at CF
        have HG := Lib.hid hg
        have CF := Lib.hid CF
        clear hg
        by_cases hc : c = 0
        · subst hc
          have HV : Hid (rdv s id a = some (⟨id, 0, n, noS⟩, tu)) := Lib.hid (by unfold rdv; simp [HKD.out, HG.out])
          go_enter Tryd.func106, Tryd.ntmps106
          go_wp2_with fail
          rw [HW.out]
          refine (CK.out W).mono ?_
          rintro e w1 ⟨rfl, b1⟩
          have P1 := Lib.hid (HP.out.of_below b1)
          have Q1 := Lib.hid (HQ.out.of_below b1)
          have B1 := Lib.hid (B0.out.trans (b1.mono B0.out.size))
          clear b1
          have c0 := P1.out.cell 0
          have c1 := P1.out.cell 1
          have c2 := P1.out.cell 2
          have c3 := P1.out.cell 3
          have d0 := Q1.out.cell 0
          have d1 := Q1.out.cell 1
          have d2 := Q1.out.cell 2
          have d3 := Q1.out.cell 3
          simp only [ppA, List.getElem?_toArray, List.getElem?_cons_zero, List.getElem?_cons_succ] at c0 c1 c2 c3 d0 d1 d2 d3
          have f0 := P1.out.frozen 0
          have f1 := P1.out.frozen 1
          have f2 := P1.out.frozen 2
          have f3 := P1.out.frozen 3
          have g0 := Q1.out.frozen 0
          have g1 := Q1.out.frozen 1
          have g2 := Q1.out.frozen 2
          have g3 := Q1.out.frozen 3
          go_wp2_with fail
          refine (CF.out _).mono ?_
          rintro e w2 ⟨rfl, rfl⟩
          go_wp2
          refine bodyPost_ret (v := .tuple #[.agg #[.int .i64 id, .int .i64 0, .string n, .string ⟨#[]⟩], .int .i64 tu, .bool true]) (by simp [results, Tryd.results106, go_sem, d0, d1, d2, d3]) rfl ?_
          rw [HV.out]
          exact ⟨rfl, (((((B1.out.setCell (by simp) _).setCell (by simp) _).setCell (by simp) _).setCell (by simp) _).setCell (by simp) _)⟩
        · have e1 : (c == 0) = false := beq_eq_false_iff_ne.2 hc
          have HV : Hid (rdv s id a = none) := Lib.hid (by unfold rdv; simp [HKD.out, HG.out, hc])
          clear hc
          go_enter Tryd.func106, Tryd.ntmps106
          go_wp2_with fail
          rw [HW.out]
          refine (CK.out W).mono ?_
          rintro e w1 ⟨rfl, b1⟩
          have P1 := Lib.hid (HP.out.of_below b1)
          have Q1 := Lib.hid (HQ.out.of_below b1)
          have B1 := Lib.hid (B0.out.trans (b1.mono B0.out.size))
          clear b1
          have c0 := P1.out.cell 0
          have c1 := P1.out.cell 1
          have c2 := P1.out.cell 2
          have c3 := P1.out.cell 3
          have d0 := Q1.out.cell 0
          have d1 := Q1.out.cell 1
          have d2 := Q1.out.cell 2
          have d3 := Q1.out.cell 3
          simp only [ppA, List.getElem?_toArray, List.getElem?_cons_zero, List.getElem?_cons_succ] at c0 c1 c2 c3 d0 d1 d2 d3
          have f0 := P1.out.frozen 0
          have f1 := P1.out.frozen 1
          have f2 := P1.out.frozen 2
          have f3 := P1.out.frozen 3
          have g0 := Q1.out.frozen 0
          have g1 := Q1.out.frozen 1
          have g2 := Q1.out.frozen 2
          have g3 := Q1.out.frozen 3
          go_wp2_with fail
          refine (CF.out _).mono ?_
          rintro e w2 ⟨rfl, rfl⟩
          go_wp2
          refine bodyPost_ret (v := .tuple #[.agg #[.int .i64 id, .int .i64 0, .string n, .string ⟨#[]⟩], .int .i64 tu, .bool false]) (by simp [results, Tryd.results106, go_sem, d0, d1, d2, d3]) rfl ?_
          rw [HV.out]
          exact ⟨⟨⟨_, _, _, _⟩, _, rfl⟩, (((((B1.out.setCell (by simp) _).setCell (by simp) _).setCell (by simp) _).setCell (by simp) _).setCell (by simp) _)⟩
      · by_cases h7 : k = 7
        · subst h7
          obtain ⟨⟨n, tu, c⟩, hg⟩ : ∃ g, tget s a = g := ⟨_, rfl⟩
          have CF : ∀ X : World, _ := fun X => reftget_any s a X HS.out HA.out.1 HA.out.2
          rw [hg] at CF
          have HG := Lib.hid hg
          have CF := Lib.hid CF
          clear hg
          by_cases hc : c = 0
          · subst hc
            have HTO := Lib.hid (tget_to HG.out HS.out)
            obtain ⟨⟨n2, to2, c2⟩, hg2⟩ : ∃ g, tget s tu = g := ⟨_, rfl⟩
            have CG : ∀ X : World, _ := fun X => reftget_any s tu X HS.out HTO.out.1 HTO.out.2
            rw [hg2] at CG
            have HG2 := Lib.hid hg2
            have CG := Lib.hid CG
            clear hg2
            by_cases hc2 : c2 = 0
            · subst hc2
              have HV : Hid (rdv s id a = some (⟨id, 0, n, n2⟩, to2)) := Lib.hid (by unfold rdv; simp [HKD.out, HG.out, HG2.out])
              go_enter Tryd.func106, Tryd.ntmps106
              go_wp2_with fail
              rw [HW.out]
              refine (CK.out W).mono ?_
              rintro e w1 ⟨rfl, b1⟩
              have P1 := Lib.hid (HP.out.of_below b1)
              have Q1 := Lib.hid (HQ.out.of_below b1)
              have B1 := Lib.hid (B0.out.trans (b1.mono B0.out.size))
              clear b1
              have c0 := P1.out.cell 0
              have c1 := P1.out.cell 1
              have c2 := P1.out.cell 2
              have c3 := P1.out.cell 3
              have d0 := Q1.out.cell 0
              have d1 := Q1.out.cell 1
              have d2 := Q1.out.cell 2
              have d3 := Q1.out.cell 3
              simp only [ppA, List.getElem?_toArray, List.getElem?_cons_zero, List.getElem?_cons_succ] at c0 c1 c2 c3 d0 d1 d2 d3
              have f0 := P1.out.frozen 0
              have f1 := P1.out.frozen 1
              have f2 := P1.out.frozen 2
              have f3 := P1.out.frozen 3
              have g0 := Q1.out.frozen 0
              have g1 := Q1.out.frozen 1
              have g2 := Q1.out.frozen 2
              have g3 := Q1.out.frozen 3
              go_wp2_with fail
              refine (CF.out _).mono ?_
              rintro e w2 ⟨rfl, rfl⟩
              go_wp2_with fail
              refine (CG.out _).mono ?_
              rintro e w2 ⟨rfl, rfl⟩
              go_wp2
              refine bodyPost_ret (v := .tuple #[.agg #[.int .i64 id, .int .i64 0, .string n, .string n2], .int .i64 to2, .bool true]) (by simp [results, Tryd.results106, go_sem, d0, d1, d2, d3]) rfl ?_
              rw [HV.out]
              exact ⟨rfl, ((((((B1.out.setCell (by simp) _).setCell (by simp) _).setCell (by simp) _).setCell (by simp) _).setCell (by simp) _).setCell (by simp) _)⟩
            · have e1 : (c2 == 0) = false := beq_eq_false_iff_ne.2 hc2
              have HV : Hid (rdv s id a = none) := Lib.hid (by unfold rdv; simp [HKD.out, HG.out, HG2.out, hc2])
              clear hc2
              go_enter Tryd.func106, Tryd.ntmps106
              go_wp2_with fail
              rw [HW.out]
              refine (CK.out W).mono ?_
              rintro e w1 ⟨rfl, b1⟩
              have P1 := Lib.hid (HP.out.of_below b1)
              have Q1 := Lib.hid (HQ.out.of_below b1)
              have B1 := Lib.hid (B0.out.trans (b1.mono B0.out.size))
              clear b1
              have c0 := P1.out.cell 0
              have c1 := P1.out.cell 1
              have c2 := P1.out.cell 2
              have c3 := P1.out.cell 3
              have d0 := Q1.out.cell 0
              have d1 := Q1.out.cell 1
              have d2 := Q1.out.cell 2
              have d3 := Q1.out.cell 3
              simp only [ppA, List.getElem?_toArray, List.getElem?_cons_zero, List.getElem?_cons_succ] at c0 c1 c2 c3 d0 d1 d2 d3
              have f0 := P1.out.frozen 0
              have f1 := P1.out.frozen 1
              have f2 := P1.out.frozen 2
              have f3 := P1.out.frozen 3
              have g0 := Q1.out.frozen 0
              have g1 := Q1.out.frozen 1
              have g2 := Q1.out.frozen 2
              have g3 := Q1.out.frozen 3
              go_wp2_with fail
              refine (CF.out _).mono ?_
              rintro e w2 ⟨rfl, rfl⟩
              go_wp2_with fail
              refine (CG.out _).mono ?_
              rintro e w2 ⟨rfl, rfl⟩
              go_wp2
              refine bodyPost_ret (v := .tuple #[.agg #[.int .i64 id, .int .i64 0, .string n, .string n2], .int .i64 to2, .bool false]) (by simp [results, Tryd.results106, go_sem, d0, d1, d2, d3]) rfl ?_
              rw [HV.out]
              exact ⟨⟨⟨_, _, _, _⟩, _, rfl⟩, ((((((B1.out.setCell (by simp) _).setCell (by simp) _).setCell (by simp) _).setCell (by simp) _).setCell (by simp) _).setCell (by simp) _)⟩
          · have e1 : (c == 0) = false := beq_eq_false_iff_ne.2 hc
            have e2 : (c != 0) = true := by rw [bne, e1]; rfl
            have HV : Hid (rdv s id a = none) := Lib.hid (by unfold rdv; simp [HKD.out, HG.out, hc])
            clear hc
            go_enter Tryd.func106, Tryd.ntmps106
            go_wp2_with fail
            rw [HW.out]
            refine (CK.out W).mono ?_
            rintro e w1 ⟨rfl, b1⟩
            have P1 := Lib.hid (HP.out.of_below b1)
            have Q1 := Lib.hid (HQ.out.of_below b1)
            have B1 := Lib.hid (B0.out.trans (b1.mono B0.out.size))
            clear b1
            have c0 := P1.out.cell 0
            have c1 := P1.out.cell 1
            have c2 := P1.out.cell 2
            have c3 := P1.out.cell 3
            have d0 := Q1.out.cell 0
            have d1 := Q1.out.cell 1
            have d2 := Q1.out.cell 2
            have d3 := Q1.out.cell 3
            simp only [ppA, List.getElem?_toArray, List.getElem?_cons_zero, List.getElem?_cons_succ] at c0 c1 c2 c3 d0 d1 d2 d3
            have f0 := P1.out.frozen 0
            have f1 := P1.out.frozen 1
            have f2 := P1.out.frozen 2
            have f3 := P1.out.frozen 3
            have g0 := Q1.out.frozen 0
            have g1 := Q1.out.frozen 1
            have g2 := Q1.out.frozen 2
            have g3 := Q1.out.frozen 3
            go_wp2_with fail
            refine (CF.out _).mono ?_
            rintro e w2 ⟨rfl, rfl⟩
            go_wp2
            refine bodyPost_ret (v := .tuple #[.agg #[.int .i64 id, .int .i64 0, .string ⟨#[]⟩, .string ⟨#[]⟩], .int .i64 0, .bool false]) (by simp [results, Tryd.results106, go_sem, d0, d1, d2, d3]) rfl ?_
            rw [HV.out]
            exact ⟨⟨⟨_, _, _, _⟩, _, rfl⟩, ((((B1.out.setCell (by simp) _).setCell (by simp) _).setCell (by simp) _).setCell (by simp) _)⟩
        · have HK' : Hid (¬ k = 4 ∧ ¬ k = 5 ∧ ¬ k = 6 ∧ ¬ k = 7) := Lib.hid ⟨h4, h5, h6, h7⟩
          have e4 : (k == 4) = false := beq_eq_false_iff_ne.2 h4
          have e5 : (k == 5) = false := beq_eq_false_iff_ne.2 h5
          have e6 : (k == 6) = false := beq_eq_false_iff_ne.2 h6
          have e7 : (k == 7) = false := beq_eq_false_iff_ne.2 h7
          clear h4 h5 h6 h7
          obtain ⟨⟨n, tu, c⟩, hg⟩ : ∃ g, getF s a (wid k) = g := ⟨_, rfl⟩
          have CF : ∀ X : World, _ := fun X => refgetfixed_all s a (wid k) X HS.out HA.out.1 HA.out.2
          rw [hg] at CF
          have HG := Lib.hid hg
          have CF := Lib.hid CF
          clear hg
          by_cases hc : c = 0
          · subst hc
            have HV : Hid (rdv s id a = some (⟨id, n, noS, noS⟩, tu)) := Lib.hid (by obtain ⟨a4, a5, a6, a7⟩ := HK'.out; unfold rdv; rw [HKD.out, if_neg a4, if_neg a5, if_neg a6, if_neg a7, HG.out]; rfl)
            go_enter Tryd.func106, Tryd.ntmps106
            go_wp2_with fail
            rw [HW.out]
            refine (CK.out W).mono ?_
            rintro e w1 ⟨rfl, b1⟩
            have P1 := Lib.hid (HP.out.of_below b1)
            have Q1 := Lib.hid (HQ.out.of_below b1)
            have B1 := Lib.hid (B0.out.trans (b1.mono B0.out.size))
            clear b1
            have c0 := P1.out.cell 0
            have c1 := P1.out.cell 1
            have c2 := P1.out.cell 2
            have c3 := P1.out.cell 3
            have d0 := Q1.out.cell 0
            have d1 := Q1.out.cell 1
            have d2 := Q1.out.cell 2
            have d3 := Q1.out.cell 3
            simp only [ppA, List.getElem?_toArray, List.getElem?_cons_zero, List.getElem?_cons_succ] at c0 c1 c2 c3 d0 d1 d2 d3
            have f0 := P1.out.frozen 0
            have f1 := P1.out.frozen 1
            have f2 := P1.out.frozen 2
            have f3 := P1.out.frozen 3
            have g0 := Q1.out.frozen 0
            have g1 := Q1.out.frozen 1
            have g2 := Q1.out.frozen 2
            have g3 := Q1.out.frozen 3
            go_wp2_with fail
            refine (refwidth_any k _).mono ?_
            rintro e w2 ⟨rfl, rfl⟩
            go_wp2_with fail
            refine (CF.out _).mono ?_
            rintro e w2 ⟨rfl, rfl⟩
            go_wp2
            refine bodyPost_ret (v := .tuple #[.agg #[.int .i64 id, .int .i64 n, .string ⟨#[]⟩, .string ⟨#[]⟩], .int .i64 tu, .bool true]) (by simp [results, Tryd.results106, go_sem, d0, d1, d2, d3]) rfl ?_
            rw [HV.out]
            exact ⟨rfl, (((((B1.out.setCell (by simp) _).setCell (by simp) _).setCell (by simp) _).setCell (by simp) _).setCell (by simp) _)⟩
          · have e1 : (c == 0) = false := beq_eq_false_iff_ne.2 hc
            have HV : Hid (rdv s id a = none) := Lib.hid (by obtain ⟨a4, a5, a6, a7⟩ := HK'.out; unfold rdv; rw [HKD.out, if_neg a4, if_neg a5, if_neg a6, if_neg a7, HG.out]; exact if_neg hc)
            clear hc
            go_enter Tryd.func106, Tryd.ntmps106
            go_wp2_with fail
            rw [HW.out]
            refine (CK.out W).mono ?_
            rintro e w1 ⟨rfl, b1⟩
            have P1 := Lib.hid (HP.out.of_below b1)
            have Q1 := Lib.hid (HQ.out.of_below b1)
            have B1 := Lib.hid (B0.out.trans (b1.mono B0.out.size))
            clear b1
            have c0 := P1.out.cell 0
            have c1 := P1.out.cell 1
            have c2 := P1.out.cell 2
            have c3 := P1.out.cell 3
            have d0 := Q1.out.cell 0
            have d1 := Q1.out.cell 1
            have d2 := Q1.out.cell 2
            have d3 := Q1.out.cell 3
            simp only [ppA, List.getElem?_toArray, List.getElem?_cons_zero, List.getElem?_cons_succ] at c0 c1 c2 c3 d0 d1 d2 d3
            have f0 := P1.out.frozen 0
            have f1 := P1.out.frozen 1
            have f2 := P1.out.frozen 2
            have f3 := P1.out.frozen 3
            have g0 := Q1.out.frozen 0
            have g1 := Q1.out.frozen 1
            have g2 := Q1.out.frozen 2
            have g3 := Q1.out.frozen 3
            go_wp2_with fail
            refine (refwidth_any k _).mono ?_
            rintro e w2 ⟨rfl, rfl⟩
            go_wp2_with fail
            refine (CF.out _).mono ?_
            rintro e w2 ⟨rfl, rfl⟩
            go_wp2
            refine bodyPost_ret (v := .tuple #[.agg #[.int .i64 id, .int .i64 n, .string ⟨#[]⟩, .string ⟨#[]⟩], .int .i64 tu, .bool false]) (by simp [results, Tryd.results106, go_sem, d0, d1, d2, d3]) rfl ?_
            rw [HV.out]
            exact ⟨⟨⟨_, _, _, _⟩, _, rfl⟩, (((((B1.out.setCell (by simp) _).setCell (by simp) _).setCell (by simp) _).setCell (by simp) _).setCell (by simp) _)⟩
end Go.Proofs.YtedapgeabpadaaaDoor

namespace Go.Proofs.YtedapgeabpadaaaDoor
set_option linter.unusedVariables false
open Go.RowKit Pl

set_option maxHeartbeats 1000000 in
theorem twice_any (A : Option Addr) (n cap k : Nat) (L : List Pp) (id : Int) (w : World) (hn : L.length = n) (hm : n ≤ 1048576) (hk : k ≤ n) (h : PRow w A L) :
    Calls Tryd.prog 105 #[.slice A n cap, .int .i64 k, .int .i64 id] w fun e w' => e = .returned (.bool (dup L k id)) ∧ w = w' := by
  unfold dup
  by_cases h38 : id = 38
  · subst h38
    rw [show ((38 : Int) != 38) = false from rfl, Bool.and_false]
    clear hn hm hk h
    go_enter Tryd.func105, Tryd.ntmps105
    go_wp2
    go_ret
    exact ⟨rfl, rfl⟩
  · have e1 : (id == 38) = false := by rw [beq_eq_false_iff_ne]; exact h38
    rw [show (id != 38) = true from by rw [bne, e1]; rfl, Bool.and_true]
    have H := Lib.hid h
    have HN := Lib.hid hn
    clear h hn h38
    obtain ⟨q, hq⟩ : ∃ q : Pp → Bool, (fun p => p.id == id) = q := ⟨_, rfl⟩
    have HQ : Hid (∀ p : Pp, q p = (p.id == id)) := Lib.hid fun p => by rw [← hq]
    obtain ⟨R, hR⟩ : ∃ R, (L.take k).any q = R := ⟨_, rfl⟩
    rw [show ((L.take k).any fun p => p.id == id) = R from by rw [← hR, ← hq]]
    have HR := Lib.hid hR
    clear hq hR
    go_enter Tryd.func105, Tryd.ntmps105
    go_wp2
    go_loop [7] (fun i => ∃ j : Nat, i = .int .i64 j ∧ j ≤ k ∧ Hid ((L.take j).any q = false)) (fun i => k - (intOf i).toNat)
    case atStart => exact ⟨0, rfl, by omega, Lib.hid rfl⟩
    case round =>
      obtain ⟨j, rfl, hj, hv⟩ := hrel
      by_cases hlt : j < k
      · obtain ⟨b, o, rfl, hl, hc⟩ := H.out (by rw [HN.out]; omega)
        obtain ⟨x, hx⟩ : ∃ x, L[j]? = some x := ⟨_, List.getElem?_eq_getElem (by rw [HN.out]; omega)⟩
        obtain ⟨c0, c1, c2, c3⟩ := hc j x hx
        have hjI : (j : Int) < (k : Int) := by omega
        obtain ⟨y, hy⟩ : ∃ y, (x.id == id) = y := ⟨_, rfl⟩
        have HY := Lib.hid ((HQ.out x).trans hy)
        have HX := Lib.hid hx
        clear hc c1 c2 c3 hx
        cases y
        · have Hr := Lib.hid (any_take_p HX.out hv.out HY.out)
          go_wp2
          go_round
          case rel => exact ⟨j + 1, by go_num, by omega, Hr⟩
          case measure => simp [intOf]; omega
        · have Hr : Hid (R = true) := Lib.hid (by
            rw [← HR.out, List.any_eq_true]
            exact ⟨x, List.mem_of_getElem? (i := j) (by rw [List.getElem?_take_of_lt hlt]; exact HX.out), HY.out⟩)
          go_wp2
          go_ret
          exact ⟨ret_bool Hr.out.symm, rfl⟩
      · obtain rfl : j = k := by omega
        go_wp2
        go_ret
        exact ⟨ret_bool (hv.out.symm.trans HR.out), rfl⟩
end Go.Proofs.YtedapgeabpadaaaDoor

namespace Go.Proofs.YtedapgeabpadaaaDoor
set_option linter.unusedVariables false
open Go.RowKit Pl

def RGetPost (w w' : World) (e : Ending) (G : List Pp × Int × Int) : Prop := ∃ v, e = .returned (.tuple #[v, .int .i64 G.2.1, .int .i64 G.2.2]) ∧ w'.ownsRow w.heap.size 122 4 v G.1.length (flat G.1) ∧ Below w.heap.size w w'
theorem dup_all (L : List Pp) (id : Int) : dup L L.length id = dupL L id := by unfold dup dupL; rw [List.take_length]
set_option maxRecDepth 100000 in
set_option maxHeartbeats 4000000 in
theorem refpget_any (s : ByteArray) (at_ : Int) (w : World) (hs : s.size ≤ 140737488351232) (h0 : -9223372036854775808 ≤ at_) (h1 : at_ ≤ 9223372036854775807) :
    Calls Tryd.prog 86 #[.string s, .int .i64 at_] w fun e w' => RGetPost w w' e (getP s at_) := by
  obtain ⟨⟨n, from_, c⟩, hg⟩ : ∃ g, getV s at_ = g := ⟨_, rfl⟩
  have CG := refget_all s at_ w hs h0 h1
  rw [hg] at CG
  have CG := Lib.hid CG
  have HG := Lib.hid hg
  clear hg h0 h1
  by_cases hc : c = 0
  · subst hc
    obtain ⟨i, j, rfl, rfl, hij, hj, _, hn0, hn1⟩ := getV_to HG.out
    obtain ⟨m, rfl⟩ := Int.eq_ofNat_of_zero_le hn0
    by_cases hlt : (s.size : Int) - j < m
    · have HV : Hid (getP s i = ([], 0, 242)) := Lib.hid (getP_none HG.out hlt)
      clear hij
      go_enter Tryd.func86, Tryd.ntmps86
      go_wp2_with fail
      refine CG.out.mono ?_
      rintro e w1 ⟨rfl, rfl⟩
      go_wp2
      go_ret3
      rw [HV.out]
      exact ⟨_, rfl, World.ownsRow_nil _ _ _ _, Below.refl _ _⟩
    · have hm : j + m ≤ s.size := by omega
      obtain ⟨sub, hsub⟩ : ∃ sub, s.extract j (j + m) = sub := ⟨_, rfl⟩
      have hss : sub.size = m := by rw [← hsub]; simp; omega
      have HSUB := Lib.hid hsub
      have hd0 : decide ((s.size : Int) - j < m) = false := by simpa using hlt
      go_enter Tryd.func86, Tryd.ntmps86
      go_wp2_with fail
      refine CG.out.mono ?_
      rintro e w1 ⟨rfl, rfl⟩
      clear hij
      obtain ⟨i0, hi, hz0, hz1, hz2⟩ := info_parts info_p2
      go_wp2
      try simp only [hsub]
      go_loopw [11, 12] (fun v a wr => ∃ (L : List Pp) (k f : Nat), a = .int .i64 k ∧ Hid (f + L.length = 66) ∧ L.length ≤ 64 ∧ k ≤ m ∧ Hid (pgs sub f L k = pgs sub 66 [] 0) ∧ Hid (wr.ownsRow w.heap.size 122 4 v L.length (flat L)) ∧ Hid (Below w.heap.size w wr)) (fun v _ _ => 66 - lenOf v)
      case atStart => exact ⟨[], 0, 66, rfl, Lib.hid rfl, by decide, by omega, Lib.hid rfl, Lib.hid (World.ownsRow_nil _ _ _ _), Lib.hid (Below.refl _ _)⟩
      case round =>
        obtain ⟨L, k, f, rfl, hf, hL, hk, hpg, hown, hb⟩ := hrel
        obtain ⟨A, cap, rfl, hcap, hrow⟩ := own_prow hown.out rfl
        have HROW := Lib.hid hrow
        clear hrow hsub
        have HF := hf
        obtain ⟨f', rfl⟩ : ∃ f', f = f' + 1 := ⟨f - 1, by have := hf.out; omega⟩
        by_cases hkm : k < m
        · have hkB : (k : Int) < (m : Int) := by omega
          have HK := Lib.hid (show ¬ (sub.size : Int) ≤ k by omega)
          by_cases h64 : 64 ≤ L.length
          · have h64I : (64 : Int) ≤ (L.length : Int) := by omega
            have HV : Hid (getP s i = ([], 0, 149)) := Lib.hid (getP_bad HG.out hm (by rw [HSUB.out, ← hpg.out]; exact pgs_full (by have := HK.out; omega) h64) (by decide))
            go_wp2
            go_ret3
            rw [HV.out]
            exact ⟨_, rfl, World.ownsRow_nil _ _ _ _, hb.out⟩
          · have h64I : ¬ (64 : Int) ≤ (L.length : Int) := by omega
            have H64 := Lib.hid h64
            obtain ⟨⟨id, nx, d⟩, hg2⟩ : ∃ g, getV sub k = g := ⟨_, rfl⟩
            have CNA := refget_all sub k wr (by omega) (by omega) (by omega)
            rw [hg2] at CNA
            have HG2 := Lib.hid hg2
            have CNA := Lib.hid CNA
            obtain ⟨kd, hkd⟩ : ∃ kd, kindOf id = kd := ⟨_, rfl⟩
            have CK : ∀ X : World, Calls Tryd.prog 104 #[.int .i64 id] X fun e w' => e = .returned (.int .i64 kd) ∧ Below X.heap.size X w' := fun X => by rw [← hkd]; exact refkind_any id X
            have CK := Lib.hid CK
            have HKD := Lib.hid hkd
            clear hg2 hkd
            by_cases hd : d = 0
            · subst hd
              obtain ⟨i', j', ei', rfl, hij', hj', _, hn0', hn1'⟩ := getV_to HG2.out
              obtain rfl : k = i' := by omega
              clear ei'
              by_cases h0 : kd = 0
              · subst h0
                have HV : Hid (getP s i = ([], 0, 129)) := Lib.hid (getP_bad HG.out hm (by rw [HSUB.out, ← hpg.out]; exact pgs_bad (by have := HK.out; omega) (by have := H64.out; omega) HG2.out (.inr HKD.out)) (by decide))
                go_wp2_with fail
                (with_reducible refine CNA.out.mono ?_)
                rintro e w2 ⟨rfl, rfl⟩
                go_wp2_with fail
                (with_reducible refine (CK.out _).mono ?_)
                rintro e w3 ⟨rfl, b3⟩
                go_wp2
                go_ret3
                rw [HV.out]
                exact ⟨_, rfl, World.ownsRow_nil _ _ _ _, hb.out.trans (b3.mono hb.out.size)⟩
              · have e0 : (kd == 0) = false := by rw [beq_eq_false_iff_ne]; exact h0
                go_wp2_with fail
                (with_reducible refine CNA.out.mono ?_)
                rintro e w2 ⟨rfl, rfl⟩
                go_wp2_with fail
                (with_reducible refine (CK.out _).mono ?_)
                rintro e w3 ⟨rfl, b3⟩
                have HO3 := Lib.hid (own_mod hown.out (Mod.of_below (S := fun _ => False) b3) (fun _ _ c => c))
                have HW3 := Lib.hid (hb.out.trans (b3.mono hb.out.size))
                have CH := twice_any A L.length cap L.length L id w3 rfl (by omega) (Nat.le_refl _) (own_row HO3.out rfl)
                rw [dup_all] at CH
                obtain ⟨dp, hdp⟩ : ∃ dp, dupL L id = dp := ⟨_, rfl⟩
                rw [hdp] at CH
                have CH := Lib.hid CH
                have HDP := Lib.hid hdp
                have H0 := Lib.hid h0
                clear hdp b3
                cases dp
                · have CV := refread_any sub j' id w3 (by omega) (by omega) (by omega)
                  obtain ⟨rv, hrv⟩ : ∃ rv, rdv sub id j' = rv := ⟨_, rfl⟩
                  rw [hrv] at CV
                  have CV := Lib.hid CV
                  have HRV := Lib.hid hrv
                  clear hrv
                  go_wp2_with fail
                  (with_reducible refine CH.out.mono ?_)
                  rintro e w4 ⟨rfl, rfl⟩
                  cases rv with
                  | none =>
                    have HV : Hid (getP s i = ([], 0, 129)) := Lib.hid (getP_bad HG.out hm (by rw [HSUB.out, ← hpg.out, pgs_rd (by have := HK.out; omega) (by have := H64.out; omega) HG2.out (by rw [HKD.out]; exact H0.out) HDP.out, HRV.out]) (by decide))
                    go_wp2_with fail
                    (with_reducible refine CV.out.mono ?_)
                    rintro e w5 ⟨⟨⟨qi, qn, qs, qt⟩, tu, rfl⟩, b5⟩
                    have HW5 := Lib.hid ((HW3.out.trans (b5.mono HW3.out.size)).alloc (Nat.le_trans HW3.out.size b5.size) (.cells (ppA ⟨qi, qn, qs, qt⟩) 122))
                    clear b5
                    unfold ppV ppA
                    go_wp2
                    go_ret3
                    rw [HV.out]
                    exact ⟨_, rfl, World.ownsRow_nil _ _ _ _, HW5.out⟩
                  | some pt =>
                    obtain ⟨p, tu⟩ := pt
                    obtain ⟨ia, ja, ea, rfl, hij2, hj2, epid⟩ := rdv_to HRV.out
                    have hPG : Hid (pgs sub f' (L ++ [p]) ja = pgs sub 66 [] 0) := Lib.hid (by rw [← hpg.out, pgs_rd (by have := HK.out; omega) (by have := H64.out; omega) HG2.out (by rw [HKD.out]; exact H0.out) HDP.out, HRV.out])
                    clear ea epid
                    go_wp2_with fail
                    (with_reducible refine CV.out.mono ?_)
                    rintro e w5 ⟨rfl, b5⟩
                    have HO5 := Lib.hid (((own_mod HO3.out (Mod.of_below (S := fun _ => False) b5) (fun _ _ c => c)).alloc (.cells (ppA p) 122)).alloc (.cells (ppA p) 122))
                    have HQ5 := Lib.hid (Blk.new w5 (ppA p) 122)
                    have hB5 := Blk.new (w5.alloc (.cells (ppA p) 122)) (ppA p) 122
                    rw [show (w5.alloc (.cells (ppA p) 122)).heap.size = w5.heap.size + 1 from by simp] at hB5
                    have HB5 := Lib.hid hB5
                    have HW6 := Lib.hid (((HW3.out.trans (b5.mono HW3.out.size)).alloc (Nat.le_trans HW3.out.size b5.size) (.cells (ppA p) 122)).alloc (Nat.le_trans (Nat.le_trans HW3.out.size b5.size) (by simp)) (.cells (ppA p) 122))
                    have hB6 := HW6.out.size
                    have h6b : (L.length + 1) * 48 ≤ 140737488355328 := by omega
                    have s0 := HQ5.out.cell 0
                    have s1 := HQ5.out.cell 1
                    have s2 := HQ5.out.cell 2
                    have s3 := HQ5.out.cell 3
                    simp only [ppA, List.getElem?_toArray, List.getElem?_cons_zero, List.getElem?_cons_succ] at s0 s1 s2 s3
                    clear b5 s0 s1 s2 s3 hB5
                    unfold ppV ppA
                    go_wp2_with (at_builtin; go_loud (refine wpList_pushB (.tmp 82) (.tmp 84) 47 122 i0 _ 4 48 (w5.heap.size + 1) (ppA p) rfl rfl Tryd.underlying47 hi hz0 hz1 hz2 rfl (by decide) rfl (by intro u hu; simp [ppA] at hu; rcases hu with rfl | rfl | rfl | rfl <;> rfl) w.heap.size _ L.length (flat L) rfl rfl HO5.out HB5.out hB6 (by unfold maxLen; omega) h6b ?_; intro v' w6 own6 hg6))
                    have HO6 := Lib.hid own6
                    have HW7 := Lib.hid (HW6.out.grown hg6 HW6.out.size (fun g e => (HO5.out.lt g e).1))
                    obtain ⟨A', cap', rfl, _, _⟩ := own_prow (L := L ++ [p]) (by rw [← flat_snoc]; exact own6) (by simp)
                    clear own6 hg6
                    go_roundw
                    case rel => exact ⟨L ++ [p], ja, f', by go_num, Lib.hid (by have := hf.out; simp; omega), by simp; omega, by omega, hPG, Lib.hid (by rw [← flat_snoc, List.length_append]; exact HO6.out), HW7⟩
                    case measure => simp [lenOf]; omega
                · have HV : Hid (getP s i = ([], 0, 130)) := Lib.hid (getP_bad HG.out hm (by rw [HSUB.out, ← hpg.out]; exact pgs_dup (by have := HK.out; omega) (by have := H64.out; omega) HG2.out (by rw [HKD.out]; exact H0.out) HDP.out) (by decide))
                  go_wp2_with fail
                  (with_reducible refine CH.out.mono ?_)
                  rintro e w4 ⟨rfl, rfl⟩
                  go_wp2
                  go_ret3
                  rw [HV.out]
                  exact ⟨_, rfl, World.ownsRow_nil _ _ _ _, HW3.out⟩
            · have e1 : (d != 0) = true := by rw [bne, beq_eq_false_iff_ne.2 hd]; rfl
              have HV : Hid (getP s i = ([], 0, 129)) := Lib.hid (getP_bad HG.out hm (by rw [HSUB.out, ← hpg.out]; exact pgs_bad (by have := HK.out; omega) (by have := H64.out; omega) HG2.out (.inl hd)) (by decide))
              go_wp2_with fail
              (with_reducible refine CNA.out.mono ?_)
              rintro e w2 ⟨rfl, rfl⟩
              go_wp2_with fail
              (with_reducible refine (CK.out _).mono ?_)
              rintro e w3 ⟨rfl, b3⟩
              go_wp2
              go_ret3
              rw [HV.out]
              exact ⟨_, rfl, World.ownsRow_nil _ _ _ _, hb.out.trans (b3.mono hb.out.size)⟩
        · obtain rfl : k = m := by omega
          have HV : Hid (getP s i = (L, (j : Int) + k, 0)) := Lib.hid (getP_ok HG.out hm (by rw [HSUB.out, ← hpg.out]; exact pgs_end (by omega)))
          go_wp2
          go_ret3
          rw [HV.out]
          exact ⟨_, rfl, hown.out, hb.out⟩
  · have e1 : (c != 0) = true := by rw [bne, beq_eq_false_iff_ne.2 hc]; rfl
    have HV : Hid (getP s at_ = ([], 0, c)) := Lib.hid (getP_code HG.out hc)
    go_enter Tryd.func86, Tryd.ntmps86
    go_wp2_with fail
    refine CG.out.mono ?_
    rintro e w1 ⟨rfl, rfl⟩
    go_wp2
    go_ret3
    rw [HV.out]
    exact ⟨_, rfl, World.ownsRow_nil _ _ _ _, Below.refl _ _⟩
end Go.Proofs.YtedapgeabpadaaaDoor

set_option linter.unusedVariables false
set_option linter.unusedSimpArgs false
namespace Go.Proofs.YtedapgeabpadaaaDoor
open Go.RowKit Pl Go.PlainAid Go.Shelf

theorem Rin.put {w : World} {s : ByteArray} {a c : Int} {r : Array Value} {W : World} (h : Rin w s a c r W) (u : Tt) : Rin w s u.1 u.2 r (W.setRow w.heap.size (inA s u.1 u.2)) :=
  ⟨below_setRow h.below (Nat.le_refl _) _, h.p.row0 _, h.q.row1 (by omega) _⟩
theorem rzero : (#[.string ⟨#[]⟩, .int .i64 0, .int .i64 0] : Array Value) = inA eS 0 0 := rfl
theorem Rin.ret {w : World} {s : ByteArray} {a c : Int} {W : World} (h : Rin w s a c (inA eS 0 0) W) : Blk (W.setRow (w.heap.size + 1) (inA s a c)) (w.heap.size + 1) (inA s a c) 118 ∧ Below w.heap.size w (W.setRow (w.heap.size + 1) (inA s a c)) :=
  ⟨h.q.row0 _, below_setRow h.below (by omega) _⟩
def DidPost (w : World) (s : ByteArray) (x : Tt × Int) (e : Ending) (w' : World) : Prop := e = .returned (.tuple #[.agg (inA s x.1.1 x.1.2), .int .i64 x.2]) ∧ Below w.heap.size w w'
theorem didPost_mk {w w' : World} {s : ByteArray} {x : Tt × Int} {a c n : Int} (h : x = ((a, c), n)) (hb : Below w.heap.size w w') : DidPost w s x (.returned (.tuple #[.agg (inA s a c), .int .i64 n])) w' := by
  subst h
  exact ⟨rfl, hb⟩
theorem dFail_rng (t : Tt) (d : Int) : (dFail t d).1 = t.1 := by unfold dFail; split <;> rfl
set_option maxHeartbeats 4000000 in
theorem did_any (s : ByteArray) (t : Tt) (w : World) (hs : s.size ≤ 140737488351232) (hr : Rg s t) :
    Calls Tryd.prog 65 #[.agg (inA s t.1 t.2)] w (DidPost w s (dId s t)) := by
  obtain ⟨a, c⟩ := t
  simp only
  have h0 := Rin.new w s a c
  rw [rzero] at h0
  obtain ⟨W, hW⟩ : ∃ W, (w.alloc (.cells (inA s a c) 118)).alloc (.cells (inA eS 0 0) 118) = W := ⟨_, rfl⟩
  rw [hW] at h0
  have H0 := Lib.hid h0
  have HW := Lib.hid (show (w.alloc (.cells (inA s a c) 118)).alloc (.cells #[.string ⟨#[]⟩, .int .i64 0, .int .i64 0] 118) = W from hW)
  have C1 := dnum' s 2 (a, c) W hs hr
  obtain ⟨⟨⟨a1, c1⟩, n⟩, e1⟩ : ∃ x, dNum s 2 (a, c) = x := ⟨_, rfl⟩
  have hd : dId s (a, c) = (if n = 0 then dFail (a1, c1) 130 else (a1, c1), n) := by unfold dId; rw [e1]
  rw [e1] at C1
  have HD := Lib.hid hd
  simp only at C1
  have C1 := Lib.hid C1
  clear h0 e1 hr hW hd
  go_enter Tryd.func65, Tryd.ntmps65
  go_wp2_with (first | (rw [HW.out]) | (refine wpList_load_row rfl 118 (.tmp 1) rfl (w.heap.size) rfl 118 _ (0, 0) _ H0.out.p Tryd.underlying118 rfl in_size ?_) | (fail))
  refine C1.out.mono ?_
  rintro e w1 ⟨rfl, b1⟩
  have H1 := Lib.hid (H0.out.step b1)
  clear b1 C1
  obtain ⟨Z1, hZ1⟩ : ∃ Z, w1.setRow w.heap.size (inA s a1 c1) = Z := ⟨_, rfl⟩
  have h := H1.out.put (a1, c1)
  simp only at h
  rw [hZ1] at h
  have H2 := Lib.hid h
  have HZ1 := Lib.hid hZ1
  clear h hZ1
  have p2 : Z1.cell? ⟨w.heap.size, 2, none⟩ = some (.int .i64 c1) := H2.out.p.cell 2
  by_cases hc : c1 = 0
  · have d1 : (c1 == 0) = true := by simpa using hc
    by_cases hn : n = 0
    · obtain rfl := hn
      have C2 := Lib.hid (dfail' s (a1, c1) 130 Z1)
      have hx : dFail (a1, c1) 130 = (a1, 130) := by unfold dFail; rw [if_pos hc]
      rw [hx] at C2
      have HX := Lib.hid hx
      clear hx hc
      simp only at C2
      go_wp2_with (first | (refine wpList_store_rowN rfl 118 (.tmp 1) (.tmp 8) rfl rfl (w.heap.size) (inA s a1 c1) rfl rfl 118 (inA s a c) H1.out.p in_size rfl (in_one _ _ _) Z1 HZ1.out ?_) | (refine wpList_load_row rfl 118 (.tmp 1) rfl (w.heap.size) rfl 118 _ (0, 0) _ H2.out.p Tryd.underlying118 rfl in_size ?_) | (fail))
      refine C2.out.mono ?_
      rintro e w2 ⟨rfl, b2⟩
      have H3 := Lib.hid (H2.out.step b2)
      clear b2 C2
      obtain ⟨Z2, hZ2⟩ : ∃ Z, w2.setRow w.heap.size (inA s a1 130) = Z := ⟨_, rfl⟩
      have h := H3.out.put (a1, 130)
      simp only at h
      rw [hZ2] at h
      have H4 := Lib.hid h
      have HZ2 := Lib.hid hZ2
      clear h hZ2
      have hr := H4.out.ret
      obtain ⟨Zr, hZr⟩ : ∃ Z, Z2.setRow (w.heap.size + 1) (inA s a1 130) = Z := ⟨_, rfl⟩
      rw [hZr] at hr
      have HR := Lib.hid hr
      have HZr := Lib.hid hZr
      clear hr hZr
      go_wp2_with (first | (refine wpList_store_rowN rfl 118 (.tmp 1) (.tmp 18) rfl rfl (w.heap.size) (inA s a1 130) rfl rfl 118 (inA s a1 c1) H3.out.p in_size rfl (in_one _ _ _) Z2 HZ2.out ?_) | (refine wpList_load_row rfl 118 (.tmp 1) rfl (w.heap.size) rfl 118 _ (0, 0) _ H4.out.p Tryd.underlying118 rfl in_size ?_) | (refine wpList_store_rowN rfl 118 (.tmp 2) (.tmp 19) rfl rfl (w.heap.size + 1) (inA s a1 130) rfl rfl 118 (inA eS 0 0) H4.out.q in_size rfl (in_one _ _ _) Zr HZr.out ?_) | (fail))
      refine bodyPost_ret (v := .tuple #[.agg (inA s a1 130), .int .i64 0]) (results_row_tmp (t1 := 2) (t2 := 3) (ty1 := 118) (by kernel_rfl) _ _ (w.heap.size + 1) 118 _ _ _ rfl rfl HR.out.1 Tryd.underlying118 rfl in_size) rfl ?_
      exact didPost_mk (by rw [HD.out, HX.out]; simp) HR.out.2
    · have d2 : (n == 0) = false := beq_eq_false_iff_ne.2 hn
      have HX := Lib.hid (show (if n = 0 then dFail (a1, c1) 130 else (a1, c1)) = (a1, c1) from if_neg hn)
      clear hn hc
      have hr := H2.out.ret
      obtain ⟨Zr, hZr⟩ : ∃ Z, Z1.setRow (w.heap.size + 1) (inA s a1 c1) = Z := ⟨_, rfl⟩
      rw [hZr] at hr
      have HR := Lib.hid hr
      have HZr := Lib.hid hZr
      clear hr hZr
      go_wp2_with (first | (refine wpList_store_rowN rfl 118 (.tmp 1) (.tmp 8) rfl rfl (w.heap.size) (inA s a1 c1) rfl rfl 118 (inA s a c) H1.out.p in_size rfl (in_one _ _ _) Z1 HZ1.out ?_) | (refine wpList_load_row rfl 118 (.tmp 1) rfl (w.heap.size) rfl 118 _ (0, 0) _ H2.out.p Tryd.underlying118 rfl in_size ?_) | (refine wpList_store_rowN rfl 118 (.tmp 2) (.tmp 19) rfl rfl (w.heap.size + 1) (inA s a1 c1) rfl rfl 118 (inA eS 0 0) H2.out.q in_size rfl (in_one _ _ _) Zr HZr.out ?_) | (fail))
      refine bodyPost_ret (v := .tuple #[.agg (inA s a1 c1), .int .i64 n]) (results_row_tmp (t1 := 2) (t2 := 3) (ty1 := 118) (by kernel_rfl) _ _ (w.heap.size + 1) 118 _ _ _ rfl rfl HR.out.1 Tryd.underlying118 rfl in_size) rfl ?_
      exact didPost_mk (by rw [HD.out, HX.out]) HR.out.2
  · have d1 : (c1 == 0) = false := beq_eq_false_iff_ne.2 hc
    have hx : (if n = 0 then dFail (a1, c1) 130 else (a1, c1)) = (a1, c1) := by
      split
      · exact dFail_stk hc
      · rfl
    have HX := Lib.hid hx
    clear hx hc
    have hr := H2.out.ret
    obtain ⟨Zr, hZr⟩ : ∃ Z, Z1.setRow (w.heap.size + 1) (inA s a1 c1) = Z := ⟨_, rfl⟩
    rw [hZr] at hr
    have HR := Lib.hid hr
    have HZr := Lib.hid hZr
    clear hr hZr
    go_wp2_with (first | (refine wpList_store_rowN rfl 118 (.tmp 1) (.tmp 8) rfl rfl (w.heap.size) (inA s a1 c1) rfl rfl 118 (inA s a c) H1.out.p in_size rfl (in_one _ _ _) Z1 HZ1.out ?_) | (refine wpList_load_row rfl 118 (.tmp 1) rfl (w.heap.size) rfl 118 _ (0, 0) _ H2.out.p Tryd.underlying118 rfl in_size ?_) | (refine wpList_store_rowN rfl 118 (.tmp 2) (.tmp 19) rfl rfl (w.heap.size + 1) (inA s a1 c1) rfl rfl 118 (inA eS 0 0) H2.out.q in_size rfl (in_one _ _ _) Zr HZr.out ?_) | (fail))
    refine bodyPost_ret (v := .tuple #[.agg (inA s a1 c1), .int .i64 n]) (results_row_tmp (t1 := 2) (t2 := 3) (ty1 := 118) (by kernel_rfl) _ _ (w.heap.size + 1) 118 _ _ _ rfl rfl HR.out.1 Tryd.underlying118 rfl in_size) rfl ?_
    exact didPost_mk (by rw [HD.out, HX.out]) HR.out.2
/-- What reading properties comes to. -/
def DpsPost (w : World) (s : ByteArray) (x : Tt × List Pp) (e : Ending) (w' : World) : Prop := ∃ h : Hd, e = .returned (.tuple #[.agg (inA s x.1.1 x.1.2), h.v]) ∧ Sl w.heap.size w' 122 4 h.v x.2.length (flat x.2) ∧ Below w.heap.size w w'
theorem dpsPost_none {w w' : World} {s : ByteArray} {x : Tt × List Pp} {a c : Int} (h : x = ((a, c), [])) (hb : Below w.heap.size w w') : DpsPost w s x (.returned (.tuple #[.agg (inA s a c), .slice none 0 0])) w' := by
  subst h
  exact ⟨nHd, rfl, Sl.nil _ _ _ _, hb⟩
theorem dProps_bad {k : Int} {s : ByteArray} {a e : Int} (h : rProps k s a = .error e) : dProps k s (a, 0) = ((a, e), []) := by
  unfold dProps dRd
  simp only [ne_eq, not_true_eq_false, if_false]
  rw [h]
theorem dProps_ok {k : Int} {s : ByteArray} {a b : Int} {L : List Pp} (h : rProps k s a = .ok (L, b)) : dProps k s (a, 0) = ((b, 0), L) := by
  unfold dProps dRd
  simp only [ne_eq, not_true_eq_false, if_false]
  rw [h]
set_option maxHeartbeats 4000000 in
set_option maxRecDepth 100000 in
theorem dprops_any (s : ByteArray) (t : Tt) (k : Int) (w : World) (hs : s.size ≤ 140737488351232) (hr : Rg s t) :
    Calls Tryd.prog 63 #[.agg (inA s t.1 t.2), .int .i64 k] w (DpsPost w s (dProps k s t)) := by
  obtain ⟨a, c⟩ := t
  simp only
  have h0 := Rin.new w s a c
  rw [rzero] at h0
  obtain ⟨W, hW⟩ : ∃ W, (w.alloc (.cells (inA s a c) 118)).alloc (.cells (inA eS 0 0) 118) = W := ⟨_, rfl⟩
  rw [hW] at h0
  have H0 := Lib.hid h0
  have HW := Lib.hid (show (w.alloc (.cells (inA s a c) 118)).alloc (.cells #[.string ⟨#[]⟩, .int .i64 0, .int .i64 0] 118) = W from hW)
  have ha0 : 0 ≤ a := hr.1
  have ha1 : a ≤ s.size := hr.2
  have p0 : W.cell? ⟨w.heap.size, 0, none⟩ = some (.string s) := H0.out.p.cell 0
  have p1 : W.cell? ⟨w.heap.size, 1, none⟩ = some (.int .i64 a) := H0.out.p.cell 1
  have p2 : W.cell? ⟨w.heap.size, 2, none⟩ = some (.int .i64 c) := H0.out.p.cell 2
  clear h0 hr hW
  by_cases hc : c = 0
  · subst hc
    have CG := refpget_any s a W hs (by omega) (by omega)
    obtain ⟨⟨L, tu, cc⟩, hg⟩ : ∃ x, getP s a = x := ⟨_, rfl⟩
    have hL := (getP_codes s a).2
    have hcb := (getP_codes s a).1
    have hat := getP_at (s := s) (a := a)
    rw [hg] at CG hL hcb hat
    simp only at hL hcb hat
    have HG := Lib.hid hg
    have CG := Lib.hid CG
    clear hg
    go_enter Tryd.func63, Tryd.ntmps63
    go_wp2_with (first | (rw [HW.out]) | (fail))
    refine CG.out.mono ?_
    rintro e w1 ⟨v, rfl, ho, b1⟩
    simp only at ho ⊢
    have H1 := Lib.hid (H0.out.step b1)
    have HOW := Lib.hid (Sl.of_own ho)
    obtain ⟨A', cap', rfl, hcap, hrow⟩ := own_prow ho rfl
    have HPR := Lib.hid hrow
    clear ho b1 CG p0 p1 p2 hrow
    by_cases h1 : cc = 242
    · subst h1
      have e1 : rProps k s a = .error 129 := by unfold rProps; rw [HG.out, if_pos rfl]
      have E1 := Lib.hid (dProps_bad e1)
      have C2 := Lib.hid (dfail' s (a, 0) 129 w1)
      have hx : dFail (a, 0) 129 = (a, 129) := rfl
      rw [hx] at C2
      simp only at C2
      clear e1 hx
      go_wp2_with (first | (refine wpList_load_row rfl 118 (.tmp 2) rfl (w.heap.size) rfl 118 _ (0, 0) _ H1.out.p Tryd.underlying118 rfl in_size ?_) | (fail))
      refine C2.out.mono ?_
      rintro e w2 ⟨rfl, b2⟩
      have H2 := Lib.hid (H1.out.step b2)
      clear b2 C2
      obtain ⟨Z2, hZ2⟩ : ∃ Z, w2.setRow w.heap.size (inA s a 129) = Z := ⟨_, rfl⟩
      have h := H2.out.put (a, 129)
      simp only at h
      rw [hZ2] at h
      have H4 := Lib.hid h
      have HZ2 := Lib.hid hZ2
      clear h hZ2
      have hr := H4.out.ret
      obtain ⟨Zr, hZr⟩ : ∃ Z, Z2.setRow (w.heap.size + 1) (inA s a 129) = Z := ⟨_, rfl⟩
      rw [hZr] at hr
      have HR := Lib.hid hr
      have HZr := Lib.hid hZr
      clear hr hZr
      go_wp2_with (first | (refine wpList_store_rowN rfl 118 (.tmp 2) (.tmp 29) rfl rfl (w.heap.size) (inA s a 129) rfl rfl 118 (inA s a 0) H2.out.p in_size rfl (in_one _ _ _) Z2 HZ2.out ?_) | (refine wpList_load_row rfl 118 (.tmp 2) rfl (w.heap.size) rfl 118 _ (0, 0) _ H4.out.p Tryd.underlying118 rfl in_size ?_) | (refine wpList_store_rowN rfl 118 (.tmp 4) (.tmp 30) rfl rfl (w.heap.size + 1) (inA s a 129) rfl rfl 118 (inA eS 0 0) H4.out.q in_size rfl (in_one _ _ _) Zr HZr.out ?_) | (fail))
      refine bodyPost_ret (v := .tuple #[.agg (inA s a 129), .slice none 0 0]) (results_row_tmp (t1 := 4) (t2 := 5) (ty1 := 118) (by kernel_rfl) _ _ (w.heap.size + 1) 118 _ _ _ rfl rfl HR.out.1 Tryd.underlying118 rfl in_size) rfl ?_
      exact dpsPost_none E1.out HR.out.2
    have d1 : (cc == 242) = false := beq_eq_false_iff_ne.2 h1
    by_cases h2 : cc = 0
    · subst h2
      obtain ⟨ok, hok⟩ : ∃ ok, okAll k L = ok := ⟨_, rfl⟩
      have CA := rall_any k A' L.length cap' L w1 rfl (by omega) HPR.out
      rw [hok] at CA
      have CA := Lib.hid CA
      have HK := Lib.hid hok
      have hto := hat rfl
      clear hok hat
      go_wp2_with (first | (fail))
      refine CA.out.mono ?_
      rintro e w2 ⟨rfl, b2⟩
      have H2 := Lib.hid (H1.out.step b2)
      have HO2 := Lib.hid (HOW.out.below b2)
      clear b2 CA
      cases ok
      · have e1 : rProps k s a = .error 130 := by unfold rProps; rw [HG.out]; simp only; rw [if_neg (by decide), if_neg (by decide), HK.out, if_pos rfl]
        have E1 := Lib.hid (dProps_bad e1)
        have C2 := Lib.hid (dfail' s (a, 0) 130 w2)
        have hx : dFail (a, 0) 130 = (a, 130) := rfl
        rw [hx] at C2
        simp only at C2
        clear e1 hx
        go_wp2_with (first | (refine wpList_load_row rfl 118 (.tmp 2) rfl (w.heap.size) rfl 118 _ (0, 0) _ H2.out.p Tryd.underlying118 rfl in_size ?_) | (fail))
        refine C2.out.mono ?_
        rintro e w3 ⟨rfl, b3⟩
        have H3 := Lib.hid (H2.out.step b3)
        clear b3 C2 H2
        obtain ⟨Z2, hZ2⟩ : ∃ Z, w3.setRow w.heap.size (inA s a 130) = Z := ⟨_, rfl⟩
        have h := H3.out.put (a, 130)
        simp only at h
        rw [hZ2] at h
        have H4 := Lib.hid h
        have HZ2 := Lib.hid hZ2
        clear h hZ2
        have hr := H4.out.ret
        obtain ⟨Zr, hZr⟩ : ∃ Z, Z2.setRow (w.heap.size + 1) (inA s a 130) = Z := ⟨_, rfl⟩
        rw [hZr] at hr
        have HR := Lib.hid hr
        have HZr := Lib.hid hZr
        clear hr hZr
        go_wp2_with (first | (refine wpList_store_rowN rfl 118 (.tmp 2) (.tmp 37) rfl rfl (w.heap.size) (inA s a 130) rfl rfl 118 (inA s a 0) H3.out.p in_size rfl (in_one _ _ _) Z2 HZ2.out ?_) | (refine wpList_load_row rfl 118 (.tmp 2) rfl (w.heap.size) rfl 118 _ (0, 0) _ H4.out.p Tryd.underlying118 rfl in_size ?_) | (refine wpList_store_rowN rfl 118 (.tmp 4) (.tmp 38) rfl rfl (w.heap.size + 1) (inA s a 130) rfl rfl 118 (inA eS 0 0) H4.out.q in_size rfl (in_one _ _ _) Zr HZr.out ?_) | (fail))
        refine bodyPost_ret (v := .tuple #[.agg (inA s a 130), .slice none 0 0]) (results_row_tmp (t1 := 4) (t2 := 5) (ty1 := 118) (by kernel_rfl) _ _ (w.heap.size + 1) 118 _ _ _ rfl rfl HR.out.1 Tryd.underlying118 rfl in_size) rfl ?_
        exact dpsPost_none E1.out HR.out.2
      · have e1 : rProps k s a = .ok (L, tu) := by unfold rProps; rw [HG.out]; simp only; rw [if_neg (by decide), if_neg (by decide), HK.out]; rfl
        have E1 := Lib.hid (dProps_ok e1)
        have p1 : w2.cell? ⟨w.heap.size, 1, none⟩ = some (.int .i64 a) := H2.out.p.cell 1
        have f1 := H2.out.p.frozen 1
        obtain ⟨Z2, hZ2⟩ : ∃ Z, w2.setCell ⟨w.heap.size, 1, none⟩ (.int .i64 tu) = Z := ⟨_, rfl⟩
        have H4 : Rin w s tu 0 (inA eS 0 0) Z2 := by
          rw [← hZ2]
          exact ⟨H2.out.below.setCell (by simp) _, H2.out.p.set 1 _, H2.out.q.other (by omega) _ _⟩
        have hsl := (HO2.out)
        have H4 := Lib.hid H4
        have HS4 : Hid (Sl w.heap.size Z2 122 4 (.slice A' L.length cap') L.length (flat L)) := Lib.hid (by
          rw [← hZ2]
          have h := HO2.out.mono' (B' := w.heap.size) H0.out.below.size
          exact h.set 1 _ (h.ne H2.out.p (by decide)))
        clear e1 hsl
        have hr := H4.out.ret
        obtain ⟨Zr, hZr⟩ : ∃ Z, Z2.setRow (w.heap.size + 1) (inA s tu 0) = Z := ⟨_, rfl⟩
        rw [hZr] at hr
        have HR := Lib.hid hr
        have HZr := Lib.hid hZr
        clear hr hZr
        go_wp2_with (first | (refine wpList_load_row rfl 118 (.tmp 2) rfl (w.heap.size) rfl 118 _ (0, 0) _ H4.out.p Tryd.underlying118 rfl in_size ?_) | (refine wpList_store_rowN rfl 118 (.tmp 4) (.tmp 41) rfl rfl (w.heap.size + 1) (inA s tu 0) rfl rfl 118 (inA eS 0 0) H4.out.q in_size rfl (in_one _ _ _) Zr HZr.out ?_) | (fail))
        refine bodyPost_ret (v := .tuple #[.agg (inA s tu 0), .slice A' L.length cap']) (results_row_tmp (t1 := 4) (t2 := 5) (ty1 := 118) (by kernel_rfl) _ _ (w.heap.size + 1) 118 _ _ _ rfl rfl HR.out.1 Tryd.underlying118 rfl in_size) rfl ?_
        refine ⟨⟨A', L.length, cap'⟩, by rw [E1.out]; rfl, ?_, HR.out.2⟩
        rw [E1.out]
        rw [← HZr.out]
        exact HS4.out.same fun k hk => setRow_other Z2 _ k _ (fun c => HS4.out.ne H4.out.q (by decide) (by rw [hk, c]))
    have d2 : (cc == 0) = false := beq_eq_false_iff_ne.2 h2
    have d3 : (cc != 0) = true := by rw [bne, d2]; rfl
    have e1 : rProps k s a = .error cc := by unfold rProps; rw [HG.out]; simp only; rw [if_neg h1, if_pos h2]
    have E1 := Lib.hid (dProps_bad e1)
    have C2 := Lib.hid (dfail' s (a, 0) cc w1)
    have hx : dFail (a, 0) cc = (a, cc) := rfl
    rw [hx] at C2
    simp only at C2
    clear e1 hx hat h1 h2
    go_wp2_with (first | (refine wpList_load_row rfl 118 (.tmp 2) rfl (w.heap.size) rfl 118 _ (0, 0) _ H1.out.p Tryd.underlying118 rfl in_size ?_) | (fail))
    refine C2.out.mono ?_
    rintro e w2 ⟨rfl, b2⟩
    have H2 := Lib.hid (H1.out.step b2)
    clear b2 C2
    obtain ⟨Z2, hZ2⟩ : ∃ Z, w2.setRow w.heap.size (inA s a cc) = Z := ⟨_, rfl⟩
    have h := H2.out.put (a, cc)
    simp only at h
    rw [hZ2] at h
    have H4 := Lib.hid h
    have HZ2 := Lib.hid hZ2
    clear h hZ2
    have hr := H4.out.ret
    obtain ⟨Zr, hZr⟩ : ∃ Z, Z2.setRow (w.heap.size + 1) (inA s a cc) = Z := ⟨_, rfl⟩
    rw [hZr] at hr
    have HR := Lib.hid hr
    have HZr := Lib.hid hZr
    clear hr hZr
    go_wp2_with (first | (refine wpList_store_rowN rfl 118 (.tmp 2) (.tmp 29) rfl rfl (w.heap.size) (inA s a cc) rfl rfl 118 (inA s a 0) H2.out.p in_size rfl (in_one _ _ _) Z2 HZ2.out ?_) | (refine wpList_load_row rfl 118 (.tmp 2) rfl (w.heap.size) rfl 118 _ (0, 0) _ H4.out.p Tryd.underlying118 rfl in_size ?_) | (refine wpList_store_rowN rfl 118 (.tmp 4) (.tmp 30) rfl rfl (w.heap.size + 1) (inA s a cc) rfl rfl 118 (inA eS 0 0) H4.out.q in_size rfl (in_one _ _ _) Zr HZr.out ?_) | (fail))
    refine bodyPost_ret (v := .tuple #[.agg (inA s a cc), .slice none 0 0]) (results_row_tmp (t1 := 4) (t2 := 5) (ty1 := 118) (by kernel_rfl) _ _ (w.heap.size + 1) 118 _ _ _ rfl rfl HR.out.1 Tryd.underlying118 rfl in_size) rfl ?_
    exact dpsPost_none E1.out HR.out.2
  · have d1 : (c == 0) = false := beq_eq_false_iff_ne.2 hc
    have d2 : (c != 0) = true := by rw [bne, d1]; rfl
    have E1 := Lib.hid (show dProps k s (a, c) = ((a, c), []) by unfold dProps dRd; rw [if_pos hc])
    clear hc
    have hr := H0.out.ret
    obtain ⟨Zr, hZr⟩ : ∃ Z, W.setRow (w.heap.size + 1) (inA s a c) = Z := ⟨_, rfl⟩
    rw [hZr] at hr
    have HR := Lib.hid hr
    have HZr := Lib.hid hZr
    clear hr hZr
    go_enter Tryd.func63, Tryd.ntmps63
    go_wp2_with (first | (rw [HW.out]) | (refine wpList_load_row rfl 118 (.tmp 2) rfl (w.heap.size) rfl 118 _ (0, 0) _ H0.out.p Tryd.underlying118 rfl in_size ?_) | (refine wpList_store_rowN rfl 118 (.tmp 4) (.tmp 13) rfl rfl (w.heap.size + 1) (inA s a c) rfl rfl 118 (inA eS 0 0) H0.out.q in_size rfl (in_one _ _ _) Zr HZr.out ?_) | (fail))
    refine bodyPost_ret (v := .tuple #[.agg (inA s a c), .slice none 0 0]) (results_row_tmp (t1 := 4) (t2 := 5) (ty1 := 118) (by kernel_rfl) _ _ (w.heap.size + 1) 118 _ _ _ rfl rfl HR.out.1 Tryd.underlying118 rfl in_size) rfl ?_
    exact dpsPost_none E1.out HR.out.2
end Go.Proofs.YtedapgeabpadaaaDoor

