/- The walk of the document's read: one property's value. -/
import Derived.Test.YtifbkfkieppacaaDoorRdPlain
import Derived.Test.YtifbkfkieppacaaDoorPutV
import Derived.Test.YtifbkfkieppacaaDoorMod
namespace Go.Proofs.YtifbkfkieppacaaDoor
set_option linter.unusedVariables false
open Go.RowKit Pl

def RrPost (w w' : World) (e : Ending) : Option (Pp × Int) → Prop
  | some (p, to) => e = .returned (.tuple #[ppV p, .int .i64 to, .bool true]) ∧ Below w.heap.size w w'
  | none => (∃ q to, e = .returned (.tuple #[ppV q, .int .i64 to, .bool false])) ∧ Below w.heap.size w w'
set_option maxRecDepth 100000 in
set_option maxHeartbeats 8000000 in
theorem refread_any (s : ByteArray) (a id : Int) (w : World) (hs : s.size ≤ 140737488351232) (h0 : -9223372036854775808 ≤ a) (h1 : a ≤ 9223372036854775807) :
    Calls Tryd.prog 29 #[.string s, .int .i64 a, .agg #[.int .i64 id, .int .i64 0, .string ⟨#[]⟩, .string ⟨#[]⟩]] w fun e w' => RrPost w w' e (rdv s id a) := by
  obtain ⟨k, hk⟩ : ∃ k, kindOf id = k := ⟨_, rfl⟩
  have CK : ∀ X : World, Calls Tryd.prog 21 #[.int .i64 id] X fun e w' => e = .returned (.int .i64 k) ∧ Below X.heap.size X w' := fun X => by rw [← hk]; exact refkind_any id X
  have hP := (Blk.new w (ppA ⟨id, 0, ⟨#[]⟩, ⟨#[]⟩⟩) 47).alloc (.cells (ppA ⟨0, 0, ⟨#[]⟩, ⟨#[]⟩⟩) 47)
  have hQ := Blk.new (w.alloc (.cells (ppA ⟨id, 0, ⟨#[]⟩, ⟨#[]⟩⟩) 47)) (ppA ⟨0, 0, ⟨#[]⟩, ⟨#[]⟩⟩) 47
  rw [show (w.alloc (.cells (ppA ⟨id, 0, ⟨#[]⟩, ⟨#[]⟩⟩) 47)).heap.size = w.heap.size + 1 from by simp] at hQ
  have b0 : Below w.heap.size w ((w.alloc (.cells (ppA ⟨id, 0, ⟨#[]⟩, ⟨#[]⟩⟩) 47)).alloc (.cells (ppA ⟨0, 0, ⟨#[]⟩, ⟨#[]⟩⟩) 47)) := ((Below.refl _ _).alloc (Nat.le_refl _) _).alloc (by simp) _
  have hW' : (w.alloc (.cells (ppA ⟨id, 0, ⟨#[]⟩, ⟨#[]⟩⟩) 47)).alloc (.cells (ppA ⟨0, 0, ⟨#[]⟩, ⟨#[]⟩⟩) 47) = (w.alloc (.cells #[.int .i64 id, .int .i64 0, .string ⟨#[]⟩, .string ⟨#[]⟩] 47)).alloc (.cells #[.int .i64 0, .int .i64 0, .string ⟨#[]⟩, .string ⟨#[]⟩] 47) := rfl
  obtain ⟨W, hW⟩ : ∃ W, (w.alloc (.cells (ppA ⟨id, 0, ⟨#[]⟩, ⟨#[]⟩⟩) 47)).alloc (.cells (ppA ⟨0, 0, ⟨#[]⟩, ⟨#[]⟩⟩) 47) = W := ⟨_, rfl⟩
  rw [hW] at hP hQ b0 hW'
  have p0 := hP.cell 0
  simp only [ppA, List.getElem?_toArray, List.getElem?_cons_zero] at p0
  have HP := Lib.hid hP
  have HQ := Lib.hid hQ
  have B0 := Lib.hid b0
  have HW := Lib.hid hW'.symm
  have CK := Lib.hid CK
  have HKD := Lib.hid hk
  have HS := Lib.hid hs
  have HA := Lib.hid (And.intro h0 h1)
  clear hP hQ b0 hk hs h0 h1 hW hW'
  by_cases h4 : k = 4
  · subst h4
    obtain ⟨⟨n, to, c⟩, hg⟩ : ∃ g, getV s a = g := ⟨_, rfl⟩
    have CF : ∀ X : World, _ := fun X => refget_all s a X HS.out HA.out.1 HA.out.2
    rw [hg] at CF
    have HG := Lib.hid hg
    have CF := Lib.hid CF
    clear hg
    by_cases hc : c = 0
    · subst hc
      have HV : Hid (rdv s id a = some (⟨id, n, noS, noS⟩, to)) := Lib.hid (by unfold rdv; simp [HKD.out, HG.out])
      go_enter Tryd.func29, Tryd.ntmps29
      go_wp2_with fail
      rw [HW.out]
      refine (CK.out W).mono ?_
      rintro e w1 ⟨rfl, b1⟩
      have P1 := Lib.hid (HP.out.of_below b1)
      have Q1 := Lib.hid (HQ.out.of_below b1)
      have B1 := Lib.hid (B0.out.trans (b1.mono B0.out.size))
      clear b1
      have c0 := P1.out.cell 0
      have c1 := P1.out.cell 1
      have c2 := P1.out.cell 2
      have c3 := P1.out.cell 3
      have d0 := Q1.out.cell 0
      have d1 := Q1.out.cell 1
      have d2 := Q1.out.cell 2
      have d3 := Q1.out.cell 3
      simp only [ppA, List.getElem?_toArray, List.getElem?_cons_zero, List.getElem?_cons_succ] at c0 c1 c2 c3 d0 d1 d2 d3
      have f0 := P1.out.frozen 0
      have f1 := P1.out.frozen 1
      have f2 := P1.out.frozen 2
      have f3 := P1.out.frozen 3
      have g0 := Q1.out.frozen 0
      have g1 := Q1.out.frozen 1
      have g2 := Q1.out.frozen 2
      have g3 := Q1.out.frozen 3
      go_wp2_with fail
      refine (CF.out _).mono ?_
      rintro e w2 ⟨rfl, rfl⟩
      go_wp2
      refine bodyPost_ret (v := .tuple #[.agg #[.int .i64 id, .int .i64 n, .string ⟨#[]⟩, .string ⟨#[]⟩], .int .i64 to, .bool true]) (by simp [results, Tryd.results29, go_sem, d0, d1, d2, d3]) rfl ?_
      rw [HV.out]
      exact ⟨rfl, (((((B1.out.setCell (by simp) _).setCell (by simp) _).setCell (by simp) _).setCell (by simp) _).setCell (by simp) _)⟩
    · have e1 : (c == 0) = false := beq_eq_false_iff_ne.2 hc
      have HV : Hid (rdv s id a = none) := Lib.hid (by unfold rdv; simp [HKD.out, HG.out, hc])
      clear hc
      go_enter Tryd.func29, Tryd.ntmps29
      go_wp2_with fail
      rw [HW.out]
      refine (CK.out W).mono ?_
      rintro e w1 ⟨rfl, b1⟩
      have P1 := Lib.hid (HP.out.of_below b1)
      have Q1 := Lib.hid (HQ.out.of_below b1)
      have B1 := Lib.hid (B0.out.trans (b1.mono B0.out.size))
      clear b1
      have c0 := P1.out.cell 0
      have c1 := P1.out.cell 1
      have c2 := P1.out.cell 2
      have c3 := P1.out.cell 3
      have d0 := Q1.out.cell 0
      have d1 := Q1.out.cell 1
      have d2 := Q1.out.cell 2
      have d3 := Q1.out.cell 3
      simp only [ppA, List.getElem?_toArray, List.getElem?_cons_zero, List.getElem?_cons_succ] at c0 c1 c2 c3 d0 d1 d2 d3
      have f0 := P1.out.frozen 0
      have f1 := P1.out.frozen 1
      have f2 := P1.out.frozen 2
      have f3 := P1.out.frozen 3
      have g0 := Q1.out.frozen 0
      have g1 := Q1.out.frozen 1
      have g2 := Q1.out.frozen 2
      have g3 := Q1.out.frozen 3
      go_wp2_with fail
      refine (CF.out _).mono ?_
      rintro e w2 ⟨rfl, rfl⟩
      go_wp2
      refine bodyPost_ret (v := .tuple #[.agg #[.int .i64 id, .int .i64 n, .string ⟨#[]⟩, .string ⟨#[]⟩], .int .i64 to, .bool false]) (by simp [results, Tryd.results29, go_sem, d0, d1, d2, d3]) rfl ?_
      rw [HV.out]
      exact ⟨⟨⟨_, _, _, _⟩, _, rfl⟩, (((((B1.out.setCell (by simp) _).setCell (by simp) _).setCell (by simp) _).setCell (by simp) _).setCell (by simp) _)⟩
  · by_cases h5 : k = 5
    · subst h5
      obtain ⟨⟨n, to, c⟩, hg⟩ : ∃ g, getD s a = g := ⟨_, rfl⟩
      have CF : ∀ X : World, _ := fun X => refgetdata_all s a X HS.out HA.out.1 HA.out.2
      rw [hg] at CF
      have HG := Lib.hid hg
      have CF := Lib.hid CF
      clear hg
      by_cases hc : c = 0
      · subst hc
        have HV : Hid (rdv s id a = some (⟨id, 0, n, noS⟩, to)) := Lib.hid (by unfold rdv; simp [HKD.out, HG.out])
        go_enter Tryd.func29, Tryd.ntmps29
        go_wp2_with fail
        rw [HW.out]
        refine (CK.out W).mono ?_
        rintro e w1 ⟨rfl, b1⟩
        have P1 := Lib.hid (HP.out.of_below b1)
        have Q1 := Lib.hid (HQ.out.of_below b1)
        have B1 := Lib.hid (B0.out.trans (b1.mono B0.out.size))
        clear b1
        have c0 := P1.out.cell 0
        have c1 := P1.out.cell 1
        have c2 := P1.out.cell 2
        have c3 := P1.out.cell 3
        have d0 := Q1.out.cell 0
        have d1 := Q1.out.cell 1
        have d2 := Q1.out.cell 2
        have d3 := Q1.out.cell 3
        simp only [ppA, List.getElem?_toArray, List.getElem?_cons_zero, List.getElem?_cons_succ] at c0 c1 c2 c3 d0 d1 d2 d3
        have f0 := P1.out.frozen 0
        have f1 := P1.out.frozen 1
        have f2 := P1.out.frozen 2
        have f3 := P1.out.frozen 3
        have g0 := Q1.out.frozen 0
        have g1 := Q1.out.frozen 1
        have g2 := Q1.out.frozen 2
        have g3 := Q1.out.frozen 3
        go_wp2_with fail
        refine (CF.out _).mono ?_
        rintro e w2 ⟨rfl, rfl⟩
        go_wp2
        refine bodyPost_ret (v := .tuple #[.agg #[.int .i64 id, .int .i64 0, .string n, .string ⟨#[]⟩], .int .i64 to, .bool true]) (by simp [results, Tryd.results29, go_sem, d0, d1, d2, d3]) rfl ?_
        rw [HV.out]
        exact ⟨rfl, (((((B1.out.setCell (by simp) _).setCell (by simp) _).setCell (by simp) _).setCell (by simp) _).setCell (by simp) _)⟩
      · have e1 : (c == 0) = false := beq_eq_false_iff_ne.2 hc
        have HV : Hid (rdv s id a = none) := Lib.hid (by unfold rdv; simp [HKD.out, HG.out, hc])
        clear hc
        go_enter Tryd.func29, Tryd.ntmps29
        go_wp2_with fail
        rw [HW.out]
        refine (CK.out W).mono ?_
        rintro e w1 ⟨rfl, b1⟩
        have P1 := Lib.hid (HP.out.of_below b1)
        have Q1 := Lib.hid (HQ.out.of_below b1)
        have B1 := Lib.hid (B0.out.trans (b1.mono B0.out.size))
        clear b1
        have c0 := P1.out.cell 0
        have c1 := P1.out.cell 1
        have c2 := P1.out.cell 2
        have c3 := P1.out.cell 3
        have d0 := Q1.out.cell 0
        have d1 := Q1.out.cell 1
        have d2 := Q1.out.cell 2
        have d3 := Q1.out.cell 3
        simp only [ppA, List.getElem?_toArray, List.getElem?_cons_zero, List.getElem?_cons_succ] at c0 c1 c2 c3 d0 d1 d2 d3
        have f0 := P1.out.frozen 0
        have f1 := P1.out.frozen 1
        have f2 := P1.out.frozen 2
        have f3 := P1.out.frozen 3
        have g0 := Q1.out.frozen 0
        have g1 := Q1.out.frozen 1
        have g2 := Q1.out.frozen 2
        have g3 := Q1.out.frozen 3
        go_wp2_with fail
        refine (CF.out _).mono ?_
        rintro e w2 ⟨rfl, rfl⟩
        go_wp2
        refine bodyPost_ret (v := .tuple #[.agg #[.int .i64 id, .int .i64 0, .string n, .string ⟨#[]⟩], .int .i64 to, .bool false]) (by simp [results, Tryd.results29, go_sem, d0, d1, d2, d3]) rfl ?_
        rw [HV.out]
        exact ⟨⟨⟨_, _, _, _⟩, _, rfl⟩, (((((B1.out.setCell (by simp) _).setCell (by simp) _).setCell (by simp) _).setCell (by simp) _).setCell (by simp) _)⟩
    · by_cases h6 : k = 6
      · subst h6
        obtain ⟨⟨n, to, c⟩, hg⟩ : ∃ g, tget s a = g := ⟨_, rfl⟩
        have CF : ∀ X : World, _ := fun X => reftget_any s a X HS.out HA.out.1 HA.out.2
        rw [hg] at CF
        have HG := Lib.hid hg
        have CF := Lib.hid CF
        clear hg
        by_cases hc : c = 0
        · subst hc
          have HV : Hid (rdv s id a = some (⟨id, 0, n, noS⟩, to)) := Lib.hid (by unfold rdv; simp [HKD.out, HG.out])
          go_enter Tryd.func29, Tryd.ntmps29
          go_wp2_with fail
          rw [HW.out]
          refine (CK.out W).mono ?_
          rintro e w1 ⟨rfl, b1⟩
          have P1 := Lib.hid (HP.out.of_below b1)
          have Q1 := Lib.hid (HQ.out.of_below b1)
          have B1 := Lib.hid (B0.out.trans (b1.mono B0.out.size))
          clear b1
          have c0 := P1.out.cell 0
          have c1 := P1.out.cell 1
          have c2 := P1.out.cell 2
          have c3 := P1.out.cell 3
          have d0 := Q1.out.cell 0
          have d1 := Q1.out.cell 1
          have d2 := Q1.out.cell 2
          have d3 := Q1.out.cell 3
          simp only [ppA, List.getElem?_toArray, List.getElem?_cons_zero, List.getElem?_cons_succ] at c0 c1 c2 c3 d0 d1 d2 d3
          have f0 := P1.out.frozen 0
          have f1 := P1.out.frozen 1
          have f2 := P1.out.frozen 2
          have f3 := P1.out.frozen 3
          have g0 := Q1.out.frozen 0
          have g1 := Q1.out.frozen 1
          have g2 := Q1.out.frozen 2
          have g3 := Q1.out.frozen 3
          go_wp2_with fail
          refine (CF.out _).mono ?_
          rintro e w2 ⟨rfl, rfl⟩
          go_wp2
          refine bodyPost_ret (v := .tuple #[.agg #[.int .i64 id, .int .i64 0, .string n, .string ⟨#[]⟩], .int .i64 to, .bool true]) (by simp [results, Tryd.results29, go_sem, d0, d1, d2, d3]) rfl ?_
          rw [HV.out]
          exact ⟨rfl, (((((B1.out.setCell (by simp) _).setCell (by simp) _).setCell (by simp) _).setCell (by simp) _).setCell (by simp) _)⟩
        · have e1 : (c == 0) = false := beq_eq_false_iff_ne.2 hc
          have HV : Hid (rdv s id a = none) := Lib.hid (by unfold rdv; simp [HKD.out, HG.out, hc])
          clear hc
          go_enter Tryd.func29, Tryd.ntmps29
          go_wp2_with fail
          rw [HW.out]
          refine (CK.out W).mono ?_
          rintro e w1 ⟨rfl, b1⟩
          have P1 := Lib.hid (HP.out.of_below b1)
          have Q1 := Lib.hid (HQ.out.of_below b1)
          have B1 := Lib.hid (B0.out.trans (b1.mono B0.out.size))
          clear b1
          have c0 := P1.out.cell 0
          have c1 := P1.out.cell 1
          have c2 := P1.out.cell 2
          have c3 := P1.out.cell 3
          have d0 := Q1.out.cell 0
          have d1 := Q1.out.cell 1
          have d2 := Q1.out.cell 2
          have d3 := Q1.out.cell 3
          simp only [ppA, List.getElem?_toArray, List.getElem?_cons_zero, List.getElem?_cons_succ] at c0 c1 c2 c3 d0 d1 d2 d3
          have f0 := P1.out.frozen 0
          have f1 := P1.out.frozen 1
          have f2 := P1.out.frozen 2
          have f3 := P1.out.frozen 3
          have g0 := Q1.out.frozen 0
          have g1 := Q1.out.frozen 1
          have g2 := Q1.out.frozen 2
          have g3 := Q1.out.frozen 3
          go_wp2_with fail
          refine (CF.out _).mono ?_
          rintro e w2 ⟨rfl, rfl⟩
          go_wp2
          refine bodyPost_ret (v := .tuple #[.agg #[.int .i64 id, .int .i64 0, .string n, .string ⟨#[]⟩], .int .i64 to, .bool false]) (by simp [results, Tryd.results29, go_sem, d0, d1, d2, d3]) rfl ?_
          rw [HV.out]
          exact ⟨⟨⟨_, _, _, _⟩, _, rfl⟩, (((((B1.out.setCell (by simp) _).setCell (by simp) _).setCell (by simp) _).setCell (by simp) _).setCell (by simp) _)⟩
      · by_cases h7 : k = 7
        · subst h7
          obtain ⟨⟨n, to, c⟩, hg⟩ : ∃ g, tget s a = g := ⟨_, rfl⟩
          have CF : ∀ X : World, _ := fun X => reftget_any s a X HS.out HA.out.1 HA.out.2
          rw [hg] at CF
          have HG := Lib.hid hg
          have CF := Lib.hid CF
          clear hg
          by_cases hc : c = 0
          · subst hc
            have HTO := Lib.hid (tget_to HG.out HS.out)
            obtain ⟨⟨n2, to2, c2⟩, hg2⟩ : ∃ g, tget s to = g := ⟨_, rfl⟩
            have CG : ∀ X : World, _ := fun X => reftget_any s to X HS.out HTO.out.1 HTO.out.2
            rw [hg2] at CG
            have HG2 := Lib.hid hg2
            have CG := Lib.hid CG
            clear hg2
            by_cases hc2 : c2 = 0
            · subst hc2
              have HV : Hid (rdv s id a = some (⟨id, 0, n, n2⟩, to2)) := Lib.hid (by unfold rdv; simp [HKD.out, HG.out, HG2.out])
              go_enter Tryd.func29, Tryd.ntmps29
              go_wp2_with fail
              rw [HW.out]
              refine (CK.out W).mono ?_
              rintro e w1 ⟨rfl, b1⟩
              have P1 := Lib.hid (HP.out.of_below b1)
              have Q1 := Lib.hid (HQ.out.of_below b1)
              have B1 := Lib.hid (B0.out.trans (b1.mono B0.out.size))
              clear b1
              have c0 := P1.out.cell 0
              have c1 := P1.out.cell 1
              have c2 := P1.out.cell 2
              have c3 := P1.out.cell 3
              have d0 := Q1.out.cell 0
              have d1 := Q1.out.cell 1
              have d2 := Q1.out.cell 2
              have d3 := Q1.out.cell 3
              simp only [ppA, List.getElem?_toArray, List.getElem?_cons_zero, List.getElem?_cons_succ] at c0 c1 c2 c3 d0 d1 d2 d3
              have f0 := P1.out.frozen 0
              have f1 := P1.out.frozen 1
              have f2 := P1.out.frozen 2
              have f3 := P1.out.frozen 3
              have g0 := Q1.out.frozen 0
              have g1 := Q1.out.frozen 1
              have g2 := Q1.out.frozen 2
              have g3 := Q1.out.frozen 3
              go_wp2_with fail
              refine (CF.out _).mono ?_
              rintro e w2 ⟨rfl, rfl⟩
              go_wp2_with fail
              refine (CG.out _).mono ?_
              rintro e w2 ⟨rfl, rfl⟩
              go_wp2
              refine bodyPost_ret (v := .tuple #[.agg #[.int .i64 id, .int .i64 0, .string n, .string n2], .int .i64 to2, .bool true]) (by simp [results, Tryd.results29, go_sem, d0, d1, d2, d3]) rfl ?_
              rw [HV.out]
              exact ⟨rfl, ((((((B1.out.setCell (by simp) _).setCell (by simp) _).setCell (by simp) _).setCell (by simp) _).setCell (by simp) _).setCell (by simp) _)⟩
            · have e1 : (c2 == 0) = false := beq_eq_false_iff_ne.2 hc2
              have HV : Hid (rdv s id a = none) := Lib.hid (by unfold rdv; simp [HKD.out, HG.out, HG2.out, hc2])
              clear hc2
              go_enter Tryd.func29, Tryd.ntmps29
              go_wp2_with fail
              rw [HW.out]
              refine (CK.out W).mono ?_
              rintro e w1 ⟨rfl, b1⟩
              have P1 := Lib.hid (HP.out.of_below b1)
              have Q1 := Lib.hid (HQ.out.of_below b1)
              have B1 := Lib.hid (B0.out.trans (b1.mono B0.out.size))
              clear b1
              have c0 := P1.out.cell 0
              have c1 := P1.out.cell 1
              have c2 := P1.out.cell 2
              have c3 := P1.out.cell 3
              have d0 := Q1.out.cell 0
              have d1 := Q1.out.cell 1
              have d2 := Q1.out.cell 2
              have d3 := Q1.out.cell 3
              simp only [ppA, List.getElem?_toArray, List.getElem?_cons_zero, List.getElem?_cons_succ] at c0 c1 c2 c3 d0 d1 d2 d3
              have f0 := P1.out.frozen 0
              have f1 := P1.out.frozen 1
              have f2 := P1.out.frozen 2
              have f3 := P1.out.frozen 3
              have g0 := Q1.out.frozen 0
              have g1 := Q1.out.frozen 1
              have g2 := Q1.out.frozen 2
              have g3 := Q1.out.frozen 3
              go_wp2_with fail
              refine (CF.out _).mono ?_
              rintro e w2 ⟨rfl, rfl⟩
              go_wp2_with fail
              refine (CG.out _).mono ?_
              rintro e w2 ⟨rfl, rfl⟩
              go_wp2
              refine bodyPost_ret (v := .tuple #[.agg #[.int .i64 id, .int .i64 0, .string n, .string n2], .int .i64 to2, .bool false]) (by simp [results, Tryd.results29, go_sem, d0, d1, d2, d3]) rfl ?_
              rw [HV.out]
              exact ⟨⟨⟨_, _, _, _⟩, _, rfl⟩, ((((((B1.out.setCell (by simp) _).setCell (by simp) _).setCell (by simp) _).setCell (by simp) _).setCell (by simp) _).setCell (by simp) _)⟩
          · have e1 : (c == 0) = false := beq_eq_false_iff_ne.2 hc
            have e2 : (c != 0) = true := by rw [bne, e1]; rfl
            have HV : Hid (rdv s id a = none) := Lib.hid (by unfold rdv; simp [HKD.out, HG.out, hc])
            clear hc
            go_enter Tryd.func29, Tryd.ntmps29
            go_wp2_with fail
            rw [HW.out]
            refine (CK.out W).mono ?_
            rintro e w1 ⟨rfl, b1⟩
            have P1 := Lib.hid (HP.out.of_below b1)
            have Q1 := Lib.hid (HQ.out.of_below b1)
            have B1 := Lib.hid (B0.out.trans (b1.mono B0.out.size))
            clear b1
            have c0 := P1.out.cell 0
            have c1 := P1.out.cell 1
            have c2 := P1.out.cell 2
            have c3 := P1.out.cell 3
            have d0 := Q1.out.cell 0
            have d1 := Q1.out.cell 1
            have d2 := Q1.out.cell 2
            have d3 := Q1.out.cell 3
            simp only [ppA, List.getElem?_toArray, List.getElem?_cons_zero, List.getElem?_cons_succ] at c0 c1 c2 c3 d0 d1 d2 d3
            have f0 := P1.out.frozen 0
            have f1 := P1.out.frozen 1
            have f2 := P1.out.frozen 2
            have f3 := P1.out.frozen 3
            have g0 := Q1.out.frozen 0
            have g1 := Q1.out.frozen 1
            have g2 := Q1.out.frozen 2
            have g3 := Q1.out.frozen 3
            go_wp2_with fail
            refine (CF.out _).mono ?_
            rintro e w2 ⟨rfl, rfl⟩
            go_wp2
            refine bodyPost_ret (v := .tuple #[.agg #[.int .i64 id, .int .i64 0, .string ⟨#[]⟩, .string ⟨#[]⟩], .int .i64 0, .bool false]) (by simp [results, Tryd.results29, go_sem, d0, d1, d2, d3]) rfl ?_
            rw [HV.out]
            exact ⟨⟨⟨_, _, _, _⟩, _, rfl⟩, ((((B1.out.setCell (by simp) _).setCell (by simp) _).setCell (by simp) _).setCell (by simp) _)⟩
        · have HK' : Hid (¬ k = 4 ∧ ¬ k = 5 ∧ ¬ k = 6 ∧ ¬ k = 7) := Lib.hid ⟨h4, h5, h6, h7⟩
          have e4 : (k == 4) = false := beq_eq_false_iff_ne.2 h4
          have e5 : (k == 5) = false := beq_eq_false_iff_ne.2 h5
          have e6 : (k == 6) = false := beq_eq_false_iff_ne.2 h6
          have e7 : (k == 7) = false := beq_eq_false_iff_ne.2 h7
          clear h4 h5 h6 h7
          obtain ⟨⟨n, to, c⟩, hg⟩ : ∃ g, getF s a (wid k) = g := ⟨_, rfl⟩
          have CF : ∀ X : World, _ := fun X => refgetfixed_all s a (wid k) X HS.out HA.out.1 HA.out.2
          rw [hg] at CF
          have HG := Lib.hid hg
          have CF := Lib.hid CF
          clear hg
          by_cases hc : c = 0
          · subst hc
            have HV : Hid (rdv s id a = some (⟨id, n, noS, noS⟩, to)) := Lib.hid (by obtain ⟨a4, a5, a6, a7⟩ := HK'.out; unfold rdv; rw [HKD.out, if_neg a4, if_neg a5, if_neg a6, if_neg a7, HG.out]; rfl)
            go_enter Tryd.func29, Tryd.ntmps29
            go_wp2_with fail
            rw [HW.out]
            refine (CK.out W).mono ?_
            rintro e w1 ⟨rfl, b1⟩
            have P1 := Lib.hid (HP.out.of_below b1)
            have Q1 := Lib.hid (HQ.out.of_below b1)
            have B1 := Lib.hid (B0.out.trans (b1.mono B0.out.size))
            clear b1
            have c0 := P1.out.cell 0
            have c1 := P1.out.cell 1
            have c2 := P1.out.cell 2
            have c3 := P1.out.cell 3
            have d0 := Q1.out.cell 0
            have d1 := Q1.out.cell 1
            have d2 := Q1.out.cell 2
            have d3 := Q1.out.cell 3
            simp only [ppA, List.getElem?_toArray, List.getElem?_cons_zero, List.getElem?_cons_succ] at c0 c1 c2 c3 d0 d1 d2 d3
            have f0 := P1.out.frozen 0
            have f1 := P1.out.frozen 1
            have f2 := P1.out.frozen 2
            have f3 := P1.out.frozen 3
            have g0 := Q1.out.frozen 0
            have g1 := Q1.out.frozen 1
            have g2 := Q1.out.frozen 2
            have g3 := Q1.out.frozen 3
            go_wp2_with fail
            refine (refwidth_any k _).mono ?_
            rintro e w2 ⟨rfl, rfl⟩
            go_wp2_with fail
            refine (CF.out _).mono ?_
            rintro e w2 ⟨rfl, rfl⟩
            go_wp2
            refine bodyPost_ret (v := .tuple #[.agg #[.int .i64 id, .int .i64 n, .string ⟨#[]⟩, .string ⟨#[]⟩], .int .i64 to, .bool true]) (by simp [results, Tryd.results29, go_sem, d0, d1, d2, d3]) rfl ?_
            rw [HV.out]
            exact ⟨rfl, (((((B1.out.setCell (by simp) _).setCell (by simp) _).setCell (by simp) _).setCell (by simp) _).setCell (by simp) _)⟩
          · have e1 : (c == 0) = false := beq_eq_false_iff_ne.2 hc
            have HV : Hid (rdv s id a = none) := Lib.hid (by obtain ⟨a4, a5, a6, a7⟩ := HK'.out; unfold rdv; rw [HKD.out, if_neg a4, if_neg a5, if_neg a6, if_neg a7, HG.out]; exact if_neg hc)
            clear hc
            go_enter Tryd.func29, Tryd.ntmps29
            go_wp2_with fail
            rw [HW.out]
            refine (CK.out W).mono ?_
            rintro e w1 ⟨rfl, b1⟩
            have P1 := Lib.hid (HP.out.of_below b1)
            have Q1 := Lib.hid (HQ.out.of_below b1)
            have B1 := Lib.hid (B0.out.trans (b1.mono B0.out.size))
            clear b1
            have c0 := P1.out.cell 0
            have c1 := P1.out.cell 1
            have c2 := P1.out.cell 2
            have c3 := P1.out.cell 3
            have d0 := Q1.out.cell 0
            have d1 := Q1.out.cell 1
            have d2 := Q1.out.cell 2
            have d3 := Q1.out.cell 3
            simp only [ppA, List.getElem?_toArray, List.getElem?_cons_zero, List.getElem?_cons_succ] at c0 c1 c2 c3 d0 d1 d2 d3
            have f0 := P1.out.frozen 0
            have f1 := P1.out.frozen 1
            have f2 := P1.out.frozen 2
            have f3 := P1.out.frozen 3
            have g0 := Q1.out.frozen 0
            have g1 := Q1.out.frozen 1
            have g2 := Q1.out.frozen 2
            have g3 := Q1.out.frozen 3
            go_wp2_with fail
            refine (refwidth_any k _).mono ?_
            rintro e w2 ⟨rfl, rfl⟩
            go_wp2_with fail
            refine (CF.out _).mono ?_
            rintro e w2 ⟨rfl, rfl⟩
            go_wp2
            refine bodyPost_ret (v := .tuple #[.agg #[.int .i64 id, .int .i64 n, .string ⟨#[]⟩, .string ⟨#[]⟩], .int .i64 to, .bool false]) (by simp [results, Tryd.results29, go_sem, d0, d1, d2, d3]) rfl ?_
            rw [HV.out]
            exact ⟨⟨⟨_, _, _, _⟩, _, rfl⟩, (((((B1.out.setCell (by simp) _).setCell (by simp) _).setCell (by simp) _).setCell (by simp) _).setCell (by simp) _)⟩
end Go.Proofs.YtifbkfkieppacaaDoor
