/- The walk of the document's Overlap (overlap). -/
import Derived.Test.YtichhppfdjkgkaaDoorOverFrom
namespace Go.Proofs.YtichhppfdjkgkaaDoor
set_option linter.unusedVariables false
open Go.RowKit Pl Go.Shelf

set_option maxHeartbeats 1000000 in
theorem refoverlap_any (F G : ByteArray) (w : World) (hF : F.size ≤ 281474976710656) (hG : G.size ≤ 281474976710656) :
    Calls Tryd.prog 12 #[.string F, .string G] w fun e w' => e = .returned (.bool (refOv F G)) ∧ Below w.heap.size w w' := by
  have c1 := refcheckfilter_any F w hF
  have c2 : ∀ W, _ := fun W => refcheckfilter_any G W hG
  cases hf : filtB F
  · have hv : refOv F G = false := by unfold refOv; rw [hf]; rfl
    rw [hv]
    have n1 : (filtC F != 0) = true := by rw [filtC_bad hf]; rfl
    have n2 : (filtC F == 0) = false := by rw [filtC_bad hf]; rfl
    obtain ⟨r1, h1⟩ : ∃ r, filtC F = r := ⟨_, rfl⟩
    obtain ⟨r2, h2⟩ : ∃ r, filtC G = r := ⟨_, rfl⟩
    rw [h1] at c1 n1 n2
    rw [h2] at c2
    have C1 := Lib.hid c1
    have C2 := Lib.hid c2
    clear c1 c2 h1 h2 hv hf
    go_enter Tryd.func12, Tryd.ntmps12
    go_wp2_with fail
    refine C1.out.mono ?_
    rintro e w1 ⟨rfl, b1⟩
    go_wp2_with fail
    refine (C2.out _).mono ?_
    rintro e w2 ⟨rfl, b2⟩
    go_wp2
    go_ret
    exact ⟨rfl, b1.trans (b2.mono b1.size)⟩
  · have h1 := filtC_ok hf
    rw [h1] at c1
    cases hg : filtB G
    · have hv : refOv F G = false := by unfold refOv; rw [hg, Bool.false_and, Bool.and_false]
      rw [hv]
      have n1 : (filtC G != 0) = true := by rw [filtC_bad hg]; rfl
      have n2 : (filtC G == 0) = false := by rw [filtC_bad hg]; rfl
      obtain ⟨r2, h2⟩ : ∃ r, filtC G = r := ⟨_, rfl⟩
      rw [h2] at c2 n1 n2
      have C1 := Lib.hid c1
      have C2 := Lib.hid c2
      clear c1 c2 h1 h2 hv hf hg
      go_enter Tryd.func12, Tryd.ntmps12
      go_wp2_with fail
      refine C1.out.mono ?_
      rintro e w1 ⟨rfl, b1⟩
      go_wp2_with fail
      refine (C2.out _).mono ?_
      rintro e w2 ⟨rfl, b2⟩
      go_wp2
      go_ret
      exact ⟨rfl, b1.trans (b2.mono b1.size)⟩
    · have h2 := filtC_ok hg
      rw [h2] at c2
      have sF := szd_size (filt_szd2 hf).1
      have sG := szd_size (filt_szd2 hg).1
      obtain ⟨A, hA⟩ : ∃ A, lev F.data.toList = A := ⟨_, rfl⟩
      obtain ⟨B, hB⟩ : ∃ B, lev G.data.toList = B := ⟨_, rfl⟩
      have hv : refOv F G = frA A B 0 := by unfold refOv; rw [hf, hg, hA, hB]; rfl
      rw [hv]
      have hAl : A.length ≤ 32 := by rw [← hA]; exact sF.2.2
      have hBl : B.length ≤ 32 := by rw [← hB]; exact sG.2.2
      have hA1 : 1 ≤ A.length := by rw [← hA]; exact List.length_pos_iff.2 (lev_ne _)
      have hB1 : 1 ≤ B.length := by rw [← hB]; exact List.length_pos_iff.2 (lev_ne _)
      have l1 : ∀ W, _ := fun W => reflevels_any F W (by omega)
      have l2 : ∀ W, _ := fun W => reflevels_any G W (by omega)
      rw [hA] at l1
      rw [hB] at l2
      have C1 := Lib.hid c1
      have C2 := Lib.hid c2
      have L1 := Lib.hid l1
      have L2 := Lib.hid l2
      have HL := Lib.hid (And.intro (And.intro hAl hBl) (And.intro hA1 hB1))
      obtain ⟨V, hV⟩ : ∃ V, frA A B 0 = V := ⟨_, rfl⟩
      rw [hV]
      have HV := Lib.hid hV
      clear c1 c2 h1 h2 hv hf hg l1 l2 hA hB sF sG hV hAl hBl hA1 hB1
      go_enter Tryd.func12, Tryd.ntmps12
      go_wp2_with fail
      refine C1.out.mono ?_
      rintro e w1 ⟨rfl, b1⟩
      go_wp2_with fail
      refine (C2.out _).mono ?_
      rintro e w2 ⟨rfl, b2⟩
      go_wp2_with fail
      refine (L1.out _).mono ?_
      rintro e w3 ⟨v, rfl, ⟨g, cap, rfl, hcap, hg, hx⟩, b3⟩
      have LA := Lib.hid (show Lv w3 g A from ⟨hg, hx⟩)
      clear hx
      go_wp2_with fail
      refine (L2.out _).mono ?_
      rintro e w4 ⟨v, rfl, ⟨g', cap', rfl, hcap', hg', hx'⟩, b4⟩
      have LB := Lib.hid (show Lv w4 g' B from ⟨hg', hx'⟩)
      have c5 := from_any A B g g' A.length B.length cap cap' rfl rfl (by have := HL.out; omega) (by have := HL.out; omega) A.length 0 w4 (by omega) (Nat.zero_le _) (LA.out.below b4) LB.out
      rw [HV.out] at c5
      have C5 := Lib.hid c5
      clear hx' c5
      go_wp2_with fail
      refine C5.out.mono ?_
      rintro e w5 ⟨rfl, b5⟩
      go_wp2
      go_ret
      have y2 := b1.trans (b2.mono b1.size)
      have y3 := y2.trans (b3.mono y2.size)
      have y4 := y3.trans (b4.mono y3.size)
      exact ⟨rfl, y4.trans (b5.mono y4.size)⟩
end Go.Proofs.YtichhppfdjkgkaaDoor
