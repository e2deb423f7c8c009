/- PropGets: the law's walk. -/
import Derived.Test.YtifbkfkieppacaaDoorPGet
import Derived.Test.YtifbkfkieppacaaDoorRefPGet
import Derived.Test.YtifbkfkieppacaaDoorSamePr4
namespace Go.Proofs.YtifbkfkieppacaaDoor
set_option linter.unusedVariables false
open Go.RowKit Pl

theorem getP33 : getP ⟨#[3, 33, 0, 20]⟩ 0 = ([⟨33, 20, ⟨#[]⟩, ⟨#[]⟩⟩], 4, 0) := by rfl
theorem pgs_codes (s : ByteArray) : ∀ (f : Nat) (L : List Pp) (a : Int), L.length ≤ 64 → (0 ≤ (pgs s f L a).2 ∧ (pgs s f L a).2 ≤ 149) ∧ (pgs s f L a).1.length ≤ 64
  | 0, L, a, h => ⟨⟨Int.le_refl 0, (by decide : (0 : Int) ≤ 149)⟩, h⟩
  | f + 1, L, a, h => by
    unfold pgs
    split
    · exact ⟨⟨Int.le_refl 0, (by decide : (0 : Int) ≤ 149)⟩, h⟩
    · split
      · exact ⟨⟨by decide, by decide⟩, by decide⟩
      · split
        · exact ⟨⟨by decide, by decide⟩, by decide⟩
        · split
          · exact ⟨⟨by decide, by decide⟩, by decide⟩
          · split
            · exact ⟨⟨by decide, by decide⟩, by decide⟩
            · exact pgs_codes s f _ _ (by rw [List.length_append]; simp; omega)
theorem getP_codes (s : ByteArray) (a : Int) : (0 ≤ (getP s a).2.2 ∧ (getP s a).2.2 ≤ 242) ∧ (getP s a).1.length ≤ 64 := by
  have hv := getV_code s a
  unfold getP
  split
  · exact ⟨hv, by simp⟩
  · split
    · exact ⟨⟨by decide, by decide⟩, by simp⟩
    · have h := pgs_codes (s.extract (getV s a).2.1.toNat ((getV s a).2.1.toNat + (getV s a).1.toNat)) 66 [] 0 (by decide)
      simp only
      split
      · exact ⟨⟨h.1.1, by have := h.1.2; simp only; omega⟩, by simp⟩
      · exact ⟨⟨by simp, by simp⟩, h.2⟩
set_option maxRecDepth 100000 in
set_option maxHeartbeats 4000000 in
theorem propGets_walk (s : ByteArray) (hs : s.size ≤ 140737488351232) (a : Int) (ha : (Lit.int .i64 a).wf = true) (w : World) (hT : Tabs w) :
    Calls Tryd.prog 4 #[.string s, .int .i64 a] w fun e w' => e = .returned (.bool true) ∧ Below w.heap.size w w' := by
  have hbd := i64_bd ha
  have CA := pget_any s a w hs hbd.1 hbd.2 hT
  have CB : ∀ X : World, _ := fun X => refpget_any s a X hs hbd.1 hbd.2
  have hcd := getP_codes s a
  obtain ⟨⟨L, nx, c⟩, hg⟩ : ∃ g, getP s a = g := ⟨_, rfl⟩
  rw [hg] at CA CB hcd
  obtain ⟨⟨hc0, hc1⟩, hl⟩ := hcd
  change 0 ≤ c at hc0
  change c ≤ 242 at hc1
  change L.length ≤ 64 at hl
  have CO : ∀ X : World, Tabs X → Calls Tryd.prog 11 #[.string ⟨#[3, 33, 0, 20]⟩, .int .i64 0] X fun e w' => GetPost X w' e ([⟨33, 20, ⟨#[]⟩, ⟨#[]⟩⟩], 4, 0) := fun X h => by
    have := pget_any ⟨#[3, 33, 0, 20]⟩ 0 X (by decide) (by decide) (by decide) h
    rw [getP33] at this
    exact this
  have CA := Lib.hid CA
  have CB := Lib.hid CB
  have CO := Lib.hid CO
  have HT := Lib.hid hT
  clear hg hbd ha hs hT
  go_enter Tryd.func4, Tryd.ntmps4
  go_wp2_with fail
  (with_reducible refine CA.out.mono ?_)
  rintro e w1 ⟨v1, rfl, o1, b1⟩
  have HT1 := Lib.hid (HT.out.below b1)
  have O1 := Lib.hid o1
  have B1 := Lib.hid b1
  clear o1 b1
  go_wp2_with fail
  (with_reducible refine (CB.out _).mono ?_)
  rintro e w2 ⟨v2, rfl, o2, b2⟩
  have HT2 := Lib.hid (HT1.out.below b2)
  obtain ⟨A1, c1, rfl, hc1', r1⟩ := own_prow O1.out rfl
  obtain ⟨A2, c2, rfl, hc2', r2⟩ := own_prow o2 rfl
  have R1 := Lib.hid (r1.below b2)
  have R2 := Lib.hid r2
  have B2 := Lib.hid (B1.out.trans (b2.mono B1.out.size))
  clear o2 b2 r1 r2
  go_wp2_with fail
  (with_reducible refine (CO.out _ HT2.out).mono ?_)
  rintro e w3 ⟨v3, rfl, o3, b3⟩
  obtain ⟨A3, c3, rfl, hc3', r3⟩ := own_prow o3 rfl
  obtain ⟨b, o, rfl, hb, hcl⟩ := r3 (by decide)
  obtain ⟨x0, x1, x2, x3⟩ := hcl 0 _ rfl
  have R1 := Lib.hid (R1.out.below b3)
  have R2 := Lib.hid (R2.out.below b3)
  have B3 := Lib.hid (B2.out.trans (b3.mono B2.out.size))
  clear o3 b3 hcl
  go_wp2_with fail
  (with_reducible refine (sameprops_any A1 A2 L.length c1 c2 L _ rfl (by omega) R1.out R2.out).mono ?_)
  rintro e w4 ⟨rfl, b4⟩
  go_wp2
  go_ret
  exact ⟨rfl, B3.out.trans (b4.mono B3.out.size)⟩
end Go.Proofs.YtifbkfkieppacaaDoor
