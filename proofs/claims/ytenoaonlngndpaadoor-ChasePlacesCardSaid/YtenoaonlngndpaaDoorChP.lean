/- ChasePlaces: the law's walk. -/
import Derived.Test.YtenoaonlngndpaaDoorChW
namespace Go.Proofs.YtenoaonlngndpaaDoor
set_option linter.unusedVariables false
set_option linter.unusedSimpArgs false
open Go.RowKit Go.Maps Pl Go.Shelf

set_option maxHeartbeats 8000000 in
set_option maxRecDepth 100000 in
theorem chasePlaces_walk (v0 : Value) (l : List Ad) (name : ByteArray) (hn : name.size ≤ 140737488351232) (v2 : Value) (z : Int × Int) (w : World) (h0 : AvRow w v0 l ∧ ∀ a ∈ l, AvFits a)
    (h2 : v2 = .agg #[.int .i64 z.1, .int .i64 z.2] ∧ -9223372036854775808 ≤ z.1 ∧ z.1 ≤ 9223372036854775807 ∧ -9223372036854775808 ≤ z.2 ∧ z.2 ≤ 9223372036854775807) (hT : Tabs w) :
    Calls Tryd.prog 3 #[v0, .string name, v2] w fun e w' => e = .returned (.bool true) ∧ Below w.heap.size w w' := by
  obtain ⟨at', h⟩ := z
  obtain ⟨rfl, z1, z2, z3, z4⟩ := h2
  simp only at z1 z2 z3 z4 ⊢
  have bY := (Below.refl w.heap.size w).alloc (Nat.le_refl _) (.cells #[.int .i64 at', .int .i64 h] 23)
  have kY := blk_at w #[.int .i64 at', .int .i64 h] 23 rfl
  obtain ⟨Y, hY⟩ : ∃ Y, w.alloc (.cells #[.int .i64 at', .int .i64 h] 23) = Y := ⟨_, rfl⟩
  rw [hY] at bY kY
  have HE := Lib.hid hY
  have HKY := Lib.hid kY
  have HBY := Lib.hid bY
  have HTY := Lib.hid (hT.below bY)
  have CB := Lib.hid (base_any l v0 Y (h0.1.below bY) h0.2 HTY.out)
  clear hT h0 bY kY hY
  go_enter Tryd.func3, Tryd.ntmps3
  go_wp2_with (first | (rw [HE.out]) | fail)
  refine CB.out.mono ?_
  rintro e w1 ⟨bp, mb, n, dp, E, rfl, hk, hn12, hd, hr, hE, hb⟩
  have HK := Lib.hid hk
  have HB := Lib.hid (HBY.out.trans (hb.mono HBY.out.size))
  have HT1 := Lib.hid (HTY.out.below hb)
  have HD := Lib.hid hd
  have HR := Lib.hid hr
  obtain ⟨K, hKK⟩ : ∃ K, baseK l = K := ⟨_, rfl⟩
  rw [hKK] at HK HR
  have hbx : w.heap.size < w1.heap.size := Nat.lt_of_lt_of_le HKY.out.lt hb.size
  have k1 := HKY.out.of_below hb
  have K1 : Hid (Kq w1 w.heap.size at' h w1) := Lib.hid ⟨Below.refl _ _, k1.cell 0, k1.cell 1⟩
  obtain ⟨s00, s01⟩ := K1.out.s
  have CP := Lib.hid (places_any Y.heap.size bp mb n K at' h name w1 HK.out z1 z2 z3 z4 (by omega) HT1.out)
  obtain ⟨R, hRR⟩ : ∃ R, places K at' name h = R := ⟨_, rfl⟩
  rw [hRR] at CP
  have HRR := Lib.hid hRR
  obtain ⟨out, all⟩ := R
  clear hk hd hr hb k1 CB hKK hRR
  go_wp2_with fail
  refine CP.out.mono ?_
  rintro e w2 ⟨v, H, rfl, ho, b2, hP⟩
  simp only at ho hP ⊢
  obtain ⟨ao, cap, rfl, q1, q2, -⟩ := ho.form
  have K2 : Hid (Kq w1 w.heap.size at' h w2) := Lib.hid (K1.out.step b2 hbx)
  obtain ⟨s20, s21⟩ := K2.out.s
  have hD2 := dplaces_any Y.heap.size dp E K at' h name w2 (HD.out.below b2) HR.out HK.out.ok (by omega) z1 z2 z3 z4 hn
  rw [HRR.out] at hD2
  have CD := Lib.hid hD2
  have HO := Lib.hid ho
  have hol := hP.1
  clear ho b2 hP CP hD2 s00 s01
  go_wp2_with fail
  refine CD.out.mono ?_
  rintro e w3 ⟨v', H', rfl, ho', b3, hP'⟩
  simp only at ho' hP' ⊢
  obtain ⟨ao', cap', rfl, q1', q2', -⟩ := ho'.form
  unfold maxLen at q2 q2'
  have K3 : Hid (Kq w1 w.heap.size at' h w3) := Lib.hid (K2.out.step b3 hbx)
  have HO3 := Lib.hid (HO.out.below b3)
  have HD3 := Lib.hid ho'
  have CW := Lib.hid (lwakes_any w3 (HT1.out.below K3.out.bl))
  have e1 : (all != all) = false := by cases all <;> rfl
  have e2 : ((out.length : Int) != (out.length : Int)) = false := by simp
  clear ho' b3 hP' CD s20 s21 HO
  go_wp2_with fail
  refine CW.out.mono ?_
  rintro e w4 ⟨rfl, b4⟩
  have K4 : Hid (Kq w1 w.heap.size at' h w4) := Lib.hid (K3.out.step b4 hbx)
  have HO4 := Lib.hid (HO3.out.below b4)
  have HD4 := Lib.hid (HD3.out.below b4)
  clear b4 CW HO3 HD3
  go_wp2_with fail
  go_loopw [13, 55] (fun iv kv wr => ∃ (k : Nat), kv = .int .i64 k ∧ k ≤ out.length ∧ Hid (Below w4.heap.size w4 wr)) (fun _ kv _ => out.length - (intOf kv).toNat)
  case atStart => exact ⟨0, rfl, Nat.zero_le _, Lib.hid (Below.refl _ _)⟩
  case round =>
    obtain ⟨k, rfl, hk, hW⟩ := hrel
    by_cases hlt : k < out.length
    · have hkM : (k : Int) < (out.length : Int) := by omega
      obtain ⟨p, hp⟩ : ∃ y, out[k]? = some y := ⟨_, List.getElem?_eq_getElem (by omega)⟩
      obtain ⟨gp, o, rfl, -, hgp, m0, m1, m2⟩ := dpl_cells (HO4.out.below hW.out) hp
      obtain ⟨gd, o', rfl, -, hgd, n0, n1, n2⟩ := dpl_cells (HD4.out.below hW.out) hp
      clear hp hgp hgd
      go_wp2_with fail
      go_region
      go_wp2_with fail
      exact ⟨⟨k + 1, by go_num, by omega, Lib.hid hW.out.drew⟩, by simp [intOf]; omega⟩
    · obtain rfl : k = out.length := by omega
      have hnl : ¬ ((out.length : Int) < (out.length : Int)) := by omega
      go_wp2_with fail
      go_ret
      exact ⟨rfl, HB.out.trans ((K4.out.bl.trans (hW.out.mono K4.out.bl.size)).mono HB.out.size)⟩
end Go.Proofs.YtenoaonlngndpaaDoor
