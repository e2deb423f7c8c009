/- OverlapWitness, OverlapGap, OverlapOrders, OverlapTopics: the laws' walks. -/
import Derived.Test.YtichhppfdjkgkaaDoorOverWake
import Derived.Test.YtichhppfdjkgkaaDoorOverRefM
import Derived.Test.YtichhppfdjkgkaaDoorMatch
namespace Go.Proofs.YtichhppfdjkgkaaDoor
set_option linter.unusedVariables false
open Go.RowKit Pl Go.Shelf

theorem cv_name {F N : ByteArray} (h : mtB F N = true) : cvB F N = true := by
  obtain ⟨hN, hF⟩ := rm_of_mt h
  rw [cv_iff]
  refine ⟨(rm_iff.1 hF).1, name_filter hN, fun M hM => ?_⟩
  have h2 := hM
  unfold rmB at h2
  simp only [Bool.and_eq_true] at h2
  have h3 := h2.2.2.2.2
  rw [mtL_pure (name_pure hN), decide_eq_true_eq] at h3
  have h4 : N = M := ByteArray.ext (Array.toList_inj.1 (lev_inj h3))
  rw [← h4]
  exact hF
theorem cv_of_gp {F G : ByteArray} {x y g : Bool} (hx : filtB F = x) (hy : filtB G = y) (hg : gpB F G = g) : cvB F G = ((x && y) && !g) := by
  rw [cvB_gp, hx, hy, hg]
theorem gp_off {F G : ByteArray} (h : filtB F = false ∨ filtB G = false) : gpB F G = false := by
  unfold gpB
  rcases h with h | h
  · rw [h]; rfl
  · rw [h]; simp
theorem wit_size (F G : ByteArray) : (witS F G).size ≤ 4294967280 := by
  show (mkB (jn (fil (witN (shp F) (shp G)) (pickL (shp F).lv (shp G).lv) (frs (shp F).lv (shp G).lv)))).size ≤ _
  rw [mkB_size]
  have h := jn_bound (fil_small F G (witN (shp F) (shp G)) (pickL (shp F).lv (shp G).lv) (pick_or _ _))
  rw [fil_length] at h
  have h2 := witN_small F G
  have h3 : witN (shp F) (shp G) * (256 + 1) ≤ 32 * 257 := Nat.mul_le_mul h2 (Nat.le_refl _)
  omega
theorem gap_size (F G : ByteArray) : (gapS F G).size ≤ 4294967280 := by
  show (mkB (jn (fil (gapN (shp F) (shp G)) (atL (shp G).lv) (frs (shp F).lv (shp G).lv)))).size ≤ _
  rw [mkB_size]
  have h := jn_bound (fil_small F G (gapN (shp F) (shp G)) (atL (shp G).lv) (fun i => .inr rfl))
  rw [fil_length] at h
  have h2 := gapN_small F G
  have h3 : gapN (shp F) (shp G) * (256 + 1) ≤ 33 * 257 := Nat.mul_le_mul h2 (Nat.le_refl _)
  omega
set_option maxHeartbeats 4000000 in
theorem overlapWitness_walk (F : ByteArray) (hF : F.size ≤ 140737488351232) (G : ByteArray) (hG : G.size ≤ 140737488351232) (w : World) (hT : Tabs w) :
    Calls Tryd.prog 4 #[.string F, .string G] w fun e w' => e = .returned (.bool true) ∧ Below w.heap.size w w' := by
  have K0 := tb_new hT
  have C2 : ∀ X, Hid (Tb w X) → Calls Tryd.prog 13 #[.string ⟨#[97, 47, 43]⟩, .string ⟨#[43, 47, 98]⟩] X fun e w' => e = .returned (.tuple #[.string ⟨#[97, 47, 98]⟩, .bool true]) ∧ Below X.heap.size X w' := fun X h => by have h2 := witness_any ⟨#[97, 47, 43]⟩ ⟨#[43, 47, 98]⟩ X (by decide) (by decide) h.out.1; rw [show ovB ⟨#[97, 47, 43]⟩ ⟨#[43, 47, 98]⟩ = true from by decide +kernel, if_pos rfl, show witS ⟨#[97, 47, 43]⟩ ⟨#[43, 47, 98]⟩ = ⟨#[97, 47, 98]⟩ from by decide +kernel] at h2; exact h2
  have C2 := Lib.hid C2
  cases hv : ovB F G
  · skip
    have C1 : ∀ X, Hid (Tb w X) → Calls Tryd.prog 13 #[.string F, .string G] X fun e w' => e = .returned (.tuple #[.string ⟨#[]⟩, .bool false]) ∧ Below X.heap.size X w' := fun X h => by have h2 := witness_any F G X (by omega) (by omega) h.out.1; rw [hv, if_neg (by simp)] at h2; exact h2
    have C1 := Lib.hid C1
    have C3 : ∀ X, Hid (Tb w X) → Calls Tryd.prog 11 #[.string F, .string G] X fun e w' => e = .returned (.bool false) ∧ Below X.heap.size X w' := fun X h => by rw [← hv]; exact overlap_any F G X (by omega) (by omega) h.out.1
    have C3 := Lib.hid C3
    clear hT hv
    go_enter Tryd.func4, Tryd.ntmps4
    go_wp2_with (first | (go_at_call 13; (with_reducible refine (C1.out _ (by with_reducible assumption)).mono ?_); rintro e x ⟨rfl, y⟩; have k1 := tb (by with_reducible assumption) y; clear y) | (go_at_call 13; (with_reducible refine (C2.out _ (by with_reducible assumption)).mono ?_); rintro e x ⟨rfl, y⟩; have k2 := tb (by with_reducible assumption) y; clear y) | (go_at_call 11; (with_reducible refine (C3.out _ (by with_reducible assumption)).mono ?_); rintro e x ⟨rfl, y⟩; have k3 := tb (by with_reducible assumption) y; clear y))
    all_goals go_ret
    all_goals exact ⟨rfl, by first | (exact Below.refl _ _) | (exact kw.out.2) | (exact k9.out.2) | (exact k8.out.2) | (exact k7.out.2) | (exact k6.out.2) | (exact k5.out.2) | (exact k4.out.2) | (exact k3.out.2) | (exact k2.out.2) | (exact k1.out.2)⟩
  · skip
    obtain ⟨hm1, hm2⟩ := wit_rm hv
    have hSz := wit_size F G
    obtain ⟨S, hS⟩ : ∃ S, witS F G = S := ⟨_, rfl⟩
    rw [hS] at hm1 hm2 hSz
    have C1 : ∀ X, Hid (Tb w X) → Calls Tryd.prog 13 #[.string F, .string G] X fun e w' => e = .returned (.tuple #[.string S, .bool true]) ∧ Below X.heap.size X w' := fun X h => by have h2 := witness_any F G X (by omega) (by omega) h.out.1; rw [hv, if_pos rfl, hS] at h2; exact h2
    have C1 := Lib.hid C1
    have C3 : ∀ X, Hid (Tb w X) → Calls Tryd.prog 11 #[.string F, .string G] X fun e w' => e = .returned (.bool true) ∧ Below X.heap.size X w' := fun X h => by rw [← hv]; exact overlap_any F G X (by omega) (by omega) h.out.1
    have C3 := Lib.hid C3
    have C4 : ∀ X, Hid (Tb w X) → Calls Tryd.prog 14 #[.string F, .string S] X fun e w' => e = .returned (.bool true) ∧ Below X.heap.size X w' := fun X h => by have h2 := refmatches_any F S X (by omega) hSz; rw [hm1] at h2; exact h2
    have C4 := Lib.hid C4
    have C5 : ∀ X, Hid (Tb w X) → Calls Tryd.prog 14 #[.string G, .string S] X fun e w' => e = .returned (.bool true) ∧ Below X.heap.size X w' := fun X h => by have h2 := refmatches_any G S X (by omega) hSz; rw [hm2] at h2; exact h2
    have C5 := Lib.hid C5
    clear hT hv hS hm1 hm2
    go_enter Tryd.func4, Tryd.ntmps4
    go_wp2_with (first | (go_at_call 13; (with_reducible refine (C1.out _ (by with_reducible assumption)).mono ?_); rintro e x ⟨rfl, y⟩; have k1 := tb (by with_reducible assumption) y; clear y) | (go_at_call 13; (with_reducible refine (C2.out _ (by with_reducible assumption)).mono ?_); rintro e x ⟨rfl, y⟩; have k2 := tb (by with_reducible assumption) y; clear y) | (go_at_call 11; (with_reducible refine (C3.out _ (by with_reducible assumption)).mono ?_); rintro e x ⟨rfl, y⟩; have k3 := tb (by with_reducible assumption) y; clear y) | (go_at_call 14; (with_reducible refine (C4.out _ (by with_reducible assumption)).mono ?_); rintro e x ⟨rfl, y⟩; have k4 := tb (by with_reducible assumption) y; clear y) | (go_at_call 14; (with_reducible refine (C5.out _ (by with_reducible assumption)).mono ?_); rintro e x ⟨rfl, y⟩; have k5 := tb (by with_reducible assumption) y; clear y))
    all_goals go_ret
    all_goals exact ⟨rfl, by first | (exact Below.refl _ _) | (exact kw.out.2) | (exact k9.out.2) | (exact k8.out.2) | (exact k7.out.2) | (exact k6.out.2) | (exact k5.out.2) | (exact k4.out.2) | (exact k3.out.2) | (exact k2.out.2) | (exact k1.out.2)⟩
set_option maxHeartbeats 4000000 in
theorem overlapGap_walk (F : ByteArray) (hF : F.size ≤ 140737488351232) (G : ByteArray) (hG : G.size ≤ 140737488351232) (w : World) (hT : Tabs w) :
    Calls Tryd.prog 5 #[.string F, .string G] w fun e w' => e = .returned (.bool true) ∧ Below w.heap.size w w' := by
  have K0 := tb_new hT
  have C2 : ∀ X, Hid (Tb w X) → Calls Tryd.prog 15 #[.string ⟨#[97]⟩, .string ⟨#[98]⟩] X fun e w' => e = .returned (.tuple #[.string ⟨#[98]⟩, .bool true]) ∧ Below X.heap.size X w' := fun X h => by have h2 := gap_any ⟨#[97]⟩ ⟨#[98]⟩ X (by decide) (by decide) h.out.1; rw [show gpB ⟨#[97]⟩ ⟨#[98]⟩ = true from by decide +kernel, if_pos rfl, show gapS ⟨#[97]⟩ ⟨#[98]⟩ = ⟨#[98]⟩ from by decide +kernel] at h2; exact h2
  have C2 := Lib.hid C2
  cases hx : filtB F
  · skip
    have CF : ∀ X, Hid (Tb w X) → Calls Tryd.prog 16 #[.string F] X fun e w' => e = .returned (.int .u8 143) ∧ Below X.heap.size X w' := fun X h => by have h2 := checkfilter_any F X (by omega) h.out.1; rw [filtC_bad hx] at h2; exact h2
    have CF := Lib.hid CF
    have hg : gpB F G = false := gp_off (.inl hx)
    have C1 : ∀ X, Hid (Tb w X) → Calls Tryd.prog 15 #[.string F, .string G] X fun e w' => e = .returned (.tuple #[.string ⟨#[]⟩, .bool false]) ∧ Below X.heap.size X w' := fun X h => by have h2 := gap_any F G X (by omega) (by omega) h.out.1; rw [hg, if_neg (by simp)] at h2; exact h2
    have C1 := Lib.hid C1
    clear hT hg hx
    go_enter Tryd.func5, Tryd.ntmps5
    go_wp2_with (first | (go_at_call 15; (with_reducible refine (C1.out _ (by with_reducible assumption)).mono ?_); rintro e x ⟨rfl, y⟩; have k1 := tb (by with_reducible assumption) y; clear y) | (go_at_call 15; (with_reducible refine (C2.out _ (by with_reducible assumption)).mono ?_); rintro e x ⟨rfl, y⟩; have k2 := tb (by with_reducible assumption) y; clear y) | (go_at_call 16; (with_reducible refine (CF.out _ (by with_reducible assumption)).mono ?_); rintro e x ⟨rfl, y⟩; have k3 := tb (by with_reducible assumption) y; clear y))
    all_goals go_ret
    all_goals exact ⟨rfl, by first | (exact Below.refl _ _) | (exact kw.out.2) | (exact k9.out.2) | (exact k8.out.2) | (exact k7.out.2) | (exact k6.out.2) | (exact k5.out.2) | (exact k4.out.2) | (exact k3.out.2) | (exact k2.out.2) | (exact k1.out.2)⟩
  · cases hy : filtB G
    · skip
      have CF : ∀ X, Hid (Tb w X) → Calls Tryd.prog 16 #[.string F] X fun e w' => e = .returned (.int .u8 0) ∧ Below X.heap.size X w' := fun X h => by have h2 := checkfilter_any F X (by omega) h.out.1; rw [filtC_ok hx] at h2; exact h2
      have CF := Lib.hid CF
      have CG : ∀ X, Hid (Tb w X) → Calls Tryd.prog 16 #[.string G] X fun e w' => e = .returned (.int .u8 143) ∧ Below X.heap.size X w' := fun X h => by have h2 := checkfilter_any G X (by omega) h.out.1; rw [filtC_bad hy] at h2; exact h2
      have CG := Lib.hid CG
      have hg : gpB F G = false := gp_off (.inr hy)
      have C1 : ∀ X, Hid (Tb w X) → Calls Tryd.prog 15 #[.string F, .string G] X fun e w' => e = .returned (.tuple #[.string ⟨#[]⟩, .bool false]) ∧ Below X.heap.size X w' := fun X h => by have h2 := gap_any F G X (by omega) (by omega) h.out.1; rw [hg, if_neg (by simp)] at h2; exact h2
      have C1 := Lib.hid C1
      clear hT hg hx hy
      go_enter Tryd.func5, Tryd.ntmps5
      go_wp2_with (first | (go_at_call 15; (with_reducible refine (C1.out _ (by with_reducible assumption)).mono ?_); rintro e x ⟨rfl, y⟩; have k1 := tb (by with_reducible assumption) y; clear y) | (go_at_call 15; (with_reducible refine (C2.out _ (by with_reducible assumption)).mono ?_); rintro e x ⟨rfl, y⟩; have k2 := tb (by with_reducible assumption) y; clear y) | (go_at_call 16; (with_reducible refine (CF.out _ (by with_reducible assumption)).mono ?_); rintro e x ⟨rfl, y⟩; have k3 := tb (by with_reducible assumption) y; clear y) | (go_at_call 16; (with_reducible refine (CG.out _ (by with_reducible assumption)).mono ?_); rintro e x ⟨rfl, y⟩; have k4 := tb (by with_reducible assumption) y; clear y))
      all_goals go_ret
      all_goals exact ⟨rfl, by first | (exact Below.refl _ _) | (exact kw.out.2) | (exact k9.out.2) | (exact k8.out.2) | (exact k7.out.2) | (exact k6.out.2) | (exact k5.out.2) | (exact k4.out.2) | (exact k3.out.2) | (exact k2.out.2) | (exact k1.out.2)⟩
    · cases hg : gpB F G
      · skip
        have CF : ∀ X, Hid (Tb w X) → Calls Tryd.prog 16 #[.string F] X fun e w' => e = .returned (.int .u8 0) ∧ Below X.heap.size X w' := fun X h => by have h2 := checkfilter_any F X (by omega) h.out.1; rw [filtC_ok hx] at h2; exact h2
        have CF := Lib.hid CF
        have CG : ∀ X, Hid (Tb w X) → Calls Tryd.prog 16 #[.string G] X fun e w' => e = .returned (.int .u8 0) ∧ Below X.heap.size X w' := fun X h => by have h2 := checkfilter_any G X (by omega) h.out.1; rw [filtC_ok hy] at h2; exact h2
        have CG := Lib.hid CG
        have hc : cvB F G = true := by rw [cv_of_gp hx hy hg]; rfl
        have CC : ∀ X, Hid (Tb w X) → Calls Tryd.prog 17 #[.string F, .string G] X fun e w' => e = .returned (.bool true) ∧ Below X.heap.size X w' := fun X h => by rw [← hc]; exact covers_any F G X (by omega) (by omega) h.out.1
        have CC := Lib.hid CC
        have C1 : ∀ X, Hid (Tb w X) → Calls Tryd.prog 15 #[.string F, .string G] X fun e w' => e = .returned (.tuple #[.string ⟨#[]⟩, .bool false]) ∧ Below X.heap.size X w' := fun X h => by have h2 := gap_any F G X (by omega) (by omega) h.out.1; rw [hg, if_neg (by simp)] at h2; exact h2
        have C1 := Lib.hid C1
        clear hT hg hx hc hy
        go_enter Tryd.func5, Tryd.ntmps5
        go_wp2_with (first | (go_at_call 15; (with_reducible refine (C1.out _ (by with_reducible assumption)).mono ?_); rintro e x ⟨rfl, y⟩; have k1 := tb (by with_reducible assumption) y; clear y) | (go_at_call 15; (with_reducible refine (C2.out _ (by with_reducible assumption)).mono ?_); rintro e x ⟨rfl, y⟩; have k2 := tb (by with_reducible assumption) y; clear y) | (go_at_call 16; (with_reducible refine (CF.out _ (by with_reducible assumption)).mono ?_); rintro e x ⟨rfl, y⟩; have k3 := tb (by with_reducible assumption) y; clear y) | (go_at_call 16; (with_reducible refine (CG.out _ (by with_reducible assumption)).mono ?_); rintro e x ⟨rfl, y⟩; have k4 := tb (by with_reducible assumption) y; clear y) | (go_at_call 17; (with_reducible refine (CC.out _ (by with_reducible assumption)).mono ?_); rintro e x ⟨rfl, y⟩; have k5 := tb (by with_reducible assumption) y; clear y))
        all_goals go_ret
        all_goals exact ⟨rfl, by first | (exact Below.refl _ _) | (exact kw.out.2) | (exact k9.out.2) | (exact k8.out.2) | (exact k7.out.2) | (exact k6.out.2) | (exact k5.out.2) | (exact k4.out.2) | (exact k3.out.2) | (exact k2.out.2) | (exact k1.out.2)⟩
      · skip
        have CF : ∀ X, Hid (Tb w X) → Calls Tryd.prog 16 #[.string F] X fun e w' => e = .returned (.int .u8 0) ∧ Below X.heap.size X w' := fun X h => by have h2 := checkfilter_any F X (by omega) h.out.1; rw [filtC_ok hx] at h2; exact h2
        have CF := Lib.hid CF
        have CG : ∀ X, Hid (Tb w X) → Calls Tryd.prog 16 #[.string G] X fun e w' => e = .returned (.int .u8 0) ∧ Below X.heap.size X w' := fun X h => by have h2 := checkfilter_any G X (by omega) h.out.1; rw [filtC_ok hy] at h2; exact h2
        have CG := Lib.hid CG
        have hc : cvB F G = false := by rw [cv_of_gp hx hy hg]; rfl
        have CC : ∀ X, Hid (Tb w X) → Calls Tryd.prog 17 #[.string F, .string G] X fun e w' => e = .returned (.bool false) ∧ Below X.heap.size X w' := fun X h => by rw [← hc]; exact covers_any F G X (by omega) (by omega) h.out.1
        have CC := Lib.hid CC
        have hgC : gapC (shp F) (shp G) = true := by
          unfold gpB at hg; rw [hx, hy] at hg; exact hg
        obtain ⟨hm1, hm2⟩ := gap_rm hx hy hgC
        have hSz := gap_size F G
        obtain ⟨S, hS⟩ : ∃ S, gapS F G = S := ⟨_, rfl⟩
        rw [hS] at hm1 hm2 hSz
        have C1 : ∀ X, Hid (Tb w X) → Calls Tryd.prog 15 #[.string F, .string G] X fun e w' => e = .returned (.tuple #[.string S, .bool true]) ∧ Below X.heap.size X w' := fun X h => by have h2 := gap_any F G X (by omega) (by omega) h.out.1; rw [hg, if_pos rfl, hS] at h2; exact h2
        have C1 := Lib.hid C1
        have C4 : ∀ X, Hid (Tb w X) → Calls Tryd.prog 14 #[.string G, .string S] X fun e w' => e = .returned (.bool true) ∧ Below X.heap.size X w' := fun X h => by have h2 := refmatches_any G S X (by omega) hSz; rw [hm1] at h2; exact h2
        have C4 := Lib.hid C4
        have C5 : ∀ X, Hid (Tb w X) → Calls Tryd.prog 14 #[.string F, .string S] X fun e w' => e = .returned (.bool false) ∧ Below X.heap.size X w' := fun X h => by have h2 := refmatches_any F S X (by omega) hSz; rw [hm2] at h2; exact h2
        have C5 := Lib.hid C5
        clear hgC hS hm1 hm2
        clear hT hg hx hc hy
        go_enter Tryd.func5, Tryd.ntmps5
        go_wp2_with (first | (go_at_call 15; (with_reducible refine (C1.out _ (by with_reducible assumption)).mono ?_); rintro e x ⟨rfl, y⟩; have k1 := tb (by with_reducible assumption) y; clear y) | (go_at_call 15; (with_reducible refine (C2.out _ (by with_reducible assumption)).mono ?_); rintro e x ⟨rfl, y⟩; have k2 := tb (by with_reducible assumption) y; clear y) | (go_at_call 16; (with_reducible refine (CF.out _ (by with_reducible assumption)).mono ?_); rintro e x ⟨rfl, y⟩; have k3 := tb (by with_reducible assumption) y; clear y) | (go_at_call 16; (with_reducible refine (CG.out _ (by with_reducible assumption)).mono ?_); rintro e x ⟨rfl, y⟩; have k4 := tb (by with_reducible assumption) y; clear y) | (go_at_call 17; (with_reducible refine (CC.out _ (by with_reducible assumption)).mono ?_); rintro e x ⟨rfl, y⟩; have k5 := tb (by with_reducible assumption) y; clear y) | (go_at_call 14; (with_reducible refine (C4.out _ (by with_reducible assumption)).mono ?_); rintro e x ⟨rfl, y⟩; have k6 := tb (by with_reducible assumption) y; clear y) | (go_at_call 14; (with_reducible refine (C5.out _ (by with_reducible assumption)).mono ?_); rintro e x ⟨rfl, y⟩; have k7 := tb (by with_reducible assumption) y; clear y))
        all_goals go_ret
        all_goals exact ⟨rfl, by first | (exact Below.refl _ _) | (exact kw.out.2) | (exact k9.out.2) | (exact k8.out.2) | (exact k7.out.2) | (exact k6.out.2) | (exact k5.out.2) | (exact k4.out.2) | (exact k3.out.2) | (exact k2.out.2) | (exact k1.out.2)⟩
set_option maxHeartbeats 4000000 in
theorem overlapOrders_walk (F : ByteArray) (hF : F.size ≤ 140737488351232) (G : ByteArray) (hG : G.size ≤ 140737488351232) (H : ByteArray) (hH : H.size ≤ 140737488351232) (w : World) (hT : Tabs w) :
    Calls Tryd.prog 7 #[.string F, .string G, .string H] w fun e w' => e = .returned (.bool true) ∧ Below w.heap.size w w' := by
  have K0 := tb_new hT
  have CW : ∀ X, Hid (Tb w X) → Calls Tryd.prog 18 #[] X fun e w' => e = .returned (.bool true) ∧ Below X.heap.size X w' := fun X h => owakes_any X h.out.1
  have CW := Lib.hid CW
  obtain ⟨x, hx⟩ : ∃ b, filtB F = b := ⟨_, rfl⟩
  obtain ⟨fg, hfg⟩ : ∃ b, cvB F G = b := ⟨_, rfl⟩
  obtain ⟨gh, hgh⟩ : ∃ b, cvB G H = b := ⟨_, rfl⟩
  obtain ⟨fh, hfh⟩ : ∃ b, cvB F H = b := ⟨_, rfl⟩
  obtain ⟨og, hog⟩ : ∃ b, ovB F G = b := ⟨_, rfl⟩
  obtain ⟨oh, hoh⟩ : ∃ b, ovB G H = b := ⟨_, rfl⟩
  obtain ⟨oo, hoo⟩ : ∃ b, ovB F H = b := ⟨_, rfl⟩
  have l1 : fg = true → gh = true → fh = true := fun a b => by rw [← hfh]; exact cv_trans (hfg.trans a) (hgh.trans b)
  have l2 : fg = true → og = true := fun a => by rw [← hog]; exact cv_ov (hfg.trans a)
  have l3 : fg = true → oh = true → oo = true := fun a b => by rw [← hoo]; exact cv_ov_trans (hfg.trans a) (hoh.trans b)
  have hself : cvB F F = x := by rw [cv_self]; exact hx
  have hgf : ovB G F = og := by rw [ov_comm]; exact hog
  obtain ⟨r, hr, hr2⟩ : ∃ r : Int, filtC F = r ∧ (r == 0) = x ∧ 0 ≤ r ∧ r ≤ 255 := by
    cases x
    · exact ⟨143, filtC_bad hx, rfl, by decide, by decide⟩
    · exact ⟨0, filtC_ok hx, rfl, by decide, by decide⟩
  have CK : ∀ X, Hid (Tb w X) → Calls Tryd.prog 16 #[.string F] X fun e w' => e = .returned (.int .u8 r) ∧ Below X.heap.size X w' := fun X h => by have h2 := checkfilter_any F X (by omega) h.out.1; rw [hr] at h2; exact h2
  have CK := Lib.hid CK
  have CS : ∀ X, Hid (Tb w X) → Calls Tryd.prog 17 #[.string F, .string F] X fun e w' => e = .returned (.bool x) ∧ Below X.heap.size X w' := fun X h => by rw [← hself]; exact covers_any F F X (by omega) (by omega) h.out.1
  have CS := Lib.hid CS
  have C1 : ∀ X, Hid (Tb w X) → Calls Tryd.prog 17 #[.string F, .string G] X fun e w' => e = .returned (.bool fg) ∧ Below X.heap.size X w' := fun X h => by rw [← hfg]; exact covers_any F G X (by omega) (by omega) h.out.1
  have C1 := Lib.hid C1
  have C2 : ∀ X, Hid (Tb w X) → Calls Tryd.prog 17 #[.string G, .string H] X fun e w' => e = .returned (.bool gh) ∧ Below X.heap.size X w' := fun X h => by rw [← hgh]; exact covers_any G H X (by omega) (by omega) h.out.1
  have C2 := Lib.hid C2
  have C3 : ∀ X, Hid (Tb w X) → Calls Tryd.prog 17 #[.string F, .string H] X fun e w' => e = .returned (.bool fh) ∧ Below X.heap.size X w' := fun X h => by rw [← hfh]; exact covers_any F H X (by omega) (by omega) h.out.1
  have C3 := Lib.hid C3
  have O1 : ∀ X, Hid (Tb w X) → Calls Tryd.prog 11 #[.string F, .string G] X fun e w' => e = .returned (.bool og) ∧ Below X.heap.size X w' := fun X h => by rw [← hog]; exact overlap_any F G X (by omega) (by omega) h.out.1
  have O1 := Lib.hid O1
  have O2 : ∀ X, Hid (Tb w X) → Calls Tryd.prog 11 #[.string G, .string F] X fun e w' => e = .returned (.bool og) ∧ Below X.heap.size X w' := fun X h => by rw [← hgf]; exact overlap_any G F X (by omega) (by omega) h.out.1
  have O2 := Lib.hid O2
  have O3 : ∀ X, Hid (Tb w X) → Calls Tryd.prog 11 #[.string G, .string H] X fun e w' => e = .returned (.bool oh) ∧ Below X.heap.size X w' := fun X h => by rw [← hoh]; exact overlap_any G H X (by omega) (by omega) h.out.1
  have O3 := Lib.hid O3
  have O4 : ∀ X, Hid (Tb w X) → Calls Tryd.prog 11 #[.string F, .string H] X fun e w' => e = .returned (.bool oo) ∧ Below X.heap.size X w' := fun X h => by rw [← hoo]; exact overlap_any F H X (by omega) (by omega) h.out.1
  have O4 := Lib.hid O4
  obtain ⟨hrx, hr0, hr1⟩ := hr2
  clear hT hr hself hgf hx hfg hgh hfh hog hoh hoo
  cases fg
  · clear l1 l2 l3
    cases x <;> cases og
    all_goals
      go_enter Tryd.func7, Tryd.ntmps7
      go_wp2_with (first | (go_at_call 18; (with_reducible refine (CW.out _ (by with_reducible assumption)).mono ?_); rintro e x ⟨rfl, y⟩; have kw := tb (by with_reducible assumption) y; clear y) | (go_at_call 16; (with_reducible refine (CK.out _ (by with_reducible assumption)).mono ?_); rintro e x ⟨rfl, y⟩; have k1 := tb (by with_reducible assumption) y; clear y) | (go_at_call 17; (with_reducible refine (CS.out _ (by with_reducible assumption)).mono ?_); rintro e x ⟨rfl, y⟩; have k2 := tb (by with_reducible assumption) y; clear y) | (go_at_call 17; (with_reducible refine (C1.out _ (by with_reducible assumption)).mono ?_); rintro e x ⟨rfl, y⟩; have k3 := tb (by with_reducible assumption) y; clear y) | (go_at_call 17; (with_reducible refine (C2.out _ (by with_reducible assumption)).mono ?_); rintro e x ⟨rfl, y⟩; have k4 := tb (by with_reducible assumption) y; clear y) | (go_at_call 17; (with_reducible refine (C3.out _ (by with_reducible assumption)).mono ?_); rintro e x ⟨rfl, y⟩; have k5 := tb (by with_reducible assumption) y; clear y) | (go_at_call 11; (with_reducible refine (O1.out _ (by with_reducible assumption)).mono ?_); rintro e x ⟨rfl, y⟩; have k6 := tb (by with_reducible assumption) y; clear y) | (go_at_call 11; (with_reducible refine (O2.out _ (by with_reducible assumption)).mono ?_); rintro e x ⟨rfl, y⟩; have k7 := tb (by with_reducible assumption) y; clear y) | (go_at_call 11; (with_reducible refine (O3.out _ (by with_reducible assumption)).mono ?_); rintro e x ⟨rfl, y⟩; have k8 := tb (by with_reducible assumption) y; clear y) | (go_at_call 11; (with_reducible refine (O4.out _ (by with_reducible assumption)).mono ?_); rintro e x ⟨rfl, y⟩; have k9 := tb (by with_reducible assumption) y; clear y))
      all_goals (try go_ret)
      all_goals exact ⟨rfl, by first | (exact k9.out.2) | (exact k8.out.2) | (exact k7.out.2) | (exact k3.out.2) | (exact k6.out.2) | (exact k5.out.2)⟩
  · obtain rfl := l2 rfl
    clear l2
    cases gh
    · clear l1
      cases oh
      · clear l3
        cases x
        all_goals
          go_enter Tryd.func7, Tryd.ntmps7
          go_wp2_with (first | (go_at_call 18; (with_reducible refine (CW.out _ (by with_reducible assumption)).mono ?_); rintro e x ⟨rfl, y⟩; have kw := tb (by with_reducible assumption) y; clear y) | (go_at_call 16; (with_reducible refine (CK.out _ (by with_reducible assumption)).mono ?_); rintro e x ⟨rfl, y⟩; have k1 := tb (by with_reducible assumption) y; clear y) | (go_at_call 17; (with_reducible refine (CS.out _ (by with_reducible assumption)).mono ?_); rintro e x ⟨rfl, y⟩; have k2 := tb (by with_reducible assumption) y; clear y) | (go_at_call 17; (with_reducible refine (C1.out _ (by with_reducible assumption)).mono ?_); rintro e x ⟨rfl, y⟩; have k3 := tb (by with_reducible assumption) y; clear y) | (go_at_call 17; (with_reducible refine (C2.out _ (by with_reducible assumption)).mono ?_); rintro e x ⟨rfl, y⟩; have k4 := tb (by with_reducible assumption) y; clear y) | (go_at_call 17; (with_reducible refine (C3.out _ (by with_reducible assumption)).mono ?_); rintro e x ⟨rfl, y⟩; have k5 := tb (by with_reducible assumption) y; clear y) | (go_at_call 11; (with_reducible refine (O1.out _ (by with_reducible assumption)).mono ?_); rintro e x ⟨rfl, y⟩; have k6 := tb (by with_reducible assumption) y; clear y) | (go_at_call 11; (with_reducible refine (O2.out _ (by with_reducible assumption)).mono ?_); rintro e x ⟨rfl, y⟩; have k7 := tb (by with_reducible assumption) y; clear y) | (go_at_call 11; (with_reducible refine (O3.out _ (by with_reducible assumption)).mono ?_); rintro e x ⟨rfl, y⟩; have k8 := tb (by with_reducible assumption) y; clear y) | (go_at_call 11; (with_reducible refine (O4.out _ (by with_reducible assumption)).mono ?_); rintro e x ⟨rfl, y⟩; have k9 := tb (by with_reducible assumption) y; clear y))
          all_goals (try go_ret)
          all_goals exact ⟨rfl, by first | (exact k9.out.2) | (exact k8.out.2) | (exact k7.out.2) | (exact k3.out.2) | (exact k6.out.2) | (exact k5.out.2)⟩
      · obtain rfl := l3 rfl rfl
        clear l3
        cases x
        all_goals
          go_enter Tryd.func7, Tryd.ntmps7
          go_wp2_with (first | (go_at_call 18; (with_reducible refine (CW.out _ (by with_reducible assumption)).mono ?_); rintro e x ⟨rfl, y⟩; have kw := tb (by with_reducible assumption) y; clear y) | (go_at_call 16; (with_reducible refine (CK.out _ (by with_reducible assumption)).mono ?_); rintro e x ⟨rfl, y⟩; have k1 := tb (by with_reducible assumption) y; clear y) | (go_at_call 17; (with_reducible refine (CS.out _ (by with_reducible assumption)).mono ?_); rintro e x ⟨rfl, y⟩; have k2 := tb (by with_reducible assumption) y; clear y) | (go_at_call 17; (with_reducible refine (C1.out _ (by with_reducible assumption)).mono ?_); rintro e x ⟨rfl, y⟩; have k3 := tb (by with_reducible assumption) y; clear y) | (go_at_call 17; (with_reducible refine (C2.out _ (by with_reducible assumption)).mono ?_); rintro e x ⟨rfl, y⟩; have k4 := tb (by with_reducible assumption) y; clear y) | (go_at_call 17; (with_reducible refine (C3.out _ (by with_reducible assumption)).mono ?_); rintro e x ⟨rfl, y⟩; have k5 := tb (by with_reducible assumption) y; clear y) | (go_at_call 11; (with_reducible refine (O1.out _ (by with_reducible assumption)).mono ?_); rintro e x ⟨rfl, y⟩; have k6 := tb (by with_reducible assumption) y; clear y) | (go_at_call 11; (with_reducible refine (O2.out _ (by with_reducible assumption)).mono ?_); rintro e x ⟨rfl, y⟩; have k7 := tb (by with_reducible assumption) y; clear y) | (go_at_call 11; (with_reducible refine (O3.out _ (by with_reducible assumption)).mono ?_); rintro e x ⟨rfl, y⟩; have k8 := tb (by with_reducible assumption) y; clear y) | (go_at_call 11; (with_reducible refine (O4.out _ (by with_reducible assumption)).mono ?_); rintro e x ⟨rfl, y⟩; have k9 := tb (by with_reducible assumption) y; clear y))
          all_goals (try go_ret)
          all_goals exact ⟨rfl, by first | (exact k9.out.2) | (exact k8.out.2) | (exact k7.out.2) | (exact k3.out.2) | (exact k6.out.2) | (exact k5.out.2)⟩
    · obtain rfl := l1 rfl rfl
      clear l1
      cases oh
      · clear l3
        cases x
        all_goals
          go_enter Tryd.func7, Tryd.ntmps7
          go_wp2_with (first | (go_at_call 18; (with_reducible refine (CW.out _ (by with_reducible assumption)).mono ?_); rintro e x ⟨rfl, y⟩; have kw := tb (by with_reducible assumption) y; clear y) | (go_at_call 16; (with_reducible refine (CK.out _ (by with_reducible assumption)).mono ?_); rintro e x ⟨rfl, y⟩; have k1 := tb (by with_reducible assumption) y; clear y) | (go_at_call 17; (with_reducible refine (CS.out _ (by with_reducible assumption)).mono ?_); rintro e x ⟨rfl, y⟩; have k2 := tb (by with_reducible assumption) y; clear y) | (go_at_call 17; (with_reducible refine (C1.out _ (by with_reducible assumption)).mono ?_); rintro e x ⟨rfl, y⟩; have k3 := tb (by with_reducible assumption) y; clear y) | (go_at_call 17; (with_reducible refine (C2.out _ (by with_reducible assumption)).mono ?_); rintro e x ⟨rfl, y⟩; have k4 := tb (by with_reducible assumption) y; clear y) | (go_at_call 17; (with_reducible refine (C3.out _ (by with_reducible assumption)).mono ?_); rintro e x ⟨rfl, y⟩; have k5 := tb (by with_reducible assumption) y; clear y) | (go_at_call 11; (with_reducible refine (O1.out _ (by with_reducible assumption)).mono ?_); rintro e x ⟨rfl, y⟩; have k6 := tb (by with_reducible assumption) y; clear y) | (go_at_call 11; (with_reducible refine (O2.out _ (by with_reducible assumption)).mono ?_); rintro e x ⟨rfl, y⟩; have k7 := tb (by with_reducible assumption) y; clear y) | (go_at_call 11; (with_reducible refine (O3.out _ (by with_reducible assumption)).mono ?_); rintro e x ⟨rfl, y⟩; have k8 := tb (by with_reducible assumption) y; clear y) | (go_at_call 11; (with_reducible refine (O4.out _ (by with_reducible assumption)).mono ?_); rintro e x ⟨rfl, y⟩; have k9 := tb (by with_reducible assumption) y; clear y))
          all_goals (try go_ret)
          all_goals exact ⟨rfl, by first | (exact k9.out.2) | (exact k8.out.2) | (exact k7.out.2) | (exact k3.out.2) | (exact k6.out.2) | (exact k5.out.2)⟩
      · obtain rfl := l3 rfl rfl
        clear l3
        cases x
        all_goals
          go_enter Tryd.func7, Tryd.ntmps7
          go_wp2_with (first | (go_at_call 18; (with_reducible refine (CW.out _ (by with_reducible assumption)).mono ?_); rintro e x ⟨rfl, y⟩; have kw := tb (by with_reducible assumption) y; clear y) | (go_at_call 16; (with_reducible refine (CK.out _ (by with_reducible assumption)).mono ?_); rintro e x ⟨rfl, y⟩; have k1 := tb (by with_reducible assumption) y; clear y) | (go_at_call 17; (with_reducible refine (CS.out _ (by with_reducible assumption)).mono ?_); rintro e x ⟨rfl, y⟩; have k2 := tb (by with_reducible assumption) y; clear y) | (go_at_call 17; (with_reducible refine (C1.out _ (by with_reducible assumption)).mono ?_); rintro e x ⟨rfl, y⟩; have k3 := tb (by with_reducible assumption) y; clear y) | (go_at_call 17; (with_reducible refine (C2.out _ (by with_reducible assumption)).mono ?_); rintro e x ⟨rfl, y⟩; have k4 := tb (by with_reducible assumption) y; clear y) | (go_at_call 17; (with_reducible refine (C3.out _ (by with_reducible assumption)).mono ?_); rintro e x ⟨rfl, y⟩; have k5 := tb (by with_reducible assumption) y; clear y) | (go_at_call 11; (with_reducible refine (O1.out _ (by with_reducible assumption)).mono ?_); rintro e x ⟨rfl, y⟩; have k6 := tb (by with_reducible assumption) y; clear y) | (go_at_call 11; (with_reducible refine (O2.out _ (by with_reducible assumption)).mono ?_); rintro e x ⟨rfl, y⟩; have k7 := tb (by with_reducible assumption) y; clear y) | (go_at_call 11; (with_reducible refine (O3.out _ (by with_reducible assumption)).mono ?_); rintro e x ⟨rfl, y⟩; have k8 := tb (by with_reducible assumption) y; clear y) | (go_at_call 11; (with_reducible refine (O4.out _ (by with_reducible assumption)).mono ?_); rintro e x ⟨rfl, y⟩; have k9 := tb (by with_reducible assumption) y; clear y))
          all_goals (try go_ret)
          all_goals exact ⟨rfl, by first | (exact k9.out.2) | (exact k8.out.2) | (exact k7.out.2) | (exact k3.out.2) | (exact k6.out.2) | (exact k5.out.2)⟩
set_option maxHeartbeats 4000000 in
theorem overlapTopics_walk (F : ByteArray) (hF : F.size ≤ 140737488351232) (G : ByteArray) (hG : G.size ≤ 140737488351232) (N : ByteArray) (hN : N.size ≤ 140737488351232) (w : World) (hT : Tabs w) :
    Calls Tryd.prog 9 #[.string F, .string G, .string N] w fun e w' => e = .returned (.bool true) ∧ Below w.heap.size w w' := by
  have K0 := tb_new hT
  have CW : ∀ X, Hid (Tb w X) → Calls Tryd.prog 18 #[] X fun e w' => e = .returned (.bool true) ∧ Below X.heap.size X w' := fun X h => owakes_any X h.out.1
  have CW := Lib.hid CW
  obtain ⟨a, ha⟩ : ∃ b, mtB F N = b := ⟨_, rfl⟩
  obtain ⟨b, hb⟩ : ∃ b, mtB G N = b := ⟨_, rfl⟩
  obtain ⟨o, ho⟩ : ∃ b, ovB F G = b := ⟨_, rfl⟩
  obtain ⟨v, hv⟩ : ∃ b, cvB F G = b := ⟨_, rfl⟩
  obtain ⟨u, hu⟩ : ∃ b, cvB F N = b := ⟨_, rfl⟩
  have l1 : a = true → b = true → o = true := fun p q => by rw [← ho]; exact ov_of (rm_of_mt (ha.trans p)).2 (rm_of_mt (hb.trans q)).2
  have l2 : v = true → b = true → a = true := fun p q => by
    obtain ⟨q1, q2⟩ := rm_of_mt (hb.trans q)
    rw [← ha, mt_rm q1]; exact cv_all (hv.trans p) q2
  have l3 : a = true → u = true := fun p => by rw [← hu]; exact cv_name (ha.trans p)
  have M1 : ∀ X, Hid (Tb w X) → Calls Tryd.prog 22 #[.string F, .string N] X fun e w' => e = .returned (.bool a) ∧ Below X.heap.size X w' := fun X h => by rw [← ha]; exact match_any F N X (by omega) (by omega) h.out.1
  have M1 := Lib.hid M1
  have M2 : ∀ X, Hid (Tb w X) → Calls Tryd.prog 22 #[.string G, .string N] X fun e w' => e = .returned (.bool b) ∧ Below X.heap.size X w' := fun X h => by rw [← hb]; exact match_any G N X (by omega) (by omega) h.out.1
  have M2 := Lib.hid M2
  have O1 : ∀ X, Hid (Tb w X) → Calls Tryd.prog 11 #[.string F, .string G] X fun e w' => e = .returned (.bool o) ∧ Below X.heap.size X w' := fun X h => by rw [← ho]; exact overlap_any F G X (by omega) (by omega) h.out.1
  have O1 := Lib.hid O1
  have C1 : ∀ X, Hid (Tb w X) → Calls Tryd.prog 17 #[.string F, .string G] X fun e w' => e = .returned (.bool v) ∧ Below X.heap.size X w' := fun X h => by rw [← hv]; exact covers_any F G X (by omega) (by omega) h.out.1
  have C1 := Lib.hid C1
  have C2 : ∀ X, Hid (Tb w X) → Calls Tryd.prog 17 #[.string F, .string N] X fun e w' => e = .returned (.bool u) ∧ Below X.heap.size X w' := fun X h => by rw [← hu]; exact covers_any F N X (by omega) (by omega) h.out.1
  have C2 := Lib.hid C2
  clear hT ha hb ho hv hu
  cases a
  · clear l1 l3
    cases b
    · cases v
      all_goals
        go_enter Tryd.func9, Tryd.ntmps9
        go_wp2_with (first | (go_at_call 18; (with_reducible refine (CW.out _ (by with_reducible assumption)).mono ?_); rintro e x ⟨rfl, y⟩; have kw := tb (by with_reducible assumption) y; clear y) | (go_at_call 22; (with_reducible refine (M1.out _ (by with_reducible assumption)).mono ?_); rintro e x ⟨rfl, y⟩; have k1 := tb (by with_reducible assumption) y; clear y) | (go_at_call 22; (with_reducible refine (M2.out _ (by with_reducible assumption)).mono ?_); rintro e x ⟨rfl, y⟩; have k2 := tb (by with_reducible assumption) y; clear y) | (go_at_call 11; (with_reducible refine (O1.out _ (by with_reducible assumption)).mono ?_); rintro e x ⟨rfl, y⟩; have k3 := tb (by with_reducible assumption) y; clear y) | (go_at_call 17; (with_reducible refine (C1.out _ (by with_reducible assumption)).mono ?_); rintro e x ⟨rfl, y⟩; have k4 := tb (by with_reducible assumption) y; clear y) | (go_at_call 17; (with_reducible refine (C2.out _ (by with_reducible assumption)).mono ?_); rintro e x ⟨rfl, y⟩; have k5 := tb (by with_reducible assumption) y; clear y))
        all_goals (try go_ret)
        all_goals exact ⟨rfl, by first | (exact k5.out.2) | (exact k4.out.2)⟩
    · cases v
      · skip
        go_enter Tryd.func9, Tryd.ntmps9
        go_wp2_with (first | (go_at_call 18; (with_reducible refine (CW.out _ (by with_reducible assumption)).mono ?_); rintro e x ⟨rfl, y⟩; have kw := tb (by with_reducible assumption) y; clear y) | (go_at_call 22; (with_reducible refine (M1.out _ (by with_reducible assumption)).mono ?_); rintro e x ⟨rfl, y⟩; have k1 := tb (by with_reducible assumption) y; clear y) | (go_at_call 22; (with_reducible refine (M2.out _ (by with_reducible assumption)).mono ?_); rintro e x ⟨rfl, y⟩; have k2 := tb (by with_reducible assumption) y; clear y) | (go_at_call 11; (with_reducible refine (O1.out _ (by with_reducible assumption)).mono ?_); rintro e x ⟨rfl, y⟩; have k3 := tb (by with_reducible assumption) y; clear y) | (go_at_call 17; (with_reducible refine (C1.out _ (by with_reducible assumption)).mono ?_); rintro e x ⟨rfl, y⟩; have k4 := tb (by with_reducible assumption) y; clear y) | (go_at_call 17; (with_reducible refine (C2.out _ (by with_reducible assumption)).mono ?_); rintro e x ⟨rfl, y⟩; have k5 := tb (by with_reducible assumption) y; clear y))
        all_goals (try go_ret)
        all_goals exact ⟨rfl, by first | (exact k5.out.2) | (exact k4.out.2)⟩
      · cases l2 rfl rfl
  · obtain rfl := l3 rfl
    clear l3 l2
    cases b
    · cases v
      all_goals
        go_enter Tryd.func9, Tryd.ntmps9
        go_wp2_with (first | (go_at_call 18; (with_reducible refine (CW.out _ (by with_reducible assumption)).mono ?_); rintro e x ⟨rfl, y⟩; have kw := tb (by with_reducible assumption) y; clear y) | (go_at_call 22; (with_reducible refine (M1.out _ (by with_reducible assumption)).mono ?_); rintro e x ⟨rfl, y⟩; have k1 := tb (by with_reducible assumption) y; clear y) | (go_at_call 22; (with_reducible refine (M2.out _ (by with_reducible assumption)).mono ?_); rintro e x ⟨rfl, y⟩; have k2 := tb (by with_reducible assumption) y; clear y) | (go_at_call 11; (with_reducible refine (O1.out _ (by with_reducible assumption)).mono ?_); rintro e x ⟨rfl, y⟩; have k3 := tb (by with_reducible assumption) y; clear y) | (go_at_call 17; (with_reducible refine (C1.out _ (by with_reducible assumption)).mono ?_); rintro e x ⟨rfl, y⟩; have k4 := tb (by with_reducible assumption) y; clear y) | (go_at_call 17; (with_reducible refine (C2.out _ (by with_reducible assumption)).mono ?_); rintro e x ⟨rfl, y⟩; have k5 := tb (by with_reducible assumption) y; clear y))
        all_goals (try go_ret)
        all_goals exact ⟨rfl, by first | (exact k5.out.2) | (exact k4.out.2)⟩
    · obtain rfl := l1 rfl rfl
      cases v
      all_goals
        go_enter Tryd.func9, Tryd.ntmps9
        go_wp2_with (first | (go_at_call 18; (with_reducible refine (CW.out _ (by with_reducible assumption)).mono ?_); rintro e x ⟨rfl, y⟩; have kw := tb (by with_reducible assumption) y; clear y) | (go_at_call 22; (with_reducible refine (M1.out _ (by with_reducible assumption)).mono ?_); rintro e x ⟨rfl, y⟩; have k1 := tb (by with_reducible assumption) y; clear y) | (go_at_call 22; (with_reducible refine (M2.out _ (by with_reducible assumption)).mono ?_); rintro e x ⟨rfl, y⟩; have k2 := tb (by with_reducible assumption) y; clear y) | (go_at_call 11; (with_reducible refine (O1.out _ (by with_reducible assumption)).mono ?_); rintro e x ⟨rfl, y⟩; have k3 := tb (by with_reducible assumption) y; clear y) | (go_at_call 17; (with_reducible refine (C1.out _ (by with_reducible assumption)).mono ?_); rintro e x ⟨rfl, y⟩; have k4 := tb (by with_reducible assumption) y; clear y) | (go_at_call 17; (with_reducible refine (C2.out _ (by with_reducible assumption)).mono ?_); rintro e x ⟨rfl, y⟩; have k5 := tb (by with_reducible assumption) y; clear y))
        all_goals (try go_ret)
        all_goals exact ⟨rfl, by first | (exact k5.out.2) | (exact k4.out.2)⟩
end Go.Proofs.YtichhppfdjkgkaaDoor
