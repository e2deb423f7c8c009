/- The walk of the laws' props. -/
import Derived.Test.YtedapgeabpadaaaDoorH6P4
namespace Go.Proofs.YtedapgeabpadaaaDoor
set_option linter.unusedVariables false
open Go.RowKit

set_option maxHeartbeats 4000000 in
theorem props_any (A : Option Addr) (n cap M : Nat) (L : List Pp) (w : World) (hn : L.length = n) (hc : n ≤ cap) (hcm : cap ≤ maxLen) (h : PRow w A L) (hM : min n 80 = M) (hA : (A = none ∧ cap = 0) ∨ ∃ a, A = some a) :
    Calls Tryd.prog 21 #[.slice A n cap] w fun e w' => ∃ v1 v2, e = .returned (.tuple #[v1, v2]) ∧ w'.ownsRow w.heap.size 123 4 v1 M (flat (L.take M)) ∧ w'.ownsRow w.heap.size 122 4 v2 M (flat (L.take M)) ∧ Below w.heap.size w w' := by
  have hMI : min (n : Int) 80 = (M : Int) := by omega
  have hMn : M ≤ n := by omega
  have hM80 : M ≤ 80 := by omega
  have hMc : M ≤ cap := by omega
  have hMcI : (M : Int) ≤ (cap : Int) := by omega
  have H := Lib.hid h
  have HN := Lib.hid hn
  unfold maxLen at hcm
  clear h hn hM
  rcases hA with ⟨rfl, rfl⟩ | ⟨a, rfl⟩
  · obtain rfl : n = 0 := by omega
    obtain rfl : M = 0 := by omega
    have h080 : min (0 : Int) 80 = 0 := by decide
    clear hMI
    go_enter Tryd.func21, Tryd.ntmps21
    go_wp2
    go_loopw [4, 5, 14] (fun v1 v2 i wr => ∃ k : Nat, i = .int .i64 k ∧ k ≤ 0 ∧ wr.ownsRow w.heap.size 123 4 v1 k (flat (L.take k)) ∧ wr.ownsRow w.heap.size 122 4 v2 k (flat (L.take k)) ∧ Below w.heap.size w wr) (fun _ _ i _ => 0 - (intOf i).toNat)
    case atStart => exact ⟨0, rfl, by omega, World.ownsRow_nil _ _ _ _, World.ownsRow_nil _ _ _ _, Below.refl _ _⟩
    case round =>
      obtain ⟨k, rfl, hk, own1, own2, hbel⟩ := hrel
      by_cases hlt : k < 0
      · omega
      · obtain rfl : k = 0 := by omega
        go_wp2
        go_ret2
        exact ⟨_, _, rfl, own1, own2, hbel⟩
  · by_cases hle : n ≤ 80
    · have hMn' : M = n := by omega
      subst hMn'
      have hleI : (M : Int) ≤ 80 := by omega
      clear hMI
      go_enter Tryd.func21, Tryd.ntmps21
      go_wp2
      go_loopw [4, 5, 14] (fun v1 v2 i wr => ∃ k : Nat, i = .int .i64 k ∧ k ≤ M ∧ wr.ownsRow w.heap.size 123 4 v1 k (flat (L.take k)) ∧ wr.ownsRow w.heap.size 122 4 v2 k (flat (L.take k)) ∧ Below w.heap.size w wr) (fun _ _ i _ => M - (intOf i).toNat)
      case atStart => exact ⟨0, rfl, by omega, World.ownsRow_nil _ _ _ _, World.ownsRow_nil _ _ _ _, Below.refl _ _⟩
      case round =>
        obtain ⟨k, rfl, hk, own1, own2, hbel⟩ := hrel
        by_cases hlt : k < M
        · obtain ⟨b, o, e0, hl, hcl⟩ := (H.out.below hbel) (by rw [HN.out]; omega)
          injection e0 with e0
          subst e0
          obtain ⟨p, hp⟩ : ∃ p, L[k]? = some p := ⟨_, List.getElem?_eq_getElem (by rw [HN.out]; omega)⟩
          obtain ⟨c0, c1, c2, c3⟩ := hcl k p hp
          have hkM : (k : Int) < (M : Int) := by omega
          clear hcl
          go_wp2
          have hB : Below w.heap.size w (wr.alloc (.cells (ppA p) 124)) := hbel.alloc hbel.size _
          have q1 := own1.alloc (.cells (ppA p) 124)
          have q2 := own2.alloc (.cells (ppA p) 124)
          have hs0 : S4b (wr.alloc (.cells (ppA p) 124)) wr.heap.size p := ⟨World.cell?_alloc_at _ _ _ _ rfl, World.cell?_alloc_at _ _ _ _ rfl, World.cell?_alloc_at _ _ _ _ rfl, World.cell?_alloc_at _ _ _ _ rfl⟩
          have hlt1 : ∀ g, u4.ownBlock = some g → g < wr.heap.size := fun g hg => (own1.lt g hg).2
          have hsz : wr.heap.size < (wr.alloc (.cells (ppA p) 124)).heap.size := by simp
          obtain ⟨Y, hY⟩ : ∃ Y, wr.alloc (.cells (ppA p) 124) = Y := ⟨_, rfl⟩
          change Code.wp _ _ _ _ (wr.alloc (.cells (ppA p) 124))
          rw [hY] at hB q1 q2 hs0 hsz ⊢
          clear hY c0 c1 c2 c3
          have hs1 : S4b Y.drew wr.heap.size p := hs0
          have d1 : Y.drew.ownsRow w.heap.size 123 4 u4 k (flat (L.take k)) := q1
          have d2 : Y.drew.ownsRow w.heap.size 122 4 u5 k (flat (L.take k)) := q2
          have hz1 : w.heap.size ≤ Y.heap.size := hB.size
          have hlt2 : ∀ g, u5.ownBlock = some g → g < wr.heap.size := fun g hg => (own2.lt g hg).2
          have hsd : wr.heap.size < Y.drew.heap.size := hsz
          obtain ⟨i1, hi1, hi1z, hi1s, hi1b⟩ := info_parts info_p1
          obtain ⟨i2, hi2, hi2z, hi2s, hi2b⟩ := info_parts info_p2
          go_region_held3 (fun X => S4b X wr.heap.size p) (first | (with_reducible assumption) | (exact s4b_alloc hs1 hsd) | (exact s4b_alloc (s4b_alloc hs1 hsd) (by first | omega | (simp; omega) | (simp; done))) | (exact s4b_alloc hsw hsz2)) (first | ((refine step_push4 (by rfl) (.tmp 18) (.tmp 20) 40 123 (by rfl) i1 _ Tryd.underlying40 hi1 hi1z hi1s hi1b rfl w.heap.size u4 k (flat (L.take k)) p _ (by rfl) (by rfl) (by first | exact d1.alloc _ | exact (d1.alloc _).alloc _) (by first | exact heap_new' (by first | rfl | (simp; done)) | exact heap_under (heap_new' (by first | rfl | (simp; done))) | exact hbk _ _ (heap_new' (by first | rfl | (simp; done))) (by first | omega | (simp; omega) | (simp; done)) | exact hbk _ _ (heap_under (heap_new' (by first | rfl | (simp; done)))) (by first | omega | (simp; omega) | (simp; done))) (by first | omega | (simp; omega) | (simp; done)) (by omega) ?_; intro v1 w1 n1 hg1; have n2 : w1.ownsRow w.heap.size 122 4 u5 k (flat (L.take k)) := own_far (by first | exact d2.alloc _ | exact (d2.alloc _).alloc _) (by first | exact d1.alloc _ | exact (d1.alloc _).alloc _) (by decide) hg1; have hbk : ∀ C obj, _ → wr.heap.size < C → w1.heap[C]? = some obj := fun C obj hC hl => (hg1.block C (Array.getElem?_eq_some_iff.1 hC).1 (fun e => absurd (hlt1 C e.symm) (by omega))).trans hC; have hw1 : Below w.heap.size w w1 := Below.grown (by first | exact (hB.drew.alloc (by simpa using hz1) _) | exact ((hB.drew.alloc (by simpa using hz1) _).alloc (by first | omega | (simp; omega) | (simp; done)) _)) hg1 (by first | omega | (simp; omega) | (simp; done)) (fun g hg => (d1.lt g hg).1); have hsw : S4b w1 wr.heap.size p := s4b_grown (by first | exact s4b_alloc hs1 hsd | exact s4b_alloc (s4b_alloc hs1 hsd) (by first | omega | (simp; omega) | (simp; done))) (by first | omega | (simp; omega) | (simp; done)) hg1 hlt1; have hsz2 : wr.heap.size < w1.heap.size := Nat.lt_of_lt_of_le (by first | omega | (simp; omega) | (simp; done)) hg1.size; have hz2 := hw1.size)) | ((refine step_push4 (by rfl) (.tmp 22) (.tmp 24) 47 122 (by rfl) i2 _ Tryd.underlying47 hi2 hi2z hi2s hi2b rfl w.heap.size u5 k (flat (L.take k)) p _ (by rfl) (by rfl) (by first | exact n2 | exact n2.alloc _) (by first | exact heap_new' (by first | rfl | (simp; done)) | exact heap_under (heap_new' (by first | rfl | (simp; done))) | exact hbk _ _ (heap_new' (by first | rfl | (simp; done))) (by first | omega | (simp; omega) | (simp; done)) | exact hbk _ _ (heap_under (heap_new' (by first | rfl | (simp; done)))) (by first | omega | (simp; omega) | (simp; done))) (by first | omega | (simp; omega) | (simp; done)) (by omega) ?_; intro v2 w2 m2 hg2; have m1 : w2.ownsRow w.heap.size 123 4 v1 (k + 1) _ := own_far (by first | exact n1 | exact n1.alloc _) (by first | exact n2 | exact n2.alloc _) (by decide) hg2; have hw2 : Below w.heap.size w w2 := Below.grown (by first | exact hw1 | exact hw1.alloc hz2 _) hg2 (by first | omega | (simp; omega) | (simp; done)) (fun g hg => (n2.lt g hg).1); have hsw2 : S4b w2 wr.heap.size p := s4b_grown (by first | exact hsw | exact s4b_alloc hsw hsz2) (by first | exact hsz2 | (simp; omega)) hg2 hlt2)))
          all_goals go_wp2
          all_goals
            go_roundw
            case rel => exact ⟨k + 1, by go_num, by omega, by rw [flat_take hp]; exact m1, by rw [flat_take hp]; exact m2, hw2⟩
            case measure => simp [intOf]; omega

        · have hkM : k = M := by omega
          subst hkM
          go_wp2
          go_ret2
          exact ⟨_, _, rfl, own1, own2, hbel⟩
    · have hM8 : M = 80 := by omega
      subst hM8
      have hleI : ¬ (n : Int) ≤ 80 := by omega
      have hmx : max (80 : Int) 0 = 80 := by decide
      clear hMI
      go_enter Tryd.func21, Tryd.ntmps21
      go_wp2
      go_loopw [4, 5, 14] (fun v1 v2 i wr => ∃ k : Nat, i = .int .i64 k ∧ k ≤ 80 ∧ wr.ownsRow w.heap.size 123 4 v1 k (flat (L.take k)) ∧ wr.ownsRow w.heap.size 122 4 v2 k (flat (L.take k)) ∧ Below w.heap.size w wr) (fun _ _ i _ => 80 - (intOf i).toNat)
      case atStart => exact ⟨0, rfl, by omega, World.ownsRow_nil _ _ _ _, World.ownsRow_nil _ _ _ _, Below.refl _ _⟩
      case round =>
        obtain ⟨k, rfl, hk, own1, own2, hbel⟩ := hrel
        by_cases hlt : k < 80
        · obtain ⟨b, o, e0, hl, hcl⟩ := (H.out.below hbel) (by rw [HN.out]; omega)
          injection e0 with e0
          subst e0
          obtain ⟨p, hp⟩ : ∃ p, L[k]? = some p := ⟨_, List.getElem?_eq_getElem (by rw [HN.out]; omega)⟩
          obtain ⟨c0, c1, c2, c3⟩ := hcl k p hp
          have hkM : (k : Int) < 80 := by omega
          clear hcl
          go_wp2
          have hB : Below w.heap.size w (wr.alloc (.cells (ppA p) 124)) := hbel.alloc hbel.size _
          have q1 := own1.alloc (.cells (ppA p) 124)
          have q2 := own2.alloc (.cells (ppA p) 124)
          have hs0 : S4b (wr.alloc (.cells (ppA p) 124)) wr.heap.size p := ⟨World.cell?_alloc_at _ _ _ _ rfl, World.cell?_alloc_at _ _ _ _ rfl, World.cell?_alloc_at _ _ _ _ rfl, World.cell?_alloc_at _ _ _ _ rfl⟩
          have hlt1 : ∀ g, u4.ownBlock = some g → g < wr.heap.size := fun g hg => (own1.lt g hg).2
          have hsz : wr.heap.size < (wr.alloc (.cells (ppA p) 124)).heap.size := by simp
          obtain ⟨Y, hY⟩ : ∃ Y, wr.alloc (.cells (ppA p) 124) = Y := ⟨_, rfl⟩
          change Code.wp _ _ _ _ (wr.alloc (.cells (ppA p) 124))
          rw [hY] at hB q1 q2 hs0 hsz ⊢
          clear hY c0 c1 c2 c3
          have hs1 : S4b Y.drew wr.heap.size p := hs0
          have d1 : Y.drew.ownsRow w.heap.size 123 4 u4 k (flat (L.take k)) := q1
          have d2 : Y.drew.ownsRow w.heap.size 122 4 u5 k (flat (L.take k)) := q2
          have hz1 : w.heap.size ≤ Y.heap.size := hB.size
          have hlt2 : ∀ g, u5.ownBlock = some g → g < wr.heap.size := fun g hg => (own2.lt g hg).2
          have hsd : wr.heap.size < Y.drew.heap.size := hsz
          obtain ⟨i1, hi1, hi1z, hi1s, hi1b⟩ := info_parts info_p1
          obtain ⟨i2, hi2, hi2z, hi2s, hi2b⟩ := info_parts info_p2
          go_region_held3 (fun X => S4b X wr.heap.size p) (first | (with_reducible assumption) | (exact s4b_alloc hs1 hsd) | (exact s4b_alloc (s4b_alloc hs1 hsd) (by first | omega | (simp; omega) | (simp; done))) | (exact s4b_alloc hsw hsz2)) (first | ((refine step_push4 (by rfl) (.tmp 18) (.tmp 20) 40 123 (by rfl) i1 _ Tryd.underlying40 hi1 hi1z hi1s hi1b rfl w.heap.size u4 k (flat (L.take k)) p _ (by rfl) (by rfl) (by first | exact d1.alloc _ | exact (d1.alloc _).alloc _) (by first | exact heap_new' (by first | rfl | (simp; done)) | exact heap_under (heap_new' (by first | rfl | (simp; done))) | exact hbk _ _ (heap_new' (by first | rfl | (simp; done))) (by first | omega | (simp; omega) | (simp; done)) | exact hbk _ _ (heap_under (heap_new' (by first | rfl | (simp; done)))) (by first | omega | (simp; omega) | (simp; done))) (by first | omega | (simp; omega) | (simp; done)) (by omega) ?_; intro v1 w1 n1 hg1; have n2 : w1.ownsRow w.heap.size 122 4 u5 k (flat (L.take k)) := own_far (by first | exact d2.alloc _ | exact (d2.alloc _).alloc _) (by first | exact d1.alloc _ | exact (d1.alloc _).alloc _) (by decide) hg1; have hbk : ∀ C obj, _ → wr.heap.size < C → w1.heap[C]? = some obj := fun C obj hC hl => (hg1.block C (Array.getElem?_eq_some_iff.1 hC).1 (fun e => absurd (hlt1 C e.symm) (by omega))).trans hC; have hw1 : Below w.heap.size w w1 := Below.grown (by first | exact (hB.drew.alloc (by simpa using hz1) _) | exact ((hB.drew.alloc (by simpa using hz1) _).alloc (by first | omega | (simp; omega) | (simp; done)) _)) hg1 (by first | omega | (simp; omega) | (simp; done)) (fun g hg => (d1.lt g hg).1); have hsw : S4b w1 wr.heap.size p := s4b_grown (by first | exact s4b_alloc hs1 hsd | exact s4b_alloc (s4b_alloc hs1 hsd) (by first | omega | (simp; omega) | (simp; done))) (by first | omega | (simp; omega) | (simp; done)) hg1 hlt1; have hsz2 : wr.heap.size < w1.heap.size := Nat.lt_of_lt_of_le (by first | omega | (simp; omega) | (simp; done)) hg1.size; have hz2 := hw1.size)) | ((refine step_push4 (by rfl) (.tmp 22) (.tmp 24) 47 122 (by rfl) i2 _ Tryd.underlying47 hi2 hi2z hi2s hi2b rfl w.heap.size u5 k (flat (L.take k)) p _ (by rfl) (by rfl) (by first | exact n2 | exact n2.alloc _) (by first | exact heap_new' (by first | rfl | (simp; done)) | exact heap_under (heap_new' (by first | rfl | (simp; done))) | exact hbk _ _ (heap_new' (by first | rfl | (simp; done))) (by first | omega | (simp; omega) | (simp; done)) | exact hbk _ _ (heap_under (heap_new' (by first | rfl | (simp; done)))) (by first | omega | (simp; omega) | (simp; done))) (by first | omega | (simp; omega) | (simp; done)) (by omega) ?_; intro v2 w2 m2 hg2; have m1 : w2.ownsRow w.heap.size 123 4 v1 (k + 1) _ := own_far (by first | exact n1 | exact n1.alloc _) (by first | exact n2 | exact n2.alloc _) (by decide) hg2; have hw2 : Below w.heap.size w w2 := Below.grown (by first | exact hw1 | exact hw1.alloc hz2 _) hg2 (by first | omega | (simp; omega) | (simp; done)) (fun g hg => (n2.lt g hg).1); have hsw2 : S4b w2 wr.heap.size p := s4b_grown (by first | exact hsw | exact s4b_alloc hsw hsz2) (by first | exact hsz2 | (simp; omega)) hg2 hlt2)))
          all_goals go_wp2
          all_goals
            go_roundw
            case rel => exact ⟨k + 1, by go_num, by omega, by rw [flat_take hp]; exact m1, by rw [flat_take hp]; exact m2, hw2⟩
            case measure => simp [intOf]; omega

        · have hkM : k = 80 := by omega
          subst hkM
          go_wp2
          go_ret2
          exact ⟨_, _, rfl, own1, own2, hbel⟩
end Go.Proofs.YtedapgeabpadaaaDoor
