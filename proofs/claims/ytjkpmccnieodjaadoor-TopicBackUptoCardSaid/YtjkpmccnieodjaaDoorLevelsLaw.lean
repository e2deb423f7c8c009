/- TopicLevels (for inputs of bulk at most 1048576): the law's walk. -/
import Derived.Test.YtjkpmccnieodjaaDoorTopicEq
import Derived.WalkLawsBesides
namespace Go.Proofs.YtjkpmccnieodjaaDoor
set_option linter.unusedVariables false
open Go.RowKit Pl Go.Shelf

theorem levels_rd (s : ByteArray) (w : World) (hs : s.size < 4294967281) :
    Calls Tryd.prog 14 #[.string s] w fun e w' => ∃ v, e = .returned v ∧ Rd w' v ((lev s.data.toList).map mk) ∧ Below w.heap.size w w' := by
  refine (levels_any s w hs).mono fun e w' ⟨he, hw⟩ => ⟨_, he, ?_, ?_⟩
  · refine Row.rd ⟨w.heap.size, _, rfl, Nat.le_refl _, by rw [hw]; simp, fun k x hx => ?_⟩
    rw [hw, World.cell?_alloc_mark]
    simp [hx]
  · rw [hw]; exact (Below.refl _ _).alloc (Nat.le_refl _) _

theorem Pl.lev_len_le (s : ByteArray) : (lev s.data.toList).length ≤ s.size + 1 := by
  rw [lev_len]
  have : s.data.toList.length = s.size := rfl
  have := List.count_le_length (a := (47 : UInt8)) (l := s.data.toList)
  omega

set_option maxHeartbeats 1000000 in
theorem topicLevels_walk (s : ByteArray) (hs : s.size ≤ 1048576) (v : Value) (ss : List ByteArray) (w : World) (h : Strs w v ss) (hu : bulkS ss ≤ 1048576) (hT : Tabs w) :
    Calls Tryd.prog 4 #[.string s, v] w fun e w' => e = .returned (.bool true) ∧ Below w.heap.size w w' := by
  obtain ⟨A, cap, rfl, hc1, hc2, h3⟩ := h
  have hl := bulk_len ss
  obtain ⟨n, hn⟩ : ∃ n, ss.length = n := ⟨_, rfl⟩
  rw [hn] at h3 hl hc1 ⊢
  obtain ⟨m, hm⟩ : ∃ m : Nat, min n 50 = m := ⟨_, rfl⟩
  obtain ⟨k, hk⟩ : ∃ k : Nat, min s.size 5000 = k := ⟨_, rfl⟩
  have hm' : min (n : Int) 50 = (m : Int) := by omega
  have hk' : min (s.size : Int) 5000 = (k : Int) := by omega
  have hmn : m ≤ n := by omega
  have hks : k ≤ s.size := by omega
  have hmn1 : (m : Int) ≤ n := by omega
  have hks1 : (k : Int) ≤ s.size := by omega
  have hm0 : (0 : Int) ≤ (m : Int) := by omega
  have hk0 : (0 : Int) ≤ (k : Int) := by omega
  have hmc : (m : Int) ≤ cap := by omega
  have hmax : cap ≤ 9223372036854775807 := hc2
  obtain ⟨x, hx⟩ : ∃ x : ByteArray, s.extract 0 k = x := ⟨_, rfl⟩
  have hxs : x.size ≤ 5000 := by rw [← hx, ByteArray.size_extract]; omega
  have hrd : ∀ w' : World, Below w.heap.size w w' → Rd w' (.slice A m cap) (ss.take m) := fun w' hb => by
    have hlen : (ss.take m).length = m := by rw [List.length_take]; omega
    refine Rd.below (w := w) ⟨A, cap, by rw [hlen], fun hp => ?_⟩ hb
    rw [hlen] at hp
    obtain ⟨b, o, e1, e2, e3⟩ := h3 (by omega)
    exact ⟨b, o, e1, e2, by rw [hlen]; omega, fun i y hy => e3 i y (by
      rw [List.getElem?_take] at hy
      split at hy
      · exact hy
      · cases hy)⟩
  have Hrd := Lib.hid hrd
  have hbk : bulkS (ss.take m) ≤ 4294967296 := Nat.le_trans (bulk_take ss m) (by omega)
  have Hx := Lib.hid hx
  have H1 := Lib.hid (show lev (⟨#[97, 47, 47, 98]⟩ : ByteArray).data.toList = [[97], [], [98]] by decide)
  clear hrd hm hk hn h3 hx
  go_enter Tryd.func4, Tryd.ntmps4
  go_wp2
  go_quiet (fail)
  rw [Hx.out]
  go_wp2_with fail
  have b0 : Below w.heap.size w (w.drewN nq) := ⟨rfl, rfl, rfl, Nat.le_refl _, fun _ _ => rfl⟩
  obtain ⟨w0, hw0⟩ : ∃ w0, w.drewN nq = w0 := ⟨_, rfl⟩
  rw [hw0] at b0 ⊢
  clear hw0
  refine (levels_rd _ _ (by decide)).mono ?_
  rintro e w1 ⟨v1, rfl, r1, b1⟩
  have r1' : Rd w1 v1 ([[97], [], [98]].map mk) := H1.out ▸ r1
  have c1 := b0.trans (b1.mono b0.size)
  have R1 := Lib.hid r1'
  clear r1 r1'
  go_wp2_with fail
  have r2 : Rd (w1.alloc (.cells #[.string ⟨#[97]⟩, .string ⟨#[]⟩, .string ⟨#[98]⟩] 9)) (.slice (some ⟨w1.heap.size, 0, none⟩) 3 3) ([[97], [], [98]].map mk) :=
    ⟨_, 3, rfl, fun _ => ⟨w1.heap.size, 0, rfl, by simp, Nat.le_refl _, fun i y hy => by
      rw [Nat.zero_add, World.cell?_alloc_mark]
      match i, hy with
      | 0, hy => simp at hy; subst hy; rfl
      | 1, hy => simp at hy; subst hy; rfl
      | 2, hy => simp at hy; subst hy; rfl
      | i + 3, hy => simp at hy⟩⟩
  have e2 : Below w1.heap.size w1 (w1.alloc (.cells #[.string ⟨#[97]⟩, .string ⟨#[]⟩, .string ⟨#[98]⟩] 9)) := (Below.refl _ _).alloc (Nat.le_refl _) _
  have c2 := c1.trans (e2.mono c1.size)
  refine (equal_any _ _ _ _ _ (R1.out.below e2) r2 (by decide) (by decide)).mono ?_
  rintro e w3 ⟨rfl, b3⟩
  rw [decide_eq_true rfl]
  have c3 := c2.trans (b3.mono c2.size)
  clear r2 e2 b3 c2
  go_wp2_with fail
  refine (levels_rd x _ (by omega)).mono ?_
  rintro e w4 ⟨v4, rfl, r4, b4⟩
  have R4 := Lib.hid r4
  have c4 := c3.trans (b4.mono c3.size)
  clear r4
  go_wp2_with fail
  refine (reflevels_any x _ (by omega)).mono ?_
  rintro e w5 ⟨v5, rfl, r5, b5⟩
  have R5 := Lib.hid r5
  have c5 := c4.trans (b5.mono c4.size)
  clear r5
  have hll : ((lev x.data.toList).map mk).length ≤ 140737488351232 := by have := lev_len_le x; rw [List.length_map]; omega
  go_wp2_with fail
  refine (equal_any v4 v5 _ _ _ (R4.out.below b5) R5.out.rd hll hll).mono ?_
  rintro e w6 ⟨rfl, b6⟩
  rw [decide_eq_true rfl]
  have c6 := c5.trans (b6.mono c5.size)
  go_wp2_with fail
  refine (join_rd _ (ss.take m) _ (Hrd.out _ c6) hbk).mono ?_
  rintro e w7 ⟨rfl, b7⟩
  have c7 := c6.trans (b7.mono c6.size)
  go_wp2_with fail
  refine (refjoin_any _ (ss.take m) _ (Hrd.out _ c7) hbk).mono ?_
  rintro e w8 ⟨rfl, rfl⟩
  go_wp2
  go_ret
  exact ⟨rfl, c7⟩
end Go.Proofs.YtjkpmccnieodjaaDoor
