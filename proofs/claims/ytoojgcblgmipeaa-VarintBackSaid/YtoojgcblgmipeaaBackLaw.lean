/- VarintBack: the law's walk. -/
import Derived.Test.YtoojgcblgmipeaaVarPut
import Derived.Test.YtoojgcblgmipeaaVarGet
import Derived.Test.YtoojgcblgmipeaaBackPlain
namespace Go.Proofs.Ytoojgcblgmipeaa
open Go.RowKit Pl
theorem putC_ok {n : Int} (h0 : 0 ≤ n) (h1 : n ≤ 268435455) : putC n = 0 := by unfold putC; rw [if_neg (by omega)]

theorem varintBack_walk (n : Int) (hn : (Lit.int .i64 n).wf = true) (s : ByteArray) (hs : s.size ≤ 140737488351232) (w : World) :
    Calls Try.prog 10 #[.int .i64 n, .string s] w fun e w' => e = .returned (.bool true) ∧ Below w.heap.size w w' := by
  have hb := i64_bd hn
  obtain ⟨N, hN⟩ : ∃ N, N = if n ≤ 0 then 0 else n % 268435456 := ⟨_, rfl⟩
  have hN0 : 0 ≤ N := by rw [hN]; split <;> omega
  have hN1 : N ≤ 268435455 := by rw [hN]; split <;> omega
  have hc0 : putC N = 0 := putC_ok hN0 hN1
  have hge := Lib.hid (get_enc hN0 hN1)
  have hl : ((enc N).length : Int) = sz N := by rw [enc_length]; have := sz_pos hN0 hN1; omega
  have hne : (sz N == 0) = false := by rw [beq_eq_false_iff_ne]; have := sz_pos hN0 hN1; omega
  have hl4 : (⟨(enc N).toArray⟩ : ByteArray).size ≤ 140737488351232 := by
    have : (⟨(enc N).toArray⟩ : ByteArray).size = (enc N).length := by simp [ByteArray.size]
    have := sz_pos hN0 hN1
    omega
  obtain ⟨v, at_, c, hg⟩ : ∃ v at_ c, getV s 0 = (v, at_, c) := ⟨_, _, _, rfl⟩
  have hc1 := getV_code s 0
  rw [hg] at hc1
  by_cases hneg : n ≤ 0
  · obtain rfl : N = 0 := by rw [hN, if_pos hneg]
    clear hN
    by_cases hc : c = 0
    · subst hc
      have Hg := Lib.hid hg
      obtain ⟨hv0, hv1, k, rfl, hk, hx⟩ := enc_get hg
      have hc0' : putC v = 0 := putC_ok hv0 hv1
      clear hg
      go_enter Try.func10, Try.ntmps10
      go_wp2_with fail
      refine (put_all _ _).mono ?_
      rintro e w1 ⟨rfl, b1⟩
      go_wp2_with fail
      refine (get_all _ 0 _ hl4 (by omega) (by omega)).mono ?_
      rintro e w2 ⟨rfl, rfl⟩
      rw [hge.out]
      go_wp2_with fail
      refine (size_any _ _).mono ?_
      rintro e w2 ⟨rfl, rfl⟩
      go_wp2_with fail
      refine (get_all s 0 _ hs (by omega) (by omega)).mono ?_
      rintro e w2 ⟨rfl, rfl⟩
      rw [Hg.out]
      go_wp2_with fail
      refine (put_all _ _).mono ?_
      rintro e w2 ⟨rfl, b2⟩
      go_wp2
      go_ret
      exact ⟨rfl, b1.trans (b2.mono b1.size)⟩
    · have hcn : (c != 0) = true := by simpa using hc
      have Hg := Lib.hid hg
      clear hg hc
      go_enter Try.func10, Try.ntmps10
      go_wp2_with fail
      refine (put_all _ _).mono ?_
      rintro e w1 ⟨rfl, b1⟩
      go_wp2_with fail
      refine (get_all _ 0 _ hl4 (by omega) (by omega)).mono ?_
      rintro e w2 ⟨rfl, rfl⟩
      rw [hge.out]
      go_wp2_with fail
      refine (size_any _ _).mono ?_
      rintro e w2 ⟨rfl, rfl⟩
      go_wp2_with fail
      refine (get_all s 0 _ hs (by omega) (by omega)).mono ?_
      rintro e w2 ⟨rfl, rfl⟩
      rw [Hg.out]
      go_wp2
      go_ret
      exact ⟨rfl, b1⟩
  · have hN' : n % 268435456 = N := by rw [hN, if_neg hneg]
    have hpos : 0 < n := by omega
    clear hneg
    clear hN
    by_cases hc : c = 0
    · subst hc
      have Hg := Lib.hid hg
      obtain ⟨hv0, hv1, k, rfl, hk, hx⟩ := enc_get hg
      have hc0' : putC v = 0 := putC_ok hv0 hv1
      clear hg
      go_enter Try.func10, Try.ntmps10
      go_wp2_with fail
      refine (put_all _ _).mono ?_
      rintro e w1 ⟨rfl, b1⟩
      go_wp2_with fail
      refine (get_all _ 0 _ hl4 (by omega) (by omega)).mono ?_
      rintro e w2 ⟨rfl, rfl⟩
      rw [hge.out]
      go_wp2_with fail
      refine (size_any _ _).mono ?_
      rintro e w2 ⟨rfl, rfl⟩
      go_wp2_with fail
      refine (get_all s 0 _ hs (by omega) (by omega)).mono ?_
      rintro e w2 ⟨rfl, rfl⟩
      rw [Hg.out]
      go_wp2_with fail
      refine (put_all _ _).mono ?_
      rintro e w2 ⟨rfl, b2⟩
      go_wp2
      go_ret
      exact ⟨rfl, b1.trans (b2.mono b1.size)⟩
    · have hcn : (c != 0) = true := by simpa using hc
      have Hg := Lib.hid hg
      clear hg hc
      go_enter Try.func10, Try.ntmps10
      go_wp2_with fail
      refine (put_all _ _).mono ?_
      rintro e w1 ⟨rfl, b1⟩
      go_wp2_with fail
      refine (get_all _ 0 _ hl4 (by omega) (by omega)).mono ?_
      rintro e w2 ⟨rfl, rfl⟩
      rw [hge.out]
      go_wp2_with fail
      refine (size_any _ _).mono ?_
      rintro e w2 ⟨rfl, rfl⟩
      go_wp2_with fail
      refine (get_all s 0 _ hs (by omega) (by omega)).mono ?_
      rintro e w2 ⟨rfl, rfl⟩
      rw [Hg.out]
      go_wp2
      go_ret
      exact ⟨rfl, b1⟩
end Go.Proofs.Ytoojgcblgmipeaa
