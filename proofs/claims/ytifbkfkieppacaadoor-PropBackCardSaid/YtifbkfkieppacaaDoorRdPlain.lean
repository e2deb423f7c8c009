/- Where a read ends: plain. -/
import Derived.Test.YtifbkfkieppacaaDoorGetP
import Derived.Test.YtifbkfkieppacaaDoorBackPlain
namespace Go.Proofs.YtifbkfkieppacaaDoor
set_option linter.unusedVariables false
open Go.RowKit Pl

theorem getV_to {s : ByteArray} {a n to : Int} (h : getV s a = (n, to, 0)) : ∃ i j : Nat, a = i ∧ to = j ∧ i < j ∧ j ≤ s.size ∧ j ≤ i + 4 ∧ 0 ≤ n ∧ n ≤ 268435455 := by
  by_cases hb : a < 0 ∨ (s.size : Int) < a
  · rw [getV_bad hb] at h; injection h with _ h; injection h with _ h; exact absurd h (by decide)
  · obtain ⟨i, rfl⟩ := Int.eq_ofNat_of_zero_le (show 0 ≤ a by omega)
    rw [getV_ok (by omega)] at h
    obtain ⟨r, v, hr1, hr4, hv, hn0, hn1, hmin, he, hsz, hby⟩ := gi_back s 4 0 i 0 n to h
    obtain rfl : n = v := by rw [hv]; simp
    refine ⟨i, i + r, rfl, he, by omega, hsz, by omega, hn0, ?_⟩
    obtain rfl | rfl | rfl | rfl : r = 1 ∨ r = 2 ∨ r = 3 ∨ r = 4 := by omega
    all_goals (simp at hn1; omega)
theorem getF_to {s : ByteArray} {a d n to : Int} (h : getF s a d = (n, to, 0)) : ∃ i k : Nat, a = i ∧ d = k ∧ to = (i + k : Nat) ∧ (k = 1 ∨ k = 2 ∨ k = 4) ∧ i + k ≤ s.size ∧ n = gv s i k := by
  by_cases hb : ¬ Wide d ∨ a < 0 ∨ (s.size : Int) < a
  · rw [getF_bad hb] at h; injection h with _ h; injection h with _ h; exact absurd h (by decide)
  · by_cases h2 : (s.size : Int) - a < d
    · rw [getF_none hb h2] at h; injection h with _ h; injection h with _ h; exact absurd h (by decide)
    · have hw : Wide d := by
        by_cases c : Wide d
        · exact c
        · exact absurd (.inl c) hb
      have ha : 0 ≤ a := by
        by_cases c : a < 0
        · exact absurd (.inr (.inl c)) hb
        · omega
      obtain ⟨i, rfl⟩ := Int.eq_ofNat_of_zero_le ha
      have hd : 0 ≤ d := by unfold Wide at hw; omega
      obtain ⟨k, rfl⟩ := Int.eq_ofNat_of_zero_le hd
      rw [getF_ok hw (by omega)] at h
      injection h with h1 h
      injection h with h3 _
      exact ⟨i, k, rfl, rfl, by omega, by unfold Wide at hw; omega, by omega, h1.symm⟩
theorem getD_to {s t : ByteArray} {a to : Int} (h : getD s a = (t, to, 0)) : ∃ i m : Nat, a = i ∧ to = (i + 2 + m : Nat) ∧ i + 2 + m ≤ s.size ∧ m < 65536 ∧ gv s i 2 = m ∧ t = s.extract (i + 2) (i + 2 + m) := by
  rcases getF_two s a with e | e | ⟨i, m, rfl, e, hm, hi⟩
  · rw [getD_code e (by decide)] at h; injection h with _ h; injection h with _ h; exact absurd h (by decide)
  · rw [getD_code e (by decide)] at h; injection h with _ h; injection h with _ h; exact absurd h (by decide)
  · by_cases hn : (s.size : Int) - (i + 2 : Nat) < m
    · rw [getD_none e hn] at h; injection h with _ h; injection h with _ h; exact absurd h (by decide)
    · rw [getD_ok e (by omega)] at h
      injection h with h1 h
      injection h with h2 _
      obtain ⟨i', k, hi', hk, _, _, _, hg⟩ := getF_to e
      obtain rfl : i = i' := by omega
      obtain rfl : k = 2 := by omega
      exact ⟨i, m, rfl, by omega, by omega, hm, hg.symm, h1.symm⟩
theorem tget_getD {s t : ByteArray} {a to : Int} (h : tget s a = (t, to, 0)) : getD s a = (t, to, 0) ∧ (flt t t.size 0).2 = false := by
  obtain ⟨⟨u, f, c⟩, hg⟩ : ∃ g, getD s a = g := ⟨_, rfl⟩
  by_cases hc : c = 0
  · subst hc
    by_cases hb : (flt u u.size 0).2 = true
    · rw [tget_bad hg hb] at h; injection h with _ h; injection h with _ h; exact absurd h (by decide)
    · have hb' : (flt u u.size 0).2 = false := by simpa using hb
      rw [tget_ok hg hb'] at h
      injection h with h1 h
      injection h with h2 _
      subst h1 h2
      exact ⟨hg, hb'⟩
  · rw [tget_code hg hc] at h; injection h with _ h; injection h with _ h; exact absurd h hc
theorem tget_to {s t : ByteArray} {a to : Int} (h : tget s a = (t, to, 0)) (hs : s.size ≤ 140737488351232) : -9223372036854775808 ≤ to ∧ to ≤ 9223372036854775807 := by
  obtain ⟨i, m, _, e, h1, _⟩ := getD_to (tget_getD h).1
  omega
theorem rdv_to {s : ByteArray} {id a to : Int} {p : Pp} (h : rdv s id a = some (p, to)) : ∃ i j : Nat, a = i ∧ to = j ∧ i < j ∧ j ≤ s.size ∧ p.id = id := by
  unfold rdv at h
  split at h
  · split at h
    · rename_i hc
      obtain ⟨⟨n, f, c⟩, hg⟩ : ∃ g, getV s a = g := ⟨_, rfl⟩
      rw [hg] at h hc
      obtain rfl : c = 0 := hc
      injection h with h; injection h with h1 h2
      obtain ⟨i, j, e1, e2, e3, e4, _⟩ := getV_to hg
      exact ⟨i, j, e1, h2.symm.trans e2, e3, e4, by rw [← h1]⟩
    · cases h
  · split at h
    · split at h
      · rename_i hc
        obtain ⟨⟨n, f, c⟩, hg⟩ : ∃ g, getD s a = g := ⟨_, rfl⟩
        rw [hg] at h hc
        obtain rfl : c = 0 := hc
        injection h with h; injection h with h1 h2
        obtain ⟨i, m, e1, e2, e3, _⟩ := getD_to hg
        exact ⟨i, i + 2 + m, e1, h2.symm.trans e2, by omega, e3, by rw [← h1]⟩
      · cases h
    · split at h
      · split at h
        · rename_i hc
          obtain ⟨⟨n, f, c⟩, hg⟩ : ∃ g, tget s a = g := ⟨_, rfl⟩
          rw [hg] at h hc
          obtain rfl : c = 0 := hc
          injection h with h; injection h with h1 h2
          obtain ⟨i, m, e1, e2, e3, _⟩ := getD_to (tget_getD hg).1
          exact ⟨i, i + 2 + m, e1, h2.symm.trans e2, by omega, e3, by rw [← h1]⟩
        · cases h
      · split at h
        · split at h
          · split at h
            · rename_i hc hc2
              obtain ⟨⟨n, f, c⟩, hg⟩ : ∃ g, tget s a = g := ⟨_, rfl⟩
              rw [hg] at h hc hc2
              obtain rfl : c = 0 := hc
              obtain ⟨⟨n2, f2, c2⟩, hg2⟩ : ∃ g, tget s f = g := ⟨_, rfl⟩
              have hg2' : tget s (n, f, (0 : Int)).2.1 = (n2, f2, c2) := hg2
              rw [hg2'] at h hc2
              obtain rfl : c2 = 0 := hc2
              injection h with h; injection h with h1 h2
              obtain ⟨i, m, e1, e2, e3, _⟩ := getD_to (tget_getD hg).1
              obtain ⟨i', m', e1', e2', e3', _⟩ := getD_to (tget_getD hg2).1
              exact ⟨i, i' + 2 + m', e1, h2.symm.trans e2', by omega, e3', by rw [← h1]⟩
            · cases h
          · cases h
        · split at h
          · rename_i hc
            obtain ⟨⟨n, f, c⟩, hg⟩ : ∃ g, getF s a (wid (kindOf id)) = g := ⟨_, rfl⟩
            rw [hg] at h hc
            obtain rfl : c = 0 := hc
            injection h with h; injection h with h1 h2
            obtain ⟨i, k, e1, e2, e3, e4, e5, _⟩ := getF_to hg
            exact ⟨i, i + k, e1, h2.symm.trans e3, by omega, e5, by rw [← h1]⟩
          · cases h
end Go.Proofs.YtifbkfkieppacaaDoor
