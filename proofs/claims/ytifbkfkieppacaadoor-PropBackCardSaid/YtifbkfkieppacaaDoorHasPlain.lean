/- Plain: what stands at a place of some bytes, and what is read there. -/
import Derived.Test.YtifbkfkieppacaaDoorRdPlain
namespace Go.Proofs.YtifbkfkieppacaaDoor
set_option linter.unusedVariables false
open Go.RowKit Pl
open Go.PlainAid (bt bt_nonneg bt_le get_bt bt_end)

/-- From place i on stand these bytes. -/
def Has (s : ByteArray) (i : Nat) (l : List UInt8) : Prop := i + l.length ≤ s.size ∧ ∀ j, j < l.length → s.data.toList[i + j]? = l[j]?
theorem has_append {s : ByteArray} {i : Nat} {l r : List UInt8} : Has s i (l ++ r) ↔ Has s i l ∧ Has s (i + l.length) r := by
  constructor
  · rintro ⟨h1, h2⟩
    rw [List.length_append] at h1
    refine ⟨⟨by omega, fun j hj => ?_⟩, by omega, fun j hj => ?_⟩
    · rw [h2 j (by rw [List.length_append]; omega), List.getElem?_append_left hj]
    · rw [Nat.add_assoc, h2 (l.length + j) (by rw [List.length_append]; omega), List.getElem?_append_right (by omega), Nat.add_sub_cancel_left]
  · rintro ⟨⟨h1, h2⟩, h3, h4⟩
    refine ⟨by rw [List.length_append]; omega, fun j hj => ?_⟩
    rw [List.length_append] at hj
    by_cases c : j < l.length
    · rw [h2 j c, List.getElem?_append_left c]
    · rw [List.getElem?_append_right (by omega), ← h4 (j - l.length) (by omega), show i + l.length + (j - l.length) = i + j from by omega]
theorem has_bt {s : ByteArray} {i j : Nat} {l : List UInt8} (h : Has s i l) (hj : j < l.length) : bt s (i + j) = ((l[j]).toNat : Int) := by
  have h1 := h.1
  have h2 := h.2 j hj
  have hl : i + j < s.size := by omega
  rw [← get_bt s (i + j) hl]
  have e : s.data.toList[i + j]? = some s[i + j] := by
    rw [List.getElem?_eq_getElem (by exact hl)]; rfl
  rw [e, List.getElem?_eq_getElem hj] at h2
  injection h2 with h2
  rw [h2]
theorem has_of_bt {s : ByteArray} {i : Nat} {l : List UInt8} (h1 : i + l.length ≤ s.size) (h : ∀ j (hj : j < l.length), bt s (i + j) = ((l[j]).toNat : Int)) : Has s i l := by
  refine ⟨h1, fun j hj => ?_⟩
  have hl : i + j < s.size := by omega
  have e : s.data.toList[i + j]? = some s[i + j] := by
    rw [List.getElem?_eq_getElem (by exact hl)]; rfl
  rw [e, List.getElem?_eq_getElem hj]
  have h2 := h j hj
  rw [← get_bt s (i + j) hl] at h2
  congr 1
  exact UInt8.toNat.inj (by omega)
theorem has_nil {s : ByteArray} {i : Nat} (h : i ≤ s.size) : Has s i [] := ⟨by simpa using h, fun j hj => by simp at hj⟩
theorem has_self (s : ByteArray) : Has s 0 s.data.toList := ⟨by rw [Nat.zero_add]; exact Nat.le_refl _, fun j hj => by rw [Nat.zero_add]⟩
theorem has_extract {s : ByteArray} {i j : Nat} (h : j ≤ s.size) (hij : i ≤ j) : Has s i (s.extract i j).data.toList := by
  have hl : (s.extract i j).data.toList.length = j - i := by
    show (s.extract i j).size = j - i
    rw [ByteArray.size_extract]; omega
  refine ⟨by omega, fun k hk => ?_⟩
  rw [hl] at hk
  rw [ByteArray.data_extract, Array.toList_extract, List.extract_eq_take_drop, List.getElem?_take_of_lt (by omega), List.getElem?_drop]
theorem extract_has {s u : ByteArray} {i : Nat} (h : Has s i u.data.toList) : s.extract i (i + u.size) = u := by
  have h1 := h.1
  have hu : u.data.toList.length = u.size := rfl
  rw [hu] at h1
  apply ByteArray.ext
  apply Array.toList_inj.1
  apply List.ext_getElem?
  intro j
  rw [ByteArray.data_extract, Array.toList_extract, List.extract_eq_take_drop]
  by_cases c : j < u.size
  · rw [List.getElem?_take_of_lt (by omega), List.getElem?_drop, h.2 j c]
  · rw [List.getElem?_eq_none (by simp; omega), List.getElem?_eq_none (by show u.size ≤ j; omega)]
/-- What stands within a part stands in the whole. -/
theorem has_within {s u : ByteArray} {i k : Nat} {l : List UInt8} (h : Has s i u.data.toList) (h2 : Has u k l) : Has s (i + k) l := by
  have h1 := h.1
  have hu : u.data.toList.length = u.size := rfl
  refine ⟨by have := h2.1; omega, fun j hj => ?_⟩
  rw [← h2.2 j hj, ← h.2 (k + j) (by have := h2.1; omega), Nat.add_assoc]
theorem within_has {s u : ByteArray} {i k : Nat} {l : List UInt8} (h : Has s i u.data.toList) (h2 : Has s (i + k) l) (hk : k + l.length ≤ u.size) : Has u k l := by
  have hu : u.data.toList.length = u.size := rfl
  refine ⟨hk, fun j hj => ?_⟩
  rw [← h2.2 j hj, ← h.2 (k + j) (by omega), Nat.add_assoc]
/-! Numbers of a width that varies. -/
theorem enc_vb {n : Int} (h0 : 0 ≤ n) (h1 : n ≤ 268435455) : ∃ r : Nat, r + 1 ≤ 4 ∧ enc n = vb n (r + 1) ∧ n < 128 ^ (r + 1) ∧ (1 < r + 1 ∨ 0 < 0 → 128 ^ (r + 1 - 1) ≤ n) ∧ (enc n).length = r + 1 := by
  have hp := sz_pos h0 h1
  obtain ⟨r, hr⟩ : ∃ r : Nat, sz n = r + 1 := ⟨(sz n - 1).toNat, by omega⟩
  have hr0 := hr
  have hlt : n < 128 ^ (r + 1) ∧ (0 < r → 128 ^ r ≤ n) := by
    obtain rfl | rfl | rfl | rfl : r = 0 ∨ r = 1 ∨ r = 2 ∨ r = 3 := by omega
    all_goals
      unfold sz at hr
      rw [if_neg (by omega)] at hr
      refine ⟨?_, ?_⟩
      all_goals simp
      all_goals (repeat' split at hr)
      all_goals omega
  have he : enc n = vb n (r + 1) := by unfold enc; rw [hr]; rfl
  exact ⟨r, by omega, he, hlt.1, fun hc => by simp only [Nat.add_sub_cancel]; exact hlt.2 (by omega), by rw [he, vb_length]⟩
theorem getV_has {s : ByteArray} {i : Nat} {n : Int} (h0 : 0 ≤ n) (h1 : n ≤ 268435455) (h : Has s i (enc n)) : getV s i = (n, ((i + (enc n).length : Nat) : Int), 0) := by
  obtain ⟨r, hr, he, hlt, hmin, hl⟩ := enc_vb h0 h1
  have hs := h.1
  rw [getV_ok (by omega), hl]
  rw [he] at h
  have := gi_vb s (r + 1) 4 0 i n 0 (by omega) hr h0 hlt hmin (fun j hj => has_bt h hj) (by omega)
  rw [this]
  simp
theorem has_getV {s : ByteArray} {i : Nat} {n to : Int} (h : getV s i = (n, to, 0)) : Has s i (enc n) ∧ to = ((i + (enc n).length : Nat) : Int) ∧ 0 ≤ n ∧ n ≤ 268435455 := by
  have hb := getV_to h
  obtain ⟨i', j', e1, e2, hij, hj, _, hn0, hn1⟩ := hb
  obtain rfl : i = i' := by omega
  rw [getV_ok (by omega)] at h
  obtain ⟨r, v, hr1, hr4, hv, hv0, hv1, hmin, he, hsz, hby⟩ := gi_back s 4 0 i 0 n to h
  obtain rfl : n = v := by rw [hv]; simp
  have hz : sz n = r := by
    have := sz_exact (n := n) (k := r - 1) hn0 (by rw [show r - 1 + 1 = r from by omega]; exact hv1) (by by_cases h1 : r = 1; exact .inl (by omega); exact .inr (hmin (.inl (by omega)))) (by omega)
    omega
  have hen : enc n = vb n r := by unfold enc; rw [hz]; rfl
  refine ⟨?_, by rw [hen, vb_length, he], hn0, hn1⟩
  rw [hen]
  refine has_of_bt (by rw [vb_length]; exact hsz) (fun j hj => ?_)
  have hl : i + j < s.size := by rw [vb_length] at hj; omega
  rw [← get_bt s (i + j) hl, ← hby j hj hl]
/-! Numbers of a fixed width. -/
theorem gv_cons (s : ByteArray) (a : Nat) : ∀ k, gv s a (k + 1) = bt s a * 256 ^ k + gv s (a + 1) k
  | 0 => by simp [gv]
  | k + 1 => by
    show gv s a (k + 1) * 256 + bt s (a + (k + 1)) = _
    rw [gv_cons s a k]
    show _ = bt s a * 256 ^ (k + 1) + (gv s (a + 1) k * 256 + bt s (a + 1 + k))
    rw [Int.pow_succ, show a + 1 + k = a + (k + 1) from by omega, Int.add_mul, Int.mul_assoc, Int.add_assoc]
theorem mod_mul (n P : Int) (hP : 0 < P) : n % (P * 256) = n / P % 256 * P + n % P := by
  have h1 : n = P * (n / P) + n % P := (Int.mul_ediv_add_emod n P).symm
  have h2 : n / P = 256 * (n / P / 256) + n / P % 256 := (Int.mul_ediv_add_emod (n / P) 256).symm
  have h3 := Int.emod_nonneg n (show P ≠ 0 by omega)
  have h4 := Int.emod_lt_of_pos n hP
  have h5 := Int.emod_nonneg (n / P) (show (256 : Int) ≠ 0 by decide)
  have h6 := Int.emod_lt_of_pos (n / P) (show (0 : Int) < 256 by decide)
  generalize hq : n / P / 256 = q at h2
  generalize hm : n / P % 256 = m at *
  generalize hr : n % P = r at *
  have h7 : n = (m * P + r) + P * 256 * q := by
    rw [h1, h2, Int.mul_add]
    have e1 : P * (256 * q) = P * 256 * q := by rw [Int.mul_assoc]
    have e2 : P * m = m * P := Int.mul_comm _ _
    omega
  rw [h7, Int.add_mul_emod_self_left]
  apply Int.emod_eq_of_lt
  · have := Int.mul_nonneg h5 (Int.le_of_lt hP)
    omega
  · have e : m * P ≤ 255 * P := Int.mul_le_mul_of_nonneg_right (by omega) (Int.le_of_lt hP)
    omega
theorem gv_has {s : ByteArray} {n : Int} : ∀ {k i : Nat}, Has s i (fb k n) → gv s i k = n % 256 ^ k
  | 0, i, _ => by simp [gv]
  | k + 1, i, h => by
    have h' : Has s i ([by8 (n / 256 ^ k)] ++ fb k n) := h
    obtain ⟨h1, h2'⟩ := has_append.1 h'
    have h2 : Has s (i + 1) (fb k n) := h2'
    have hb := has_bt h1 (j := 0) (by simp)
    simp only [List.getElem_cons_zero, by8_toNat, Nat.add_zero] at hb
    rw [gv_cons, hb, gv_has h2, Int.pow_succ]
    exact (mod_mul n (256 ^ k) (Int.pow_pos (by decide))).symm
theorem fb_mod (n : Int) : ∀ k m, k ≤ m → fb k (n % 256 ^ m) = fb k n
  | 0, _, _ => rfl
  | k + 1, m, h => by
    show by8 (n % 256 ^ m / 256 ^ k) :: fb k (n % 256 ^ m) = by8 (n / 256 ^ k) :: fb k n
    rw [fb_mod n k m (by omega)]
    congr 1
    obtain ⟨d, rfl⟩ : ∃ d, m = k + 1 + d := ⟨m - (k + 1), by omega⟩
    have e : (256 : Int) ^ (k + 1 + d) = 256 ^ k * (256 ^ d * 256) := by rw [Int.pow_add, Int.pow_succ, Int.mul_assoc, Int.mul_comm (256 : Int) (256 ^ d)]
    have hp : (0 : Int) < 256 ^ k := Int.pow_pos (by decide)
    rw [e]
    have h1 : n % (256 ^ k * (256 ^ d * 256)) = n - 256 ^ k * (256 ^ d * 256) * (n / (256 ^ k * (256 ^ d * 256))) := by
      have := Int.mul_ediv_add_emod n (256 ^ k * (256 ^ d * 256))
      omega
    rw [h1]
    generalize n / (256 ^ k * (256 ^ d * 256)) = q
    rw [show n - 256 ^ k * (256 ^ d * 256) * q = n + 256 ^ k * (-(256 ^ d * 256 * q)) from by rw [Int.mul_neg, Int.mul_assoc (256 ^ k), Int.sub_eq_add_neg]]
    rw [Int.add_mul_ediv_left _ _ (by omega)]
    have h2 : n / 256 ^ k + -(256 ^ d * 256 * q) = n / 256 ^ k + 256 * (-(256 ^ d * q)) := by
      have : (256 : Int) ^ d * 256 * q = 256 * (256 ^ d * q) := by rw [Int.mul_comm ((256 : Int) ^ d) 256, Int.mul_assoc]
      omega
    unfold by8
    rw [h2, Int.add_mul_emod_self_left]
theorem has_gv {s : ByteArray} : ∀ {k i : Nat}, i + k ≤ s.size → Has s i (fb k (gv s i k))
  | 0, i, h => has_nil (by simpa using h)
  | k + 1, i, h => by
    have hg := gv_bd s (i + 1) k
    have hp : (0 : Int) < 256 ^ k := Int.pow_pos (by decide)
    have hb0 := bt_nonneg s i
    have hb1 := bt_le s i
    show Has s i ([by8 (gv s i (k + 1) / 256 ^ k)] ++ fb k (gv s i (k + 1)))
    have e1 : gv s i (k + 1) / 256 ^ k = bt s i := by
      rw [gv_cons, Int.add_comm, Int.add_mul_ediv_right _ _ (by omega), Int.ediv_eq_zero_of_lt hg.1 hg.2, Int.zero_add]
    have e2 : fb k (gv s i (k + 1)) = fb k (gv s (i + 1) k) := by
      rw [← fb_mod (gv s i (k + 1)) k k (Nat.le_refl _), gv_cons, Int.add_comm, Int.add_mul_emod_self_right, Int.emod_eq_of_lt hg.1 hg.2]
    rw [e1, e2]
    refine has_append.2 ⟨has_of_bt (by simp; omega) (fun j hj => ?_), has_gv (by simp; omega)⟩
    obtain rfl : j = 0 := by simp at hj; omega
    simp only [List.getElem_cons_zero, by8_toNat, Nat.add_zero]
    omega
theorem fixS_ok {k : Nat} {n : Int} (hk : k = 1 ∨ k = 2 ∨ k = 4) (h0 : 0 ≤ n) (h1 : n < 256 ^ k) : fixC k n = 0 ∧ fixS k n = fb k n := fix_in (by unfold Wide; omega) h0 h1
theorem fixC_zero {w n : Int} (h : fixC w n = 0) : ∃ k : Nat, w = k ∧ (k = 1 ∨ k = 2 ∨ k = 4) ∧ 0 ≤ n ∧ n < 256 ^ k := by
  unfold fixC at h
  split at h
  · cases h
  · rename_i hw
    split at h
    · cases h
    · rename_i hn
      have hw' : Wide w := Decidable.not_not.1 hw
      refine ⟨w.toNat, ?_, ?_, by omega, by omega⟩
      all_goals (unfold Wide at hw'; omega)
theorem getF_has {s : ByteArray} {i : Nat} {w n : Int} (hc : fixC w n = 0) (h : Has s i (fixS w n)) : getF s i w = (n, ((i + (fixS w n).length : Nat) : Int), 0) := by
  obtain ⟨k, rfl, hk, h0, h1⟩ := fixC_zero hc
  rw [(fixS_ok hk h0 h1).2] at h ⊢
  have hs := h.1
  rw [fb_length] at hs ⊢
  rw [getF_ok (by unfold Wide; omega) (by omega)]
  show (gv s i k, (i : Int) + k, (0 : Int)) = _
  rw [gv_has h, Int.emod_eq_of_lt h0 h1]
  simp
theorem has_getF {s : ByteArray} {i : Nat} {w n to : Int} (h : getF s i w = (n, to, 0)) : fixC w n = 0 ∧ Has s i (fixS w n) ∧ to = ((i + (fixS w n).length : Nat) : Int) := by
  obtain ⟨i', k, e1, rfl, rfl, hk, hs, rfl⟩ := getF_to h
  obtain rfl : i = i' := by omega
  have hg := gv_bd s i k
  obtain ⟨q1, q2⟩ := fixS_ok hk hg.1 hg.2
  exact ⟨q1, by rw [q2]; exact has_gv hs, by rw [q2, fb_length]⟩
/-! Data, texts. -/
theorem dataS_len {t : ByteArray} (h : dataC t = 0) : t.size ≤ 65535 ∧ (dataS t).data.toList = fb 2 t.size ++ t.data.toList ∧ (dataS t).size = 2 + t.size := by
  have hs : t.size ≤ 65535 := by
    unfold dataC at h
    split at h
    · cases h
    · omega
  have e : (dataS t).data.toList = fb 2 t.size ++ t.data.toList := by
    rw [(data_ok (by omega)).2, ByteArray.data_append, Array.toList_append]
    congr 1
    exact (fixS_ok (k := 2) (n := t.size) (by omega) (by omega) (by show (t.size : Int) < 65536; omega)).2
  refine ⟨hs, e, ?_⟩
  show (dataS t).data.toList.length = _
  rw [e, List.length_append, fb_length]
  rfl
theorem getD_has {s t : ByteArray} {i : Nat} (hc : dataC t = 0) (h : Has s i (dataS t).data.toList) : getD s i = (t, ((i + (dataS t).size : Nat) : Int), 0) := by
  obtain ⟨ht, e, hsz⟩ := dataS_len hc
  rw [e] at h
  obtain ⟨h1, h2⟩ := has_append.1 h
  rw [fb_length] at h2
  obtain ⟨q1, q2⟩ := fixS_ok (k := 2) (n := t.size) (by omega) (by omega) (by show (t.size : Int) < 65536; omega)
  have g := getF_has (s := s) (i := i) (w := 2) (n := t.size) q1 (by rw [show ((2 : Int)) = ((2 : Nat) : Int) from rfl, q2]; exact h1)
  rw [show (fixS 2 t.size).length = 2 from by rw [show ((2 : Int)) = ((2 : Nat) : Int) from rfl, q2, fb_length]] at g
  have hs := h2.1
  have htl : t.data.toList.length = t.size := rfl
  rw [getD_ok (m := t.size) (f := i + 2) g (by omega), extract_has h2, hsz]
  congr 2
  omega
theorem has_getD {s t : ByteArray} {i : Nat} {to : Int} (h : getD s i = (t, to, 0)) : dataC t = 0 ∧ Has s i (dataS t).data.toList ∧ to = ((i + (dataS t).size : Nat) : Int) := by
  obtain ⟨i', m, e1, e2, hs, hm, hg, e3⟩ := getD_to h
  clear h
  obtain rfl : i = i' := by omega
  subst e3 e2
  have hsz : (s.extract (i + 2) (i + 2 + m)).size = m := by rw [ByteArray.size_extract]; omega
  have hc : dataC (s.extract (i + 2) (i + 2 + m)) = 0 := (data_ok (by omega)).1
  obtain ⟨_, e, hz⟩ := dataS_len hc
  refine ⟨hc, ?_, by rw [hz, hsz]; omega⟩
  rw [e, hsz]
  refine has_append.2 ⟨?_, ?_⟩
  · rw [← hg]; exact has_gv (by omega)
  · rw [fb_length]
    exact has_extract hs (by omega)
theorem tputC_zero {t : ByteArray} (h : tputC t = 0) : (flt t t.size 0).2 = false ∧ dataC t = 0 ∧ tputS t = dataS t := by
  by_cases hb : (flt t t.size 0).2 = true
  · rw [(tput_bad hb).1] at h; cases h
  · have hb' : (flt t t.size 0).2 = false := by simpa using hb
    obtain ⟨h1, h2⟩ := tput_ok hb'
    exact ⟨hb', h1.symm.trans h, h2⟩
theorem tget_has {s t : ByteArray} {i : Nat} (hc : tputC t = 0) (h : Has s i (tputS t).data.toList) : tget s i = (t, ((i + (tputS t).size : Nat) : Int), 0) := by
  obtain ⟨hb, h1, h2⟩ := tputC_zero hc
  rw [h2] at h ⊢
  exact tget_ok (getD_has h1 h) hb
theorem has_tget {s t : ByteArray} {i : Nat} {to : Int} (h : tget s i = (t, to, 0)) : tputC t = 0 ∧ Has s i (tputS t).data.toList ∧ to = ((i + (tputS t).size : Nat) : Int) := by
  obtain ⟨hd, hb⟩ := tget_getD h
  obtain ⟨h1, h2, h3⟩ := has_getD hd
  obtain ⟨q1, q2⟩ := tput_ok hb
  rw [q2]
  exact ⟨q1.trans h1, h2, h3⟩
end Go.Proofs.YtifbkfkieppacaaDoor
