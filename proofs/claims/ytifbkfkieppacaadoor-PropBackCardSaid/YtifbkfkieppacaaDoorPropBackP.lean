/- Plain: properties are read back from their bytes; bytes that are read are just theirs. -/
import Derived.Test.YtifbkfkieppacaaDoorHasPlain
namespace Go.Proofs.YtifbkfkieppacaaDoor
set_option linter.unusedVariables false
open Go.RowKit Pl
open Go.PlainAid (bt bt_nonneg bt_le get_bt bt_end)

/-- A property without what its kind does not ask for. -/
def nrm (p : Pp) : Pp :=
  if kindOf p.id = 5 ∨ kindOf p.id = 6 then ⟨p.id, 0, p.s, noS⟩ else if kindOf p.id = 7 then ⟨p.id, 0, p.s, p.t⟩ else ⟨p.id, p.n, noS, noS⟩
theorem nrm_id (p : Pp) : (nrm p).id = p.id := by
  unfold nrm
  split
  · rfl
  · split <;> rfl
theorem kind_id {n : Int} (h : kindOf n ≠ 0) : 1 ≤ n ∧ n ≤ 42 := by
  by_cases c : (n = 1 ∨ n = 23 ∨ n = 25 ∨ n = 36 ∨ n = 37 ∨ n = 40 ∨ n = 41 ∨ n = 42 ∨ n = 19 ∨ n = 33 ∨ n = 34 ∨ n = 35 ∨ n = 2 ∨ n = 17 ∨ n = 24 ∨ n = 39 ∨ n = 11 ∨ n = 9 ∨ n = 22 ∨ n = 3 ∨ n = 8 ∨ n = 18 ∨ n = 21 ∨ n = 26 ∨ n = 28 ∨ n = 31 ∨ n = 38)
  · omega
  · exact absurd (kind0 c) h
theorem putC_zero {n : Int} (h : putC n = 0) : 0 ≤ n ∧ n ≤ 268435455 := by
  unfold putC at h
  split at h
  · cases h
  · omega
theorem mk_bytes (l : List UInt8) : (⟨l.toArray⟩ : ByteArray).data.toList = l := rfl
theorem mk_size (l : List UInt8) : (⟨l.toArray⟩ : ByteArray).size = l.length := rfl
theorem app_bytes (a b : ByteArray) : (a ++ b).data.toList = a.data.toList ++ b.data.toList := by rw [ByteArray.data_append, Array.toList_append]
/-- A value is read back from its bytes. -/
theorem rdv_has {s : ByteArray} {i : Nat} {p : Pp} (hc : pvC p = 0) (h : Has s i (pvS p).data.toList) : rdv s p.id i = some (nrm p, ((i + (pvS p).size : Nat) : Int)) := by
  unfold pvC at hc
  unfold pvS at h ⊢
  unfold rdv nrm
  by_cases h4 : kindOf p.id = 4
  · rw [if_pos h4] at hc h
    obtain ⟨g0, g1⟩ := putC_zero hc
    rw [mk_bytes] at h
    rw [if_pos h4, if_pos h4, getV_has g0 g1 h, if_pos rfl, if_neg (by omega), if_neg (by omega), mk_size]
  · rw [if_neg h4] at hc h
    rw [if_neg h4, if_neg h4]
    by_cases h5 : kindOf p.id = 5
    · rw [if_pos h5] at hc h
      rw [if_pos h5, if_pos h5, getD_has hc h, if_pos rfl, if_pos (.inl h5)]
    · rw [if_neg h5] at hc h
      rw [if_neg h5, if_neg h5]
      by_cases h6 : kindOf p.id = 6
      · rw [if_pos h6] at hc h
        rw [if_pos h6, if_pos h6, tget_has hc h, if_pos rfl, if_pos (.inr h6)]
      · rw [if_neg h6] at hc h
        rw [if_neg h6, if_neg h6]
        rw [if_neg (show ¬ (kindOf p.id = 5 ∨ kindOf p.id = 6) from by omega)]
        by_cases h7 : kindOf p.id = 7
        · rw [if_pos h7] at hc h
          rw [if_pos h7, if_pos h7, if_pos h7]
          have hcs : tputC p.s = 0 := by
            split at hc
            · assumption
            · exact absurd hc (by assumption)
          rw [if_pos hcs] at hc
          rw [app_bytes] at h
          obtain ⟨k1, k2⟩ := has_append.1 h
          have e1 := tget_has hcs k1
          have e2 := tget_has (i := i + (tputS p.s).size) hc k2
          rw [e1]
          simp only
          rw [e2]
          simp only [if_true]
          rw [ByteArray.size_append, Nat.add_assoc]
        · rw [if_neg h7] at hc h
          rw [if_neg h7, if_neg h7, if_neg h7, getF_has hc h, if_pos rfl, mk_size]
/-- A value that is read stands there in its bytes. -/
theorem has_rdv {s : ByteArray} {i : Nat} {id to : Int} {p : Pp} (h : rdv s id i = some (p, to)) : pvC p = 0 ∧ Has s i (pvS p).data.toList ∧ to = ((i + (pvS p).size : Nat) : Int) ∧ p.id = id ∧ nrm p = p := by
  unfold rdv at h
  by_cases h4 : kindOf id = 4
  · rw [if_pos h4] at h
    obtain ⟨⟨n, f, c⟩, hg⟩ : ∃ g, getV s i = g := ⟨_, rfl⟩
    rw [hg] at h
    split at h
    · rename_i hc
      obtain rfl : c = 0 := hc
      injection h with h; injection h with h1 h2
      subst h1 h2
      obtain ⟨q1, q2, q3, q4⟩ := has_getV hg
      have e1 : pvC ⟨id, n, noS, noS⟩ = 0 := by unfold pvC; rw [if_pos h4]; show putC n = 0; unfold putC; rw [if_neg (by omega)]
      have e2 : pvS ⟨id, n, noS, noS⟩ = ⟨(enc n).toArray⟩ := by unfold pvS; rw [if_pos h4]
      refine ⟨e1, by rw [e2]; exact q1, by rw [e2]; exact q2, rfl, ?_⟩
      unfold nrm
      rw [if_neg (by simp only; omega), if_neg (by simp only; omega)]
    · cases h
  · rw [if_neg h4] at h
    by_cases h5 : kindOf id = 5
    · rw [if_pos h5] at h
      obtain ⟨⟨n, f, c⟩, hg⟩ : ∃ g, getD s i = g := ⟨_, rfl⟩
      rw [hg] at h
      split at h
      · rename_i hc
        obtain rfl : c = 0 := hc
        injection h with h; injection h with h1 h2
        subst h1 h2
        obtain ⟨q1, q2, q3⟩ := has_getD hg
        have e1 : pvC ⟨id, 0, n, noS⟩ = 0 := by unfold pvC; rw [if_neg h4, if_pos h5]; exact q1
        have e2 : pvS ⟨id, 0, n, noS⟩ = dataS n := by unfold pvS; rw [if_neg h4, if_pos h5]
        refine ⟨e1, by rw [e2]; exact q2, by rw [e2]; exact q3, rfl, ?_⟩
        unfold nrm
        rw [if_pos (.inl h5)]
      · cases h
    · rw [if_neg h5] at h
      by_cases h6 : kindOf id = 6
      · rw [if_pos h6] at h
        obtain ⟨⟨n, f, c⟩, hg⟩ : ∃ g, tget s i = g := ⟨_, rfl⟩
        rw [hg] at h
        split at h
        · rename_i hc
          obtain rfl : c = 0 := hc
          injection h with h; injection h with h1 h2
          subst h1 h2
          obtain ⟨q1, q2, q3⟩ := has_tget hg
          have e1 : pvC ⟨id, 0, n, noS⟩ = 0 := by unfold pvC; rw [if_neg h4, if_neg h5, if_pos h6]; exact q1
          have e2 : pvS ⟨id, 0, n, noS⟩ = tputS n := by unfold pvS; rw [if_neg h4, if_neg h5, if_pos h6]
          refine ⟨e1, by rw [e2]; exact q2, by rw [e2]; exact q3, rfl, ?_⟩
          unfold nrm
          rw [if_pos (.inr h6)]
        · cases h
      · rw [if_neg h6] at h
        by_cases h7 : kindOf id = 7
        · rw [if_pos h7] at h
          obtain ⟨⟨n, f, c⟩, hg⟩ : ∃ g, tget s i = g := ⟨_, rfl⟩
          rw [hg] at h
          split at h
          · rename_i hc
            obtain rfl : c = 0 := hc
            obtain ⟨q1, q2, q3⟩ := has_tget hg
            subst q3
            obtain ⟨⟨n2, f2, c2⟩, hg2⟩ : ∃ g, tget s ((i + (tputS n).size : Nat) : Int) = g := ⟨_, rfl⟩
            simp only at h
            rw [hg2] at h
            split at h
            · rename_i hc2
              obtain rfl : c2 = 0 := hc2
              injection h with h; injection h with h1 h2
              subst h1 h2
              obtain ⟨r1, r2, r3⟩ := has_tget hg2
              have e1 : pvC ⟨id, 0, n, n2⟩ = 0 := by unfold pvC; rw [if_neg h4, if_neg h5, if_neg h6, if_pos h7, if_pos q1]; exact r1
              have e2 : pvS ⟨id, 0, n, n2⟩ = tputS n ++ tputS n2 := by unfold pvS; rw [if_neg h4, if_neg h5, if_neg h6, if_pos h7]
              refine ⟨e1, by rw [e2, app_bytes]; exact has_append.2 ⟨q2, r2⟩, by rw [e2, ByteArray.size_append, ← Nat.add_assoc]; exact r3, rfl, ?_⟩
              unfold nrm
              rw [if_neg (by simp only; omega), if_pos h7]
            · cases h
          · cases h
        · rw [if_neg h7] at h
          obtain ⟨⟨n, f, c⟩, hg⟩ : ∃ g, getF s i (wid (kindOf id)) = g := ⟨_, rfl⟩
          rw [hg] at h
          split at h
          · rename_i hc
            obtain rfl : c = 0 := hc
            injection h with h; injection h with h1 h2
            subst h1 h2
            obtain ⟨q1, q2, q3⟩ := has_getF hg
            have e1 : pvC ⟨id, n, noS, noS⟩ = 0 := by unfold pvC; rw [if_neg h4, if_neg h5, if_neg h6, if_neg h7]; exact q1
            have e2 : pvS ⟨id, n, noS, noS⟩ = ⟨(fixS (wid (kindOf id)) n).toArray⟩ := by unfold pvS; rw [if_neg h4, if_neg h5, if_neg h6, if_neg h7]
            refine ⟨e1, by rw [e2]; exact q2, by rw [e2]; exact q3, rfl, ?_⟩
            unfold nrm
            rw [if_neg (by simp only; omega), if_neg (by simp only; omega)]
          · cases h
/-- The bytes of properties, one behind the other. -/
def cat (T : List Pp) : List UInt8 := T.flatMap fun p => (one p).data.toList
theorem cat_cons (p : Pp) (T : List Pp) : cat (p :: T) = (one p).data.toList ++ cat T := rfl
theorem cat_append (A T : List Pp) : cat (A ++ T) = cat A ++ cat T := List.flatMap_append
theorem one_bytes (p : Pp) : (one p).data.toList = enc p.id ++ (pvS p).data.toList := by unfold one; rw [app_bytes]
theorem put_cat (L : List Pp) : ∀ k, k ≤ L.length → (putK L k).data.toList = cat (L.take k)
  | 0, _ => rfl
  | k + 1, h => by
    obtain ⟨p, hp⟩ : ∃ p, L[k]? = some p := ⟨_, List.getElem?_eq_getElem (by omega)⟩
    rw [put_succ hp, app_bytes, put_cat L k (by omega), List.take_add_one, hp, cat_append]
    congr 1
    simp [cat]
theorem cod_all {L : List Pp} (h : ∀ j p, L[j]? = some p → stp L j p = 0) : ∀ k, codK L k = 0
  | 0 => rfl
  | k + 1 => by
    have ih := cod_all h k
    show (if codK L k = 0 then (match L[k]? with | some p => stp L k p | none => 0) else codK L k) = 0
    rw [if_pos ih]
    split
    · rename_i p hp; exact h k p hp
    · rfl
theorem cod_before {L : List Pp} : ∀ {k : Nat}, codK L k = 0 → ∀ j, j < k → ∀ p, L[j]? = some p → stp L j p = 0
  | k + 1, h, j, hj, p, hp => by
    have h' : (if codK L k = 0 then (match L[k]? with | some p => stp L k p | none => 0) else codK L k) = 0 := h
    by_cases c : codK L k = 0
    · by_cases e : j = k
      · subst e
        rw [if_pos c, hp] at h'
        exact h'
      · exact cod_before c j (by omega) p hp
    · rw [if_neg c] at h'
      exact absurd h' c
theorem stp_zero {L : List Pp} {k : Nat} {p : Pp} (h : stp L k p = 0) : kindOf p.id ≠ 0 ∧ dup L k p.id = false ∧ pvC p = 0 := by
  unfold stp at h
  split at h
  · cases h
  · rename_i h0
    split at h
    · cases h
    · rename_i h1
      exact ⟨h0, by simpa using h1, h⟩
theorem stp_mk {L : List Pp} {k : Nat} {p : Pp} (h0 : kindOf p.id ≠ 0) (h1 : dup L k p.id = false) (h2 : pvC p = 0) : stp L k p = 0 := by
  unfold stp; rw [if_neg h0, h1, if_neg (by decide), h2]
theorem dup_nrm (A T : List Pp) (id : Int) : dupL (A.map nrm) id = dup (A ++ T) A.length id := by
  unfold dupL dup
  rw [List.take_left', List.any_map]
  · congr 1
    congr 1
    funext p
    simp [nrm_id]
  · rfl
/-- Properties are read back. -/
theorem pgs_fwd {s : ByteArray} : ∀ (T A : List Pp) (a f : Nat), (∀ j p, T[j]? = some p → stp (A ++ T) (A.length + j) p = 0) → s.size = a + (cat T).length → Has s a (cat T) → A.length + T.length ≤ 64 → T.length + 1 ≤ f →
    pgs s f (A.map nrm) a = ((A ++ T).map nrm, 0)
  | [], A, a, f, _, hs, _, _, _ => by
    rw [pgs_end (by simp [cat] at hs; omega), List.append_nil]
  | p :: T, A, a, f, h, hs, hh, hl, hf => by
    simp only [List.length_cons] at hl hf
    obtain ⟨f, rfl⟩ : ∃ g, f = g + 1 := ⟨f - 1, by omega⟩
    obtain ⟨h0, h1, h2⟩ := stp_zero (h 0 p rfl)
    have hid := kind_id h0
    rw [cat_cons, one_bytes, List.append_assoc] at hh
    rw [cat_cons, one_bytes] at hs
    simp only [List.length_append] at hs
    obtain ⟨g1, g2⟩ := has_append.1 hh
    obtain ⟨g3, g4⟩ := has_append.1 g2
    have hp := (enc_vb (n := p.id) (by omega) (by omega))
    obtain ⟨r, _, _, _, _, hr⟩ := hp
    have hv := getV_has (by omega) (by omega) g1
    have hpl : (pvS p).data.toList.length = (pvS p).size := rfl
    rw [pgs_rd (by omega) (by rw [List.length_map]; omega) hv h0 (by rw [dup_nrm A (p :: T)]; exact h1), rdv_has h2 g3]
    simp only
    have ih := pgs_fwd T (A ++ [p]) (a + (enc p.id).length + (pvS p).size) f (fun j q hq => by
      have := h (j + 1) q hq
      rw [List.append_assoc, List.length_append]
      simpa [Nat.add_assoc, Nat.add_comm 1 j] using this) (by omega) g4 (by rw [List.length_append]; simp; omega) (by omega)
    rw [List.map_append, List.append_assoc] at ih
    exact ih
/-- Bytes that are read are just the properties'. -/
theorem pgs_bwd {s : ByteArray} : ∀ (f : Nat) (L M : List Pp) (a : Nat), pgs s f L a = (M, 0) → a ≤ s.size → L.length ≤ 64 → 66 ≤ f + L.length →
    ∃ T, M = L ++ T ∧ Has s a (cat T) ∧ s.size = a + (cat T).length ∧ M.length ≤ 64 ∧ ∀ j p, T[j]? = some p → stp M (L.length + j) p = 0 ∧ nrm p = p
  | 0, L, M, a, _, _, hL, hf => by omega
  | f + 1, L, M, a, h, ha, hL, hf => by
    by_cases c1 : (s.size : Int) ≤ a
    · rw [pgs_end c1] at h
      injection h with h1 _
      subst h1
      exact ⟨[], by simp, has_nil ha, by simp [cat]; omega, hL, fun j p hp => by simp at hp⟩
    · by_cases c2 : 64 ≤ L.length
      · rw [pgs_full c1 c2] at h; injection h with _ h; cases h
      · obtain ⟨⟨id, nx, d⟩, hg⟩ : ∃ g, getV s a = g := ⟨_, rfl⟩
        by_cases c3 : d ≠ 0 ∨ kindOf id = 0
        · rw [pgs_bad c1 c2 hg c3] at h; injection h with _ h; cases h
        · simp only [not_or, ne_eq, Decidable.not_not] at c3
          obtain ⟨rfl, c4⟩ := c3
          cases c5 : dupL L id
          · rw [pgs_rd c1 c2 hg c4 c5] at h
            obtain ⟨q1, q2, q3, q4⟩ := has_getV hg
            subst q2
            cases hr : rdv s id ((a + (enc id).length : Nat) : Int) with
            | none => rw [hr] at h; injection h with _ h; cases h
            | some pt =>
              obtain ⟨p, to⟩ := pt
              rw [hr] at h
              obtain ⟨r1, r2, r3, r4, r5⟩ := has_rdv hr
              subst r3
              simp only at h
              have hle := r2.1
              have hpl : (pvS p).data.toList.length = (pvS p).size := rfl
              obtain ⟨T, rfl, k2, k3, k4, k5⟩ := pgs_bwd f (L ++ [p]) M _ h (by omega) (by rw [List.length_append]; simp; omega) (by rw [List.length_append]; simp; omega)
              subst r4
              refine ⟨p :: T, by simp, ?_, ?_, k4, fun j q hq => ?_⟩
              · rw [cat_cons, one_bytes, List.append_assoc]
                exact has_append.2 ⟨q1, has_append.2 ⟨r2, k2⟩⟩
              · rw [cat_cons, one_bytes, k3]
                simp only [List.length_append]
                omega
              · cases j with
                | zero =>
                  obtain rfl : p = q := by simpa using hq
                  refine ⟨stp_mk c4 ?_ r1, r5⟩
                  unfold dupL at c5
                  unfold dup
                  rw [List.append_assoc, Nat.add_zero, List.take_left']
                  · exact c5
                  · rfl
                | succ j =>
                  have := k5 j q (by simpa using hq)
                  rw [List.length_append] at this
                  simpa [Nat.add_assoc, Nat.add_comm 1 j] using this
          · rw [pgs_dup c1 c2 hg c4 c5] at h; injection h with _ h; cases h
/-- .. with their length ahead. -/
theorem getP_back {L : List Pp} (h : ppC L = 0) : getP (ppS L) 0 = (L.map nrm, ((ppS L).size : Int), 0) := by
  have h64 : ¬ 64 < L.length := by
    intro c; rw [(pp_long c).1] at h; cases h
  have hc : codK L L.length = 0 := by unfold ppC at h; rwa [if_neg h64] at h
  obtain ⟨_, hS⟩ := pp_ok h64 hc
  have hb := put_cat L L.length (Nat.le_refl _)
  rw [List.take_length] at hb
  have hm := put_small L L.length
  obtain ⟨m, hm'⟩ : ∃ m, (putK L L.length).size = m := ⟨_, rfl⟩
  have hcl : (cat L).length = m := by rw [← hb]; exact hm'
  rw [hm'] at hS hm
  have hSb : (ppS L).data.toList = enc m ++ cat L := by rw [hS, app_bytes, hb]
  have hSs : (ppS L).size = (enc m).length + m := by
    show (ppS L).data.toList.length = _
    rw [hSb, List.length_append, hcl]
  have hh := has_self (ppS L)
  rw [hSb] at hh
  obtain ⟨g1, g2⟩ := has_append.1 hh
  rw [Nat.zero_add] at g2
  have hv := getV_has (by omega) (by omega) g1
  rw [Nat.zero_add] at hv
  have hw : Has (ppS L) (enc m).length (⟨(cat L).toArray⟩ : ByteArray).data.toList := g2
  have hx := extract_has hw
  rw [mk_size, hcl] at hx
  have hf := pgs_fwd (s := ⟨(cat L).toArray⟩) L [] 0 66 (fun j p hp => by
    have := cod_before hc j (List.getElem?_eq_some_iff.1 hp).1 p hp
    simpa using this) (by rw [mk_size]; omega) (has_self ⟨(cat L).toArray⟩) (by simp; omega) (by omega)
  have := getP_ok (s := ppS L) (at_ := 0) (m := m) (f := (enc m).length) (L := L.map nrm) hv (by omega) (by rw [hx]; exact hf)
  rw [this, hSs]
  rfl
set_option maxHeartbeats 4000000 in
theorem back_getP {s : ByteArray} {M : List Pp} {nx : Int} (h : getP s 0 = (M, nx, 0)) : ppC M = 0 ∧ (∃ k : Nat, nx = k ∧ k ≤ s.size ∧ s.extract 0 k = ppS M) ∧ (∀ p ∈ M, p.fits) ∧ M.map nrm = M := by
  obtain ⟨⟨n, from_, c⟩, hg⟩ : ∃ g, getV s 0 = g := ⟨_, rfl⟩
  by_cases hc : c = 0
  · subst hc
    obtain ⟨q1, q2, q3, q4⟩ := has_getV (i := 0) hg
    subst q2
    rw [Nat.zero_add] at hg
    obtain ⟨m, rfl⟩ := Int.eq_ofNat_of_zero_le q3
    by_cases hlt : (s.size : Int) - ((enc (m : Int)).length : Nat) < m
    · rw [getP_none hg hlt] at h; injection h with _ h; injection h with _ h; cases h
    · have hm : (enc (m : Int)).length + m ≤ s.size := by omega
      obtain ⟨⟨M', c'⟩, hr⟩ : ∃ r, pgs (s.extract (enc (m : Int)).length ((enc (m : Int)).length + m)) 66 [] 0 = r := ⟨_, rfl⟩
      by_cases hc' : c' = 0
      · subst hc'
        rw [getP_ok hg hm hr] at h
        injection h with h1 h
        injection h with h2 _
        subst h1 h2
        have hsub : (s.extract (enc (m : Int)).length ((enc (m : Int)).length + m)).size = m := by rw [ByteArray.size_extract]; omega
        obtain ⟨T, hT, k2, k3, k4, k5⟩ := pgs_bwd 66 [] M' 0 hr (by omega) (by decide) (by decide)
        rw [List.nil_append] at hT
        subst hT
        have hcod := cod_all (L := M') (fun j p hp => by have := (k5 j p hp).1; simpa using this) M'.length
        obtain ⟨e1, e2⟩ := pp_ok (by omega) hcod
        have hb := put_cat M' M'.length (Nat.le_refl _)
        rw [List.take_length] at hb
        have hml : (cat M').length = m := by omega
        have hpm : (putK M' M'.length).size = m := by
          show (putK M' M'.length).data.toList.length = m
          rw [hb, hml]
        rw [hpm] at e2
        refine ⟨e1, ⟨(enc (m : Int)).length + m, by simp, hm, ?_⟩, ?_, ?_⟩
        · have hall : Has s 0 (ppS M').data.toList := by
            rw [e2, app_bytes, hb]
            refine has_append.2 ⟨q1, ?_⟩
            rw [Nat.zero_add]
            have := has_within (has_extract (s := s) (i := (enc (m : Int)).length) (j := (enc (m : Int)).length + m) hm (by omega)) k2
            rw [Nat.add_zero] at this
            exact this
          have := extract_has hall
          rw [Nat.zero_add] at this
          rw [← this]
          congr 1
          rw [e2, ByteArray.size_append, hpm]
          rfl
        · intro p hp
          obtain ⟨j, hj⟩ := List.mem_iff_getElem?.1 hp
          obtain ⟨z1, z2⟩ := k5 j p hj
          obtain ⟨y1, y2, y3⟩ := stp_zero z1
          have hid := kind_id y1
          have dz : noS.size ≤ 65535 := by decide
          have d0 : (0 : Int) ≤ 0 := Int.le_refl 0
          have d1 : (0 : Int) ≤ 4294967295 := by decide
          have hfit : p.s.size ≤ 65535 ∧ p.t.size ≤ 65535 ∧ 0 ≤ p.n ∧ p.n ≤ 4294967295 := by
            rw [← z2]
            unfold nrm
            unfold pvC at y3
            split at y3
            · have := putC_zero y3
              rw [if_neg (by omega), if_neg (by omega)]
              exact ⟨dz, dz, this.1, by have := this.2; simp only; omega⟩
            · split at y3
              · rw [if_pos (.inl (by assumption))]
                exact ⟨(dataS_len y3).1, dz, d0, d1⟩
              · split at y3
                · rw [if_pos (.inr (by assumption))]
                  exact ⟨(dataS_len (tputC_zero y3).2.1).1, dz, d0, d1⟩
                · rw [if_neg (by omega)]
                  split at y3
                  · rw [if_pos (by assumption)]
                    split at y3
                    · rename_i hz
                      exact ⟨(dataS_len (tputC_zero hz).2.1).1, (dataS_len (tputC_zero y3).2.1).1, d0, d1⟩
                    · exact absurd y3 (by assumption)
                  · rw [if_neg (by assumption)]
                    obtain ⟨k, _, hk, h0, h1⟩ := fixC_zero y3
                    refine ⟨dz, dz, h0, ?_⟩
                    rcases hk with rfl | rfl | rfl
                    all_goals (simp at h1; simp only; omega)
          exact ⟨by omega, by omega, by omega, by omega, by omega, by omega⟩
        · apply List.ext_getElem?
          intro j
          rw [List.getElem?_map]
          cases hj : M'[j]? with
          | none => rfl
          | some p => simp [(k5 j p hj).2]
      · rw [getP_bad hg hm hr hc'] at h; injection h with _ h; injection h with _ h; exact absurd h hc'
  · rw [getP_code hg hc] at h; injection h with _ h; injection h with _ h; exact absurd h hc
/-! Cut off. -/
theorem gi_cut (s : ByteArray) : ∀ (r q f k a : Nat) (n m : Int), r ≤ f → q < r → (∀ j (h : j < q) (h2 : j < (vb n r).length), bt s (a + j) = (((vb n r)[j]).toNat : Int)) → s.size = a + q → gi s f k m a = (0, 0, 242)
  | 0, q, f, k, a, n, m, _, hq, _, _ => by omega
  | r + 1, q, f, k, a, n, m, hf, hq, hb, hs => by
    obtain ⟨f, rfl⟩ : ∃ g, f = g + 1 := ⟨f - 1, by omega⟩
    cases q with
    | zero => exact gi_end (by omega)
    | succ q =>
      obtain ⟨r, rfl⟩ : ∃ g, r = g + 1 := ⟨r - 1, by omega⟩
      have hb0 := hb 0 (by omega) (by rw [vb_length]; omega)
      simp only [vb, List.getElem_cons_zero, by8_toNat, Nat.add_zero] at hb0
      rw [gi_more (by omega) (by omega)]
      refine gi_cut s (r + 1) q f (k + 1) (a + 1) (n / 128) _ (by omega) (by omega) (fun j hj h2 => ?_) (by omega)
      have := hb (j + 1) (by omega) (by rw [vb_length] at h2 ⊢; omega)
      simp only [vb, List.getElem_cons_succ] at this
      rw [show a + 1 + j = a + (j + 1) from by omega]
      exact this
theorem has_cut {s : ByteArray} {l : List UInt8} {k c : Nat} (h : Has s k l) (hc : k + l.length ≤ c) (hs : c ≤ s.size) : Has (s.extract 0 c) k l := by
  have := has_extract (s := s) (i := 0) hs (by omega)
  refine within_has this (by rw [Nat.zero_add]; exact h) (by rw [ByteArray.size_extract]; omega)
theorem bt_cut {s : ByteArray} {c j : Nat} (hs : c ≤ s.size) (hj : j < c) : bt (s.extract 0 c) j = bt s j := by
  have h := has_extract (s := s) (i := 0) hs (by omega)
  have hl : (s.extract 0 c).data.toList.length = c := by show (s.extract 0 c).size = c; rw [ByteArray.size_extract]; omega
  have := has_bt h (j := j) (by omega)
  rw [Nat.zero_add] at this
  rw [this, ← get_bt _ j (by rw [ByteArray.size_extract]; omega)]
  rfl
theorem getP_cut {L : List Pp} (h : ppC L = 0) {c : Nat} (hc : c < (ppS L).size) : getP ((ppS L).extract 0 c) 0 = ([], 0, 242) := by
  have h64 : ¬ 64 < L.length := by
    intro c; rw [(pp_long c).1] at h; cases h
  have hcd : codK L L.length = 0 := by unfold ppC at h; rwa [if_neg h64] at h
  obtain ⟨_, hS⟩ := pp_ok h64 hcd
  have hm := put_small L L.length
  obtain ⟨m, hm'⟩ : ∃ m, (putK L L.length).size = m := ⟨_, rfl⟩
  rw [hm'] at hS hm
  have hSb : (ppS L).data.toList = enc m ++ (putK L L.length).data.toList := by rw [hS, app_bytes]
  have hSs : (ppS L).size = (enc m).length + m := by
    show (ppS L).data.toList.length = _
    rw [hSb, List.length_append]
    show _ + (putK L L.length).size = _
    rw [hm']
  have hh := has_self (ppS L)
  rw [hSb] at hh
  obtain ⟨g1, g2⟩ := has_append.1 hh
  have hsz : ((ppS L).extract 0 c).size = c := by rw [ByteArray.size_extract]; omega
  by_cases he : c < (enc (m : Int)).length
  · obtain ⟨r, hr, hev, _, _, hl⟩ := enc_vb (n := m) (by omega) (by omega)
    have : getV ((ppS L).extract 0 c) 0 = (0, 0, 242) := by
      rw [show (0 : Int) = ((0 : Nat) : Int) from rfl, getV_ok (by omega)]
      refine gi_cut _ (r + 1) c 4 0 0 m 0 hr (by omega) (fun j hj h2 => ?_) (by omega)
      rw [Nat.zero_add, bt_cut (by omega) hj]
      have h2' : j < (enc (m : Int)).length := by omega
      have := has_bt g1 h2'
      rw [Nat.zero_add] at this
      rw [this]
      have e2 : ∀ (l l' : List UInt8) (hl : j < l.length) (hll : l = l'), l[j] = l'[j]'(hll ▸ hl) := by intro l l' hl hll; subst hll; rfl
      rw [e2 _ _ h2' hev]
    exact getP_code this (by decide)
  · have hv := getV_has (by omega) (by omega) (has_cut (c := c) g1 (by omega) (by omega))
    rw [Nat.zero_add] at hv
    exact getP_none hv (by rw [hsz]; omega)
/-- One more with the last one's identifier. -/
theorem codK_pre {L : List Pp} {q : Pp} : ∀ k, k ≤ L.length → codK (L ++ [q]) k = codK L k
  | 0, _ => rfl
  | k + 1, h => by
    obtain ⟨p, hp⟩ : ∃ p, L[k]? = some p := ⟨_, List.getElem?_eq_getElem (by omega)⟩
    show (if codK (L ++ [q]) k = 0 then (match (L ++ [q])[k]? with | some p => stp (L ++ [q]) k p | none => 0) else codK (L ++ [q]) k) = (if codK L k = 0 then (match L[k]? with | some p => stp L k p | none => 0) else codK L k)
    rw [codK_pre k (by omega), List.getElem?_append_left (by omega), hp]
    have : stp (L ++ [q]) k p = stp L k p := by
      unfold stp dup
      rw [List.take_append_of_le_length (by omega)]
    simp only [this]
theorem ppC_more {L : List Pp} {q : Pp} (h : ppC L = 0) (hl : L.length < 64) (hq : L[L.length - 1]? = some q) : ppC (L ++ [q]) = if q.id = 38 then 0 else 130 := by
  have hcd : codK L L.length = 0 := by unfold ppC at h; rwa [if_neg (by omega)] at h
  have hpos : L.length - 1 < L.length := (List.getElem?_eq_some_iff.1 hq).1
  obtain ⟨h0, _, h2⟩ := stp_zero (cod_before hcd _ hpos q hq)
  unfold ppC
  rw [if_neg (by rw [List.length_append]; simp; omega), List.length_append, List.length_singleton]
  have hlast : (L ++ [q])[L.length]? = some q := by rw [List.getElem?_append_right (Nat.le_refl _)]; simp
  rw [cod_succ hlast (by rw [codK_pre _ (Nat.le_refl _)]; exact hcd)]
  have hd : dup (L ++ [q]) L.length q.id = (q.id != 38) := by
    unfold dup
    rw [List.take_left']
    · have : (L.any fun p => p.id == q.id) = true := List.any_eq_true.2 ⟨q, List.mem_of_getElem? hq, by simp⟩
      rw [this, Bool.true_and]
    · rfl
  unfold stp
  rw [if_neg h0, hd]
  by_cases c : q.id = 38
  · rw [if_pos c, c, if_neg (by decide), h2]
  · rw [if_neg c, if_pos (by rw [bne, beq_eq_false_iff_ne.2 c]; rfl)]
end Go.Proofs.YtifbkfkieppacaaDoor
