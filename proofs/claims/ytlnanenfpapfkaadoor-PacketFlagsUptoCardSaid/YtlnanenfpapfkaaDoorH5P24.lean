/- Parts of the proof, joined: PropBackP, Gp1, Gp2, Gp3, Gp4, Gp5. -/
import Derived.Test.YtlnanenfpapfkaaDoorH5P23
import Derived.Test.YtlnanenfpapfkaaDoorH5P14
/- Plain: properties are read back from their bytes; bytes that are read are just theirs. -/
namespace Go.Proofs.YtlnanenfpapfkaaDoor
set_option linter.unusedVariables false
open Go.RowKit Pl
open Go.PlainAid (bt bt_nonneg bt_le get_bt bt_end)

/-- A property without what its kind does not ask for. -/
def nrm (p : Pp) : Pp :=
  if kindOf p.id = 5 ∨ kindOf p.id = 6 then ⟨p.id, 0, p.s, noS⟩ else if kindOf p.id = 7 then ⟨p.id, 0, p.s, p.t⟩ else ⟨p.id, p.n, noS, noS⟩
theorem nrm_id (p : Pp) : (nrm p).id = p.id := by
  unfold nrm
  split
  · rfl
  · split <;> rfl
theorem kind_id {n : Int} (h : kindOf n ≠ 0) : 1 ≤ n ∧ n ≤ 42 := by
  by_cases c : (n = 1 ∨ n = 23 ∨ n = 25 ∨ n = 36 ∨ n = 37 ∨ n = 40 ∨ n = 41 ∨ n = 42 ∨ n = 19 ∨ n = 33 ∨ n = 34 ∨ n = 35 ∨ n = 2 ∨ n = 17 ∨ n = 24 ∨ n = 39 ∨ n = 11 ∨ n = 9 ∨ n = 22 ∨ n = 3 ∨ n = 8 ∨ n = 18 ∨ n = 21 ∨ n = 26 ∨ n = 28 ∨ n = 31 ∨ n = 38)
  · omega
  · exact absurd (kind0 c) h
theorem putC_zero {n : Int} (h : putC n = 0) : 0 ≤ n ∧ n ≤ 268435455 := by
  unfold putC at h
  split at h
  · cases h
  · omega
theorem mk_bytes (l : List UInt8) : (⟨l.toArray⟩ : ByteArray).data.toList = l := rfl
theorem mk_size (l : List UInt8) : (⟨l.toArray⟩ : ByteArray).size = l.length := rfl
theorem app_bytes (a b : ByteArray) : (a ++ b).data.toList = a.data.toList ++ b.data.toList := by rw [ByteArray.data_append, Array.toList_append]
/-- A value is read back from its bytes. -/
theorem rdv_has {s : ByteArray} {i : Nat} {p : Pp} (hc : pvC p = 0) (h : Has s i (pvS p).data.toList) : rdv s p.id i = some (nrm p, ((i + (pvS p).size : Nat) : Int)) := by
  unfold pvC at hc
  unfold pvS at h ⊢
  unfold rdv nrm
  by_cases h4 : kindOf p.id = 4
  · rw [if_pos h4] at hc h
    obtain ⟨g0, g1⟩ := putC_zero hc
    rw [mk_bytes] at h
    rw [if_pos h4, if_pos h4, getV_has g0 g1 h, if_pos rfl, if_neg (by omega), if_neg (by omega), mk_size]
  · rw [if_neg h4] at hc h
    rw [if_neg h4, if_neg h4]
    by_cases h5 : kindOf p.id = 5
    · rw [if_pos h5] at hc h
      rw [if_pos h5, if_pos h5, getD_has hc h, if_pos rfl, if_pos (.inl h5)]
    · rw [if_neg h5] at hc h
      rw [if_neg h5, if_neg h5]
      by_cases h6 : kindOf p.id = 6
      · rw [if_pos h6] at hc h
        rw [if_pos h6, if_pos h6, tget_has hc h, if_pos rfl, if_pos (.inr h6)]
      · rw [if_neg h6] at hc h
        rw [if_neg h6, if_neg h6]
        rw [if_neg (show ¬ (kindOf p.id = 5 ∨ kindOf p.id = 6) from by omega)]
        by_cases h7 : kindOf p.id = 7
        · rw [if_pos h7] at hc h
          rw [if_pos h7, if_pos h7, if_pos h7]
          have hcs : tputC p.s = 0 := by
            split at hc
            · assumption
            · exact absurd hc (by assumption)
          rw [if_pos hcs] at hc
          rw [app_bytes] at h
          obtain ⟨k1, k2⟩ := has_append.1 h
          have e1 := tget_has hcs k1
          have e2 := tget_has (i := i + (tputS p.s).size) hc k2
          rw [e1]
          simp only
          rw [e2]
          simp only [if_true]
          rw [ByteArray.size_append, Nat.add_assoc]
        · rw [if_neg h7] at hc h
          rw [if_neg h7, if_neg h7, if_neg h7, getF_has hc h, if_pos rfl, mk_size]
/-- A value that is read stands there in its bytes. -/
theorem has_rdv {s : ByteArray} {i : Nat} {id tu : Int} {p : Pp} (h : rdv s id i = some (p, tu)) : pvC p = 0 ∧ Has s i (pvS p).data.toList ∧ tu = ((i + (pvS p).size : Nat) : Int) ∧ p.id = id ∧ nrm p = p := by
  unfold rdv at h
  by_cases h4 : kindOf id = 4
  · rw [if_pos h4] at h
    obtain ⟨⟨n, f, c⟩, hg⟩ : ∃ g, getV s i = g := ⟨_, rfl⟩
    rw [hg] at h
    split at h
    · rename_i hc
      obtain rfl : c = 0 := hc
      injection h with h; injection h with h1 h2
      subst h1 h2
      obtain ⟨q1, q2, q3, q4⟩ := has_getV hg
      have e1 : pvC ⟨id, n, noS, noS⟩ = 0 := by unfold pvC; rw [if_pos h4]; show putC n = 0; unfold putC; rw [if_neg (by omega)]
      have e2 : pvS ⟨id, n, noS, noS⟩ = ⟨(enc n).toArray⟩ := by unfold pvS; rw [if_pos h4]
      refine ⟨e1, by rw [e2]; exact q1, by rw [e2]; exact q2, rfl, ?_⟩
      unfold nrm
      rw [if_neg (by simp only; omega), if_neg (by simp only; omega)]
    · cases h
  · rw [if_neg h4] at h
    by_cases h5 : kindOf id = 5
    · rw [if_pos h5] at h
      obtain ⟨⟨n, f, c⟩, hg⟩ : ∃ g, getD s i = g := ⟨_, rfl⟩
      rw [hg] at h
      split at h
      · rename_i hc
        obtain rfl : c = 0 := hc
        injection h with h; injection h with h1 h2
        subst h1 h2
        obtain ⟨q1, q2, q3⟩ := has_getD hg
        have e1 : pvC ⟨id, 0, n, noS⟩ = 0 := by unfold pvC; rw [if_neg h4, if_pos h5]; exact q1
        have e2 : pvS ⟨id, 0, n, noS⟩ = dataS n := by unfold pvS; rw [if_neg h4, if_pos h5]
        refine ⟨e1, by rw [e2]; exact q2, by rw [e2]; exact q3, rfl, ?_⟩
        unfold nrm
        rw [if_pos (.inl h5)]
      · cases h
    · rw [if_neg h5] at h
      by_cases h6 : kindOf id = 6
      · rw [if_pos h6] at h
        obtain ⟨⟨n, f, c⟩, hg⟩ : ∃ g, tget s i = g := ⟨_, rfl⟩
        rw [hg] at h
        split at h
        · rename_i hc
          obtain rfl : c = 0 := hc
          injection h with h; injection h with h1 h2
          subst h1 h2
          obtain ⟨q1, q2, q3⟩ := has_tget hg
          have e1 : pvC ⟨id, 0, n, noS⟩ = 0 := by unfold pvC; rw [if_neg h4, if_neg h5, if_pos h6]; exact q1
          have e2 : pvS ⟨id, 0, n, noS⟩ = tputS n := by unfold pvS; rw [if_neg h4, if_neg h5, if_pos h6]
          refine ⟨e1, by rw [e2]; exact q2, by rw [e2]; exact q3, rfl, ?_⟩
          unfold nrm
          rw [if_pos (.inr h6)]
        · cases h
      · rw [if_neg h6] at h
        by_cases h7 : kindOf id = 7
        · rw [if_pos h7] at h
          obtain ⟨⟨n, f, c⟩, hg⟩ : ∃ g, tget s i = g := ⟨_, rfl⟩
          rw [hg] at h
          split at h
          · rename_i hc
            obtain rfl : c = 0 := hc
            obtain ⟨q1, q2, q3⟩ := has_tget hg
            subst q3
            obtain ⟨⟨n2, f2, c2⟩, hg2⟩ : ∃ g, tget s ((i + (tputS n).size : Nat) : Int) = g := ⟨_, rfl⟩
            simp only at h
            rw [hg2] at h
            split at h
            · rename_i hc2
              obtain rfl : c2 = 0 := hc2
              injection h with h; injection h with h1 h2
              subst h1 h2
              obtain ⟨r1, r2, r3⟩ := has_tget hg2
              have e1 : pvC ⟨id, 0, n, n2⟩ = 0 := by unfold pvC; rw [if_neg h4, if_neg h5, if_neg h6, if_pos h7, if_pos q1]; exact r1
              have e2 : pvS ⟨id, 0, n, n2⟩ = tputS n ++ tputS n2 := by unfold pvS; rw [if_neg h4, if_neg h5, if_neg h6, if_pos h7]
              refine ⟨e1, by rw [e2, app_bytes]; exact has_append.2 ⟨q2, r2⟩, by rw [e2, ByteArray.size_append, ← Nat.add_assoc]; exact r3, rfl, ?_⟩
              unfold nrm
              rw [if_neg (by simp only; omega), if_pos h7]
            · cases h
          · cases h
        · rw [if_neg h7] at h
          obtain ⟨⟨n, f, c⟩, hg⟩ : ∃ g, getF s i (wid (kindOf id)) = g := ⟨_, rfl⟩
          rw [hg] at h
          split at h
          · rename_i hc
            obtain rfl : c = 0 := hc
            injection h with h; injection h with h1 h2
            subst h1 h2
            obtain ⟨q1, q2, q3⟩ := has_getF hg
            have e1 : pvC ⟨id, n, noS, noS⟩ = 0 := by unfold pvC; rw [if_neg h4, if_neg h5, if_neg h6, if_neg h7]; exact q1
            have e2 : pvS ⟨id, n, noS, noS⟩ = ⟨(fixS (wid (kindOf id)) n).toArray⟩ := by unfold pvS; rw [if_neg h4, if_neg h5, if_neg h6, if_neg h7]
            refine ⟨e1, by rw [e2]; exact q2, by rw [e2]; exact q3, rfl, ?_⟩
            unfold nrm
            rw [if_neg (by simp only; omega), if_neg (by simp only; omega)]
          · cases h
/-- The bytes of properties, one behind the other. -/
def cat (T : List Pp) : List UInt8 := T.flatMap fun p => (one p).data.toList
theorem cat_cons (p : Pp) (T : List Pp) : cat (p :: T) = (one p).data.toList ++ cat T := rfl
theorem cat_append (A T : List Pp) : cat (A ++ T) = cat A ++ cat T := List.flatMap_append
theorem one_bytes (p : Pp) : (one p).data.toList = enc p.id ++ (pvS p).data.toList := by unfold one; rw [app_bytes]
theorem put_cat (L : List Pp) : ∀ k, k ≤ L.length → (putK L k).data.toList = cat (L.take k)
  | 0, _ => rfl
  | k + 1, h => by
    obtain ⟨p, hp⟩ : ∃ p, L[k]? = some p := ⟨_, List.getElem?_eq_getElem (by omega)⟩
    rw [put_succ hp, app_bytes, put_cat L k (by omega), List.take_add_one, hp, cat_append]
    congr 1
    simp [cat]
theorem cod_all {L : List Pp} (h : ∀ j p, L[j]? = some p → stp L j p = 0) : ∀ k, codK L k = 0
  | 0 => rfl
  | k + 1 => by
    have ih := cod_all h k
    show (if codK L k = 0 then (match L[k]? with | some p => stp L k p | none => 0) else codK L k) = 0
    rw [if_pos ih]
    split
    · rename_i p hp; exact h k p hp
    · rfl
theorem cod_before {L : List Pp} : ∀ {k : Nat}, codK L k = 0 → ∀ j, j < k → ∀ p, L[j]? = some p → stp L j p = 0
  | k + 1, h, j, hj, p, hp => by
    have h' : (if codK L k = 0 then (match L[k]? with | some p => stp L k p | none => 0) else codK L k) = 0 := h
    by_cases c : codK L k = 0
    · by_cases e : j = k
      · subst e
        rw [if_pos c, hp] at h'
        exact h'
      · exact cod_before c j (by omega) p hp
    · rw [if_neg c] at h'
      exact absurd h' c
theorem stp_zero {L : List Pp} {k : Nat} {p : Pp} (h : stp L k p = 0) : kindOf p.id ≠ 0 ∧ dup L k p.id = false ∧ pvC p = 0 := by
  unfold stp at h
  split at h
  · cases h
  · rename_i h0
    split at h
    · cases h
    · rename_i h1
      exact ⟨h0, by simpa using h1, h⟩
theorem stp_mk {L : List Pp} {k : Nat} {p : Pp} (h0 : kindOf p.id ≠ 0) (h1 : dup L k p.id = false) (h2 : pvC p = 0) : stp L k p = 0 := by
  unfold stp; rw [if_neg h0, h1, if_neg (by decide), h2]
theorem dup_nrm (A T : List Pp) (id : Int) : dupL (A.map nrm) id = dup (A ++ T) A.length id := by
  unfold dupL dup
  rw [List.take_left', List.any_map]
  · congr 1
    congr 1
    funext p
    simp [nrm_id]
  · rfl
/-- Properties are read back. -/
theorem pgs_fwd {s : ByteArray} : ∀ (T A : List Pp) (a f : Nat), (∀ j p, T[j]? = some p → stp (A ++ T) (A.length + j) p = 0) → s.size = a + (cat T).length → Has s a (cat T) → A.length + T.length ≤ 64 → T.length + 1 ≤ f →
    pgs s f (A.map nrm) a = ((A ++ T).map nrm, 0)
  | [], A, a, f, _, hs, _, _, _ => by
    rw [pgs_end (by simp [cat] at hs; omega), List.append_nil]
  | p :: T, A, a, f, h, hs, hh, hl, hf => by
    simp only [List.length_cons] at hl hf
    obtain ⟨f, rfl⟩ : ∃ g, f = g + 1 := ⟨f - 1, by omega⟩
    obtain ⟨h0, h1, h2⟩ := stp_zero (h 0 p rfl)
    have hid := kind_id h0
    rw [cat_cons, one_bytes, List.append_assoc] at hh
    rw [cat_cons, one_bytes] at hs
    simp only [List.length_append] at hs
    obtain ⟨g1, g2⟩ := has_append.1 hh
    obtain ⟨g3, g4⟩ := has_append.1 g2
    have hp := (enc_vb (n := p.id) (by omega) (by omega))
    obtain ⟨r, _, _, _, _, hr⟩ := hp
    have hv := getV_has (by omega) (by omega) g1
    have hpl : (pvS p).data.toList.length = (pvS p).size := rfl
    rw [pgs_rd (by omega) (by rw [List.length_map]; omega) hv h0 (by rw [dup_nrm A (p :: T)]; exact h1), rdv_has h2 g3]
    simp only
    have ih := pgs_fwd T (A ++ [p]) (a + (enc p.id).length + (pvS p).size) f (fun j q hq => by
      have := h (j + 1) q hq
      rw [List.append_assoc, List.length_append]
      simpa [Nat.add_assoc, Nat.add_comm 1 j] using this) (by omega) g4 (by rw [List.length_append]; simp; omega) (by omega)
    rw [List.map_append, List.append_assoc] at ih
    exact ih
/-- Bytes that are read are just the properties'. -/
theorem pgs_bwd {s : ByteArray} : ∀ (f : Nat) (L M : List Pp) (a : Nat), pgs s f L a = (M, 0) → a ≤ s.size → L.length ≤ 64 → 66 ≤ f + L.length →
    ∃ T, M = L ++ T ∧ Has s a (cat T) ∧ s.size = a + (cat T).length ∧ M.length ≤ 64 ∧ ∀ j p, T[j]? = some p → stp M (L.length + j) p = 0 ∧ nrm p = p
  | 0, L, M, a, _, _, hL, hf => by omega
  | f + 1, L, M, a, h, ha, hL, hf => by
    by_cases c1 : (s.size : Int) ≤ a
    · rw [pgs_end c1] at h
      injection h with h1 _
      subst h1
      exact ⟨[], by simp, has_nil ha, by simp [cat]; omega, hL, fun j p hp => by simp at hp⟩
    · by_cases c2 : 64 ≤ L.length
      · rw [pgs_full c1 c2] at h; injection h with _ h; cases h
      · obtain ⟨⟨id, nx, d⟩, hg⟩ : ∃ g, getV s a = g := ⟨_, rfl⟩
        by_cases c3 : d ≠ 0 ∨ kindOf id = 0
        · rw [pgs_bad c1 c2 hg c3] at h; injection h with _ h; cases h
        · simp only [not_or, ne_eq, Decidable.not_not] at c3
          obtain ⟨rfl, c4⟩ := c3
          cases c5 : dupL L id
          · rw [pgs_rd c1 c2 hg c4 c5] at h
            obtain ⟨q1, q2, q3, q4⟩ := has_getV hg
            subst q2
            cases hr : rdv s id ((a + (enc id).length : Nat) : Int) with
            | none => rw [hr] at h; injection h with _ h; cases h
            | some pt =>
              obtain ⟨p, tu⟩ := pt
              rw [hr] at h
              obtain ⟨r1, r2, r3, r4, r5⟩ := has_rdv hr
              subst r3
              simp only at h
              have hle := r2.1
              have hpl : (pvS p).data.toList.length = (pvS p).size := rfl
              obtain ⟨T, rfl, k2, k3, k4, k5⟩ := pgs_bwd f (L ++ [p]) M _ h (by omega) (by rw [List.length_append]; simp; omega) (by rw [List.length_append]; simp; omega)
              subst r4
              refine ⟨p :: T, by simp, ?_, ?_, k4, fun j q hq => ?_⟩
              · rw [cat_cons, one_bytes, List.append_assoc]
                exact has_append.2 ⟨q1, has_append.2 ⟨r2, k2⟩⟩
              · rw [cat_cons, one_bytes, k3]
                simp only [List.length_append]
                omega
              · cases j with
                | zero =>
                  obtain rfl : p = q := by simpa using hq
                  refine ⟨stp_mk c4 ?_ r1, r5⟩
                  unfold dupL at c5
                  unfold dup
                  rw [List.append_assoc, Nat.add_zero, List.take_left']
                  · exact c5
                  · rfl
                | succ j =>
                  have := k5 j q (by simpa using hq)
                  rw [List.length_append] at this
                  simpa [Nat.add_assoc, Nat.add_comm 1 j] using this
          · rw [pgs_dup c1 c2 hg c4 c5] at h; injection h with _ h; cases h
/-- .. with their length ahead. -/
theorem getP_back {L : List Pp} (h : ppC L = 0) : getP (ppS L) 0 = (L.map nrm, ((ppS L).size : Int), 0) := by
  have h64 : ¬ 64 < L.length := by
    intro c; rw [(pp_long c).1] at h; cases h
  have hc : codK L L.length = 0 := by unfold ppC at h; rwa [if_neg h64] at h
  obtain ⟨_, hS⟩ := pp_ok h64 hc
  have hb := put_cat L L.length (Nat.le_refl _)
  rw [List.take_length] at hb
  have hm := put_small L L.length
  obtain ⟨m, hm'⟩ : ∃ m, (putK L L.length).size = m := ⟨_, rfl⟩
  have hcl : (cat L).length = m := by rw [← hb]; exact hm'
  rw [hm'] at hS hm
  have hSb : (ppS L).data.toList = enc m ++ cat L := by rw [hS, app_bytes, hb]
  have hSs : (ppS L).size = (enc m).length + m := by
    show (ppS L).data.toList.length = _
    rw [hSb, List.length_append, hcl]
  have hh := has_self (ppS L)
  rw [hSb] at hh
  obtain ⟨g1, g2⟩ := has_append.1 hh
  rw [Nat.zero_add] at g2
  have hv := getV_has (by omega) (by omega) g1
  rw [Nat.zero_add] at hv
  have hw : Has (ppS L) (enc m).length (⟨(cat L).toArray⟩ : ByteArray).data.toList := g2
  have hx := extract_has hw
  rw [mk_size, hcl] at hx
  have hf := pgs_fwd (s := ⟨(cat L).toArray⟩) L [] 0 66 (fun j p hp => by
    have := cod_before hc j (List.getElem?_eq_some_iff.1 hp).1 p hp
    simpa using this) (by rw [mk_size]; omega) (has_self ⟨(cat L).toArray⟩) (by simp; omega) (by omega)
  have := getP_ok (s := ppS L) (at_ := 0) (m := m) (f := (enc m).length) (L := L.map nrm) hv (by omega) (by rw [hx]; exact hf)
  rw [this, hSs]
  rfl
set_option maxHeartbeats 4000000 in
theorem back_getP {s : ByteArray} {M : List Pp} {nx : Int} (h : getP s 0 = (M, nx, 0)) : ppC M = 0 ∧ (∃ k : Nat, nx = k ∧ k ≤ s.size ∧ s.extract 0 k = ppS M) ∧ (∀ p ∈ M, p.fits) ∧ M.map nrm = M := by
  obtain ⟨⟨n, from_, c⟩, hg⟩ : ∃ g, getV s 0 = g := ⟨_, rfl⟩
  by_cases hc : c = 0
  · subst hc
    obtain ⟨q1, q2, q3, q4⟩ := has_getV (i := 0) hg
    subst q2
    rw [Nat.zero_add] at hg
    obtain ⟨m, rfl⟩ := Int.eq_ofNat_of_zero_le q3
    by_cases hlt : (s.size : Int) - ((enc (m : Int)).length : Nat) < m
    · rw [getP_none hg hlt] at h; injection h with _ h; injection h with _ h; cases h
    · have hm : (enc (m : Int)).length + m ≤ s.size := by omega
      obtain ⟨⟨M', c'⟩, hr⟩ : ∃ r, pgs (s.extract (enc (m : Int)).length ((enc (m : Int)).length + m)) 66 [] 0 = r := ⟨_, rfl⟩
      by_cases hc' : c' = 0
      · subst hc'
        rw [getP_ok hg hm hr] at h
        injection h with h1 h
        injection h with h2 _
        subst h1 h2
        have hsub : (s.extract (enc (m : Int)).length ((enc (m : Int)).length + m)).size = m := by rw [ByteArray.size_extract]; omega
        obtain ⟨T, hT, k2, k3, k4, k5⟩ := pgs_bwd 66 [] M' 0 hr (by omega) (by decide) (by decide)
        rw [List.nil_append] at hT
        subst hT
        have hcod := cod_all (L := M') (fun j p hp => by have := (k5 j p hp).1; simpa using this) M'.length
        obtain ⟨e1, e2⟩ := pp_ok (by omega) hcod
        have hb := put_cat M' M'.length (Nat.le_refl _)
        rw [List.take_length] at hb
        have hml : (cat M').length = m := by omega
        have hpm : (putK M' M'.length).size = m := by
          show (putK M' M'.length).data.toList.length = m
          rw [hb, hml]
        rw [hpm] at e2
        refine ⟨e1, ⟨(enc (m : Int)).length + m, by simp, hm, ?_⟩, ?_, ?_⟩
        · have hall : Has s 0 (ppS M').data.toList := by
            rw [e2, app_bytes, hb]
            refine has_append.2 ⟨q1, ?_⟩
            rw [Nat.zero_add]
            have := has_within (has_extract (s := s) (i := (enc (m : Int)).length) (j := (enc (m : Int)).length + m) hm (by omega)) k2
            rw [Nat.add_zero] at this
            exact this
          have := extract_has hall
          rw [Nat.zero_add] at this
          rw [← this]
          congr 1
          rw [e2, ByteArray.size_append, hpm]
          rfl
        · intro p hp
          obtain ⟨j, hj⟩ := List.mem_iff_getElem?.1 hp
          obtain ⟨z1, z2⟩ := k5 j p hj
          obtain ⟨y1, y2, y3⟩ := stp_zero z1
          have hid := kind_id y1
          have dz : noS.size ≤ 65535 := by decide
          have d0 : (0 : Int) ≤ 0 := Int.le_refl 0
          have d1 : (0 : Int) ≤ 4294967295 := by decide
          have hfit : p.s.size ≤ 65535 ∧ p.t.size ≤ 65535 ∧ 0 ≤ p.n ∧ p.n ≤ 4294967295 := by
            rw [← z2]
            unfold nrm
            unfold pvC at y3
            split at y3
            · have := putC_zero y3
              rw [if_neg (by omega), if_neg (by omega)]
              exact ⟨dz, dz, this.1, by have := this.2; simp only; omega⟩
            · split at y3
              · rw [if_pos (.inl (by assumption))]
                exact ⟨(dataS_len y3).1, dz, d0, d1⟩
              · split at y3
                · rw [if_pos (.inr (by assumption))]
                  exact ⟨(dataS_len (tputC_zero y3).2.1).1, dz, d0, d1⟩
                · rw [if_neg (by omega)]
                  split at y3
                  · rw [if_pos (by assumption)]
                    split at y3
                    · rename_i hz
                      exact ⟨(dataS_len (tputC_zero hz).2.1).1, (dataS_len (tputC_zero y3).2.1).1, d0, d1⟩
                    · exact absurd y3 (by assumption)
                  · rw [if_neg (by assumption)]
                    obtain ⟨k, _, hk, h0, h1⟩ := fixC_zero y3
                    refine ⟨dz, dz, h0, ?_⟩
                    rcases hk with rfl | rfl | rfl
                    all_goals (simp at h1; simp only; omega)
          exact ⟨by omega, by omega, by omega, by omega, by omega, by omega⟩
        · apply List.ext_getElem?
          intro j
          rw [List.getElem?_map]
          cases hj : M'[j]? with
          | none => rfl
          | some p => simp [(k5 j p hj).2]
      · rw [getP_bad hg hm hr hc'] at h; injection h with _ h; injection h with _ h; exact absurd h hc'
  · rw [getP_code hg hc] at h; injection h with _ h; injection h with _ h; exact absurd h hc
/-! Cut off. -/
theorem gi_cut (s : ByteArray) : ∀ (r q f k a : Nat) (n m : Int), r ≤ f → q < r → (∀ j (h : j < q) (h2 : j < (vb n r).length), bt s (a + j) = (((vb n r)[j]).toNat : Int)) → s.size = a + q → gi s f k m a = (0, 0, 242)
  | 0, q, f, k, a, n, m, _, hq, _, _ => by omega
  | r + 1, q, f, k, a, n, m, hf, hq, hb, hs => by
    obtain ⟨f, rfl⟩ : ∃ g, f = g + 1 := ⟨f - 1, by omega⟩
    cases q with
    | zero => exact gi_end (by omega)
    | succ q =>
      obtain ⟨r, rfl⟩ : ∃ g, r = g + 1 := ⟨r - 1, by omega⟩
      have hb0 := hb 0 (by omega) (by rw [vb_length]; omega)
      simp only [vb, List.getElem_cons_zero, by8_toNat, Nat.add_zero] at hb0
      rw [gi_more (by omega) (by omega)]
      refine gi_cut s (r + 1) q f (k + 1) (a + 1) (n / 128) _ (by omega) (by omega) (fun j hj h2 => ?_) (by omega)
      have := hb (j + 1) (by omega) (by rw [vb_length] at h2 ⊢; omega)
      simp only [vb, List.getElem_cons_succ] at this
      rw [show a + 1 + j = a + (j + 1) from by omega]
      exact this
theorem has_cut {s : ByteArray} {l : List UInt8} {k c : Nat} (h : Has s k l) (hc : k + l.length ≤ c) (hs : c ≤ s.size) : Has (s.extract 0 c) k l := by
  have := has_extract (s := s) (i := 0) hs (by omega)
  refine within_has this (by rw [Nat.zero_add]; exact h) (by rw [ByteArray.size_extract]; omega)
theorem bt_cut {s : ByteArray} {c j : Nat} (hs : c ≤ s.size) (hj : j < c) : bt (s.extract 0 c) j = bt s j := by
  have h := has_extract (s := s) (i := 0) hs (by omega)
  have hl : (s.extract 0 c).data.toList.length = c := by show (s.extract 0 c).size = c; rw [ByteArray.size_extract]; omega
  have := has_bt h (j := j) (by omega)
  rw [Nat.zero_add] at this
  rw [this, ← get_bt _ j (by rw [ByteArray.size_extract]; omega)]
  rfl
theorem getP_cut {L : List Pp} (h : ppC L = 0) {c : Nat} (hc : c < (ppS L).size) : getP ((ppS L).extract 0 c) 0 = ([], 0, 242) := by
  have h64 : ¬ 64 < L.length := by
    intro c; rw [(pp_long c).1] at h; cases h
  have hcd : codK L L.length = 0 := by unfold ppC at h; rwa [if_neg h64] at h
  obtain ⟨_, hS⟩ := pp_ok h64 hcd
  have hm := put_small L L.length
  obtain ⟨m, hm'⟩ : ∃ m, (putK L L.length).size = m := ⟨_, rfl⟩
  rw [hm'] at hS hm
  have hSb : (ppS L).data.toList = enc m ++ (putK L L.length).data.toList := by rw [hS, app_bytes]
  have hSs : (ppS L).size = (enc m).length + m := by
    show (ppS L).data.toList.length = _
    rw [hSb, List.length_append]
    show _ + (putK L L.length).size = _
    rw [hm']
  have hh := has_self (ppS L)
  rw [hSb] at hh
  obtain ⟨g1, g2⟩ := has_append.1 hh
  have hsz : ((ppS L).extract 0 c).size = c := by rw [ByteArray.size_extract]; omega
  by_cases he : c < (enc (m : Int)).length
  · obtain ⟨r, hr, hev, _, _, hl⟩ := enc_vb (n := m) (by omega) (by omega)
    have : getV ((ppS L).extract 0 c) 0 = (0, 0, 242) := by
      rw [show (0 : Int) = ((0 : Nat) : Int) from rfl, getV_ok (by omega)]
      refine gi_cut _ (r + 1) c 4 0 0 m 0 hr (by omega) (fun j hj h2 => ?_) (by omega)
      rw [Nat.zero_add, bt_cut (by omega) hj]
      have h2' : j < (enc (m : Int)).length := by omega
      have := has_bt g1 h2'
      rw [Nat.zero_add] at this
      rw [this]
      have e2 : ∀ (l l' : List UInt8) (hl : j < l.length) (hll : l = l'), l[j] = l'[j]'(hll ▸ hl) := by intro l l' hl hll; subst hll; rfl
      rw [e2 _ _ h2' hev]
    exact getP_code this (by decide)
  · have hv := getV_has (by omega) (by omega) (has_cut (c := c) g1 (by omega) (by omega))
    rw [Nat.zero_add] at hv
    exact getP_none hv (by rw [hsz]; omega)
/-- One more with the last one's identifier. -/
theorem codK_pre {L : List Pp} {q : Pp} : ∀ k, k ≤ L.length → codK (L ++ [q]) k = codK L k
  | 0, _ => rfl
  | k + 1, h => by
    obtain ⟨p, hp⟩ : ∃ p, L[k]? = some p := ⟨_, List.getElem?_eq_getElem (by omega)⟩
    show (if codK (L ++ [q]) k = 0 then (match (L ++ [q])[k]? with | some p => stp (L ++ [q]) k p | none => 0) else codK (L ++ [q]) k) = (if codK L k = 0 then (match L[k]? with | some p => stp L k p | none => 0) else codK L k)
    rw [codK_pre k (by omega), List.getElem?_append_left (by omega), hp]
    have : stp (L ++ [q]) k p = stp L k p := by
      unfold stp dup
      rw [List.take_append_of_le_length (by omega)]
    simp only [this]
theorem ppC_more {L : List Pp} {q : Pp} (h : ppC L = 0) (hl : L.length < 64) (hq : L[L.length - 1]? = some q) : ppC (L ++ [q]) = if q.id = 38 then 0 else 130 := by
  have hcd : codK L L.length = 0 := by unfold ppC at h; rwa [if_neg (by omega)] at h
  have hpos : L.length - 1 < L.length := (List.getElem?_eq_some_iff.1 hq).1
  obtain ⟨h0, _, h2⟩ := stp_zero (cod_before hcd _ hpos q hq)
  unfold ppC
  rw [if_neg (by rw [List.length_append]; simp; omega), List.length_append, List.length_singleton]
  have hlast : (L ++ [q])[L.length]? = some q := by rw [List.getElem?_append_right (Nat.le_refl _)]; simp
  rw [cod_succ hlast (by rw [codK_pre _ (Nat.le_refl _)]; exact hcd)]
  have hd : dup (L ++ [q]) L.length q.id = (q.id != 38) := by
    unfold dup
    rw [List.take_left']
    · have : (L.any fun p => p.id == q.id) = true := List.any_eq_true.2 ⟨q, List.mem_of_getElem? hq, by simp⟩
      rw [this, Bool.true_and]
    · rfl
  unfold stp
  rw [if_neg h0, hd]
  by_cases c : q.id = 38
  · rw [if_pos c, c, if_neg (by decide), h2]
  · rw [if_neg c, if_pos (by rw [bne, beq_eq_false_iff_ne.2 c]; rfl)]
end Go.Proofs.YtlnanenfpapfkaaDoor

/- Properties at a place, both ways; what is read at a place: plain. -/
namespace Go.Proofs.YtlnanenfpapfkaaDoor
set_option linter.unusedVariables false
open Go.RowKit Pl Go.PlainAid

theorem getP_has {s : ByteArray} {L : List Pp} {i : Nat} (h : ppC L = 0) (hh : Has s i (ppS L).data.toList) : getP s i = (L.map nrm, ((i + (ppS L).size : Nat) : Int), 0) := by
  have h64 : ¬ 64 < L.length := by
    intro c; rw [(pp_long c).1] at h; cases h
  have hc : codK L L.length = 0 := by unfold ppC at h; rwa [if_neg h64] at h
  obtain ⟨_, hS⟩ := pp_ok h64 hc
  have hb := put_cat L L.length (Nat.le_refl _)
  rw [List.take_length] at hb
  have hm := put_small L L.length
  obtain ⟨m, hm'⟩ : ∃ m, (putK L L.length).size = m := ⟨_, rfl⟩
  have hcl : (cat L).length = m := by rw [← hb]; exact hm'
  rw [hm'] at hS hm
  have hSb : (ppS L).data.toList = enc m ++ cat L := by rw [hS, app_bytes, hb]
  have hSs : (ppS L).size = (enc m).length + m := by
    show (ppS L).data.toList.length = _
    rw [hSb, List.length_append, hcl]
  rw [hSb] at hh
  obtain ⟨g1, g2⟩ := has_append.1 hh
  have hv := getV_has (by omega) (by omega) g1
  have hw : Has s (i + (enc m).length) (⟨(cat L).toArray⟩ : ByteArray).data.toList := g2
  have hx := extract_has hw
  rw [mk_size, hcl] at hx
  have hsz := g2.1
  rw [hcl] at hsz
  have hf := pgs_fwd (s := ⟨(cat L).toArray⟩) L [] 0 66 (fun j p hp => by
    have := cod_before hc j (List.getElem?_eq_some_iff.1 hp).1 p hp
    simpa using this) (by rw [mk_size]; omega) (has_self ⟨(cat L).toArray⟩) (by simp; omega) (by omega)
  have := getP_ok (s := s) (at_ := i) (m := m) (f := i + (enc m).length) (L := L.map nrm) hv (by omega) (by rw [hx]; exact hf)
  rw [this, hSs]
  congr 2
  omega
theorem has_getP {s : ByteArray} {M : List Pp} {nx a : Int} (h : getP s a = (M, nx, 0)) : ∃ i : Nat, a = i ∧ ppC M = 0 ∧ Has s i (ppS M).data.toList ∧ nx = ((i + (ppS M).size : Nat) : Int) ∧ M.map nrm = M := by
  obtain ⟨⟨n, from_, c⟩, hg⟩ : ∃ g, getV s a = g := ⟨_, rfl⟩
  by_cases hc : c = 0
  · subst hc
    obtain ⟨i, j, rfl, rfl, _, _, _, _, _⟩ := getV_to hg
    obtain ⟨q1, q2, q3, q4⟩ := has_getV hg
    obtain ⟨m, rfl⟩ := Int.eq_ofNat_of_zero_le q3
    have hj : j = i + (enc (m : Int)).length := by omega
    subst hj
    by_cases hlt : (s.size : Int) - ((i + (enc (m : Int)).length : Nat) : Int) < m
    · rw [getP_none hg hlt] at h; injection h with _ h; injection h with _ h; cases h
    · have hm : (i + (enc (m : Int)).length) + m ≤ s.size := by omega
      obtain ⟨⟨M', c'⟩, hr⟩ : ∃ r, pgs (s.extract (i + (enc (m : Int)).length) ((i + (enc (m : Int)).length) + m)) 66 [] 0 = r := ⟨_, rfl⟩
      by_cases hc' : c' = 0
      · subst hc'
        rw [getP_ok hg hm hr] at h
        injection h with h1 h
        injection h with h2 _
        subst h1 h2
        have hsub : (s.extract (i + (enc (m : Int)).length) ((i + (enc (m : Int)).length) + m)).size = m := by rw [ByteArray.size_extract]; omega
        obtain ⟨T, hT, k2, k3, k4, k5⟩ := pgs_bwd 66 [] M' 0 hr (by omega) (by decide) (by decide)
        rw [List.nil_append] at hT
        subst hT
        have hcod := cod_all (L := M') (fun j p hp => by have := (k5 j p hp).1; simpa using this) M'.length
        obtain ⟨e1, e2⟩ := pp_ok (by omega) hcod
        have hb := put_cat M' M'.length (Nat.le_refl _)
        rw [List.take_length] at hb
        have hml : (cat M').length = m := by omega
        have hpm : (putK M' M'.length).size = m := by
          show (putK M' M'.length).data.toList.length = m
          rw [hb, hml]
        rw [hpm] at e2
        refine ⟨i, rfl, e1, ?_, ?_, ?_⟩
        · rw [e2, app_bytes, hb]
          refine has_append.2 ⟨q1, ?_⟩
          have := has_within (has_extract (s := s) (i := i + (enc (m : Int)).length) (j := i + (enc (m : Int)).length + m) hm (by omega)) k2
          rw [Nat.add_zero] at this
          exact this
        · rw [e2, ByteArray.size_append, hpm]
          have : (⟨(enc (m : Int)).toArray⟩ : ByteArray).size = (enc (m : Int)).length := rfl
          rw [this]
          omega
        · apply List.ext_getElem?
          intro j
          rw [List.getElem?_map]
          cases hj : M'[j]? with
          | none => rfl
          | some p => simp [(k5 j p hj).2]
      · rw [getP_bad hg hm hr hc'] at h; injection h with _ h; injection h with _ h; exact absurd h hc'
  · rw [getP_code hg hc] at h; injection h with _ h; injection h with _ h; exact absurd h hc
/-! What is read at a place, both ways. -/
theorem rNum_has {s : ByteArray} {i : Nat} {k n : Int} (hc : fixC k n = 0) (h : Has s i (fixS k n)) : rNum s k i = .ok (n, ((i + (fixS k n).length : Nat) : Int)) := by
  unfold rNum; rw [getF_has hc h]; simp
theorem has_rNum {s : ByteArray} {a b k n : Int} (h : rNum s k a = .ok (n, b)) : ∃ i : Nat, a = i ∧ fixC k n = 0 ∧ Has s i (fixS k n) ∧ b = ((i + (fixS k n).length : Nat) : Int) := by
  unfold rNum at h
  split at h
  · rename_i h1
    obtain ⟨⟨x, tu, c⟩, hg⟩ : ∃ g, getF s a k = g := ⟨_, rfl⟩
    rw [hg] at h1 h
    simp only at h1
    subst h1
    cases h
    obtain ⟨i, _, rfl, _⟩ := getF_to hg
    obtain ⟨e1, e2, e3⟩ := has_getF hg
    exact ⟨i, rfl, e1, e2, e3⟩
  · cases h
theorem rText_has {s t : ByteArray} {i : Nat} (hc : tputC t = 0) (h : Has s i (tputS t).data.toList) : rText s i = .ok (t, ((i + (tputS t).size : Nat) : Int)) := by
  unfold rText; rw [tget_has hc h]; simp
theorem has_rText {s t : ByteArray} {a b : Int} (h : rText s a = .ok (t, b)) : ∃ i : Nat, a = i ∧ tputC t = 0 ∧ Has s i (tputS t).data.toList ∧ b = ((i + (tputS t).size : Nat) : Int) := by
  unfold rText at h
  split at h
  · rename_i h1
    obtain ⟨⟨x, tu, c⟩, hg⟩ : ∃ g, tget s a = g := ⟨_, rfl⟩
    rw [hg] at h1 h
    simp only at h1
    subst h1
    cases h
    obtain ⟨i, _, rfl, _⟩ := getD_to (tget_getD hg).1
    obtain ⟨e1, e2, e3⟩ := has_tget hg
    exact ⟨i, rfl, e1, e2, e3⟩
  · cases h
theorem rData_has {s t : ByteArray} {i : Nat} (hc : dataC t = 0) (h : Has s i (dataS t).data.toList) : rData s i = .ok (t, ((i + (dataS t).size : Nat) : Int)) := by
  unfold rData; rw [getD_has hc h]; simp
theorem has_rData {s t : ByteArray} {a b : Int} (h : rData s a = .ok (t, b)) : ∃ i : Nat, a = i ∧ dataC t = 0 ∧ Has s i (dataS t).data.toList ∧ b = ((i + (dataS t).size : Nat) : Int) := by
  unfold rData at h
  split at h
  · rename_i h1
    obtain ⟨⟨x, tu, c⟩, hg⟩ : ∃ g, getD s a = g := ⟨_, rfl⟩
    rw [hg] at h1 h
    simp only at h1
    subst h1
    cases h
    obtain ⟨i, _, rfl, _⟩ := getD_to hg
    obtain ⟨e1, e2, e3⟩ := has_getD hg
    exact ⟨i, rfl, e1, e2, e3⟩
  · cases h
theorem okAll_nrm (k : Int) (L : List Pp) : okAll k (L.map nrm) = okAll k L := by
  unfold okAll
  congr 1
  rw [List.any_map]
  congr 1
  funext p
  simp [nrm_id]
theorem rProps_has {s : ByteArray} {k : Int} {L : List Pp} {i : Nat} (hk : okAll k L = true) (hc : ppC L = 0) (h : Has s i (ppS L).data.toList) : rProps k s i = .ok (L.map nrm, ((i + (ppS L).size : Nat) : Int)) := by
  unfold rProps
  rw [getP_has hc h]
  simp [okAll_nrm, hk]
theorem has_rProps {s : ByteArray} {k a b : Int} {L : List Pp} (h : rProps k s a = .ok (L, b)) : ∃ i : Nat, a = i ∧ okAll k L = true ∧ ppC L = 0 ∧ Has s i (ppS L).data.toList ∧ b = ((i + (ppS L).size : Nat) : Int) ∧ L.map nrm = L := by
  unfold rProps at h
  obtain ⟨⟨M, tu, c⟩, hg⟩ : ∃ g, getP s a = g := ⟨_, rfl⟩
  rw [hg] at h
  simp only at h
  by_cases h1 : c = 242
  · rw [if_pos h1] at h; cases h
  · rw [if_neg h1] at h
    by_cases h2 : c ≠ 0
    · rw [if_pos h2] at h; cases h
    · rw [if_neg h2] at h
      have h2' : c = 0 := Classical.byContradiction h2
      subst h2'
      by_cases h3 : okAll k M = false
      · rw [if_pos h3] at h; cases h
      · rw [if_neg h3] at h
        cases h
        obtain ⟨i, rfl, e1, e2, e3, e4⟩ := has_getP hg
        exact ⟨i, rfl, by simpa using h3, e1, e2, e3, e4⟩
end Go.Proofs.YtlnanenfpapfkaaDoor

/- What a writer has put is what a reader reads, and back: one part: plain. -/
namespace Go.Proofs.YtlnanenfpapfkaaDoor
set_option linter.unusedVariables false
open Go.RowKit Pl Go.PlainAid

theorem mix_nil {c d : Int} : mix c d = 0 ↔ c = 0 ∧ d = 0 := by
  unfold mix
  split
  · rename_i h; exact ⟨fun e => ⟨h, e⟩, fun e => e.2⟩
  · rename_i h; exact ⟨fun e => absurd e h, fun e => absurd e.1 h⟩
theorem add_zero' {o : Ot} {t : ByteArray} {d : Int} : (o.add t d).c = 0 ↔ o.c = 0 ∧ d = 0 := mix_nil
theorem fail_zero {o : Ot} {d : Int} : (o.fail d).c = 0 ↔ o.c = 0 ∧ d = 0 := mix_nil
/-- The bytes s begin with what o has put. -/
def Beg (s : ByteArray) (o : Ot) : Prop := Has s 0 o.s.data.toList
theorem beg_add {s : ByteArray} {o : Ot} {t : ByteArray} {d : Int} : Beg s (o.add t d) ↔ Beg s o ∧ Has s o.s.size t.data.toList := by
  unfold Beg Ot.add
  simp only
  rw [app_bytes]
  have := has_append (s := s) (i := 0) (l := o.s.data.toList) (r := t.data.toList)
  rw [Nat.zero_add] at this
  exact this
theorem beg_fail {s : ByteArray} {o : Ot} {d : Int} : Beg s (o.fail d) ↔ Beg s o := Iff.rfl
section
variable {s : ByteArray} {o : Ot}
theorem fwd_text {t : ByteArray} (hc : (wText o t).c = 0) (h : Beg s (wText o t)) : o.c = 0 ∧ Beg s o ∧ rText s (o.s.size : Int) = .ok (t, ((wText o t).s.size : Int)) := by
  unfold wText at hc h ⊢
  obtain ⟨h1, h2⟩ := add_zero'.1 hc
  obtain ⟨h3, h4⟩ := beg_add.1 h
  exact ⟨h1, h3, by rw [rText_has h2 h4, add_size]⟩
theorem fwd_data {t : ByteArray} (hc : (wData o t).c = 0) (h : Beg s (wData o t)) : o.c = 0 ∧ Beg s o ∧ rData s (o.s.size : Int) = .ok (t, ((wData o t).s.size : Int)) := by
  unfold wData at hc h ⊢
  obtain ⟨h1, h2⟩ := add_zero'.1 hc
  obtain ⟨h3, h4⟩ := beg_add.1 h
  exact ⟨h1, h3, by rw [rData_has h2 h4, add_size]⟩
theorem fwd_num {k n : Int} (hc : (wNum k o n).c = 0) (h : Beg s (wNum k o n)) : o.c = 0 ∧ Beg s o ∧ fixC k n = 0 ∧ rNum s k (o.s.size : Int) = .ok (n, ((wNum k o n).s.size : Int)) := by
  unfold wNum at hc h ⊢
  obtain ⟨h1, h2⟩ := add_zero'.1 hc
  obtain ⟨h3, h4⟩ := beg_add.1 h
  exact ⟨h1, h3, h2, by rw [rNum_has h2 h4, add_size]; rfl⟩
theorem fwd_id {n : Int} (hc : (wId o n).c = 0) (h : Beg s (wId o n)) : o.c = 0 ∧ Beg s o ∧ rId s (o.s.size : Int) = .ok (n, ((wId o n).s.size : Int)) := by
  unfold wId at hc h ⊢
  split at hc
  · exact absurd (fail_zero.1 hc).2 (by decide)
  · rename_i hn
    rw [if_neg hn] at h ⊢
    obtain ⟨h1, h2, _, h3⟩ := fwd_num hc h
    refine ⟨h1, h2, ?_⟩
    unfold rId
    rw [h3]
    show (if n = 0 then (Except.error 130 : RR Int) else _) = _
    rw [if_neg (by omega)]
theorem fwd_props {k : Int} {L : List Pp} (hc : (wProps k o L).c = 0) (h : Beg s (wProps k o L)) : o.c = 0 ∧ Beg s o ∧ rProps k s (o.s.size : Int) = .ok (L.map nrm, ((wProps k o L).s.size : Int)) := by
  unfold wProps at hc h ⊢
  split at hc
  · rename_i hk
    rw [if_pos hk] at h ⊢
    obtain ⟨h1, h2⟩ := add_zero'.1 hc
    obtain ⟨h3, h4⟩ := beg_add.1 h
    exact ⟨h1, h3, by rw [rProps_has hk h2 h4, add_size]⟩
  · exact absurd (fail_zero.1 hc).2 (by decide)
/-! Back. -/
theorem bwd_add {t : ByteArray} {d : Int} {i : Nat} (hi : i = o.s.size) (hd : d = 0) (h : Has s i t.data.toList) (ho : o.c = 0) (hb : Beg s o) : (o.add t d).c = 0 ∧ Beg s (o.add t d) ∧ (o.add t d).s.size = i + t.size := by
  subst hi
  exact ⟨add_zero'.2 ⟨ho, hd⟩, beg_add.2 ⟨hb, h⟩, add_size _ _ _⟩
theorem bwd_text {t : ByteArray} {b : Int} (h : rText s (o.s.size : Int) = .ok (t, b)) (ho : o.c = 0) (hb : Beg s o) : (wText o t).c = 0 ∧ Beg s (wText o t) ∧ b = ((wText o t).s.size : Int) := by
  obtain ⟨i, hi, h1, h2, h3⟩ := has_rText h
  obtain ⟨k1, k2, k3⟩ := bwd_add (t := tputS t) (d := tputC t) (by omega) h1 h2 ho hb
  exact ⟨k1, k2, by unfold wText; rw [k3]; exact h3⟩
theorem bwd_data {t : ByteArray} {b : Int} (h : rData s (o.s.size : Int) = .ok (t, b)) (ho : o.c = 0) (hb : Beg s o) : (wData o t).c = 0 ∧ Beg s (wData o t) ∧ b = ((wData o t).s.size : Int) := by
  obtain ⟨i, hi, h1, h2, h3⟩ := has_rData h
  obtain ⟨k1, k2, k3⟩ := bwd_add (t := dataS t) (d := dataC t) (by omega) h1 h2 ho hb
  exact ⟨k1, k2, by unfold wData; rw [k3]; exact h3⟩
theorem bwd_num {k n b : Int} (h : rNum s k (o.s.size : Int) = .ok (n, b)) (ho : o.c = 0) (hb : Beg s o) : (wNum k o n).c = 0 ∧ Beg s (wNum k o n) ∧ b = ((wNum k o n).s.size : Int) := by
  obtain ⟨i, hi, h1, h2, h3⟩ := has_rNum h
  obtain ⟨k1, k2, k3⟩ := bwd_add (t := ⟨(fixS k n).toArray⟩) (d := fixC k n) (by omega) h1 h2 ho hb
  exact ⟨k1, k2, by unfold wNum; rw [k3]; exact h3⟩
theorem bwd_id {n b : Int} (h : rId s (o.s.size : Int) = .ok (n, b)) (ho : o.c = 0) (hb : Beg s o) : (wId o n).c = 0 ∧ Beg s (wId o n) ∧ b = ((wId o n).s.size : Int) ∧ 1 ≤ n ∧ n ≤ 65535 := by
  unfold rId at h
  obtain ⟨r, hr⟩ : ∃ r, rNum s 2 (o.s.size : Int) = r := ⟨_, rfl⟩
  rw [hr] at h
  cases r with
  | error c => cases h
  | ok v =>
    obtain ⟨x, y⟩ := v
    simp only [bindR] at h
    split at h
    · cases h
    · rename_i hn
      cases h
      obtain ⟨k1, k2, k3⟩ := bwd_num hr ho hb
      obtain ⟨i, _, hf, _, _⟩ := has_rNum hr
      obtain ⟨k, hk, _, h0, h1⟩ := fixC_zero hf
      have hk2 : k = 2 := by omega
      subst hk2
      have h1' : n < 65536 := by simpa using h1
      unfold wId
      rw [if_neg (by omega)]
      exact ⟨k1, k2, k3, by omega, by omega⟩
theorem bwd_props {k b : Int} {L : List Pp} (h : rProps k s (o.s.size : Int) = .ok (L, b)) (ho : o.c = 0) (hb : Beg s o) : (wProps k o L).c = 0 ∧ Beg s (wProps k o L) ∧ b = ((wProps k o L).s.size : Int) ∧ L.map nrm = L := by
  obtain ⟨i, hi, h0, h1, h2, h3, h4⟩ := has_rProps h
  obtain ⟨k1, k2, k3⟩ := bwd_add (t := ppS L) (d := ppC L) (by omega) h1 h2 ho hb
  unfold wProps
  rw [if_pos h0]
  exact ⟨k1, k2, by rw [k3]; exact h3, h4⟩
end
end Go.Proofs.YtlnanenfpapfkaaDoor

/- What a packet is read back as (canon), kind by kind: plain. -/
namespace Go.Proofs.YtlnanenfpapfkaaDoor
set_option linter.unusedVariables false
set_option linter.unusedSimpArgs false
open Go.RowKit Pl Go.PlainAid

theorem ppS_nrm {L : List Pp} (h : ppC L = 0) : ppC (L.map nrm) = 0 ∧ ppS (L.map nrm) = ppS L := by
  have h1 := getP_has (i := 0) h (has_self (ppS L))
  obtain ⟨i, hi, h2, h3, h4, _⟩ := has_getP h1
  obtain rfl : i = 0 := by omega
  refine ⟨h2, ?_⟩
  have hs : (ppS (L.map nrm)).size = (ppS L).size := by omega
  have := extract_has h3
  rw [Nat.zero_add, hs] at this
  rw [← this]
  exact ByteArray.extract_zero_size
theorem wProps_nrm {k : Int} {o : Ot} {L : List Pp} (h : (wProps k o L).c = 0) : wProps k o (L.map nrm) = wProps k o L := by
  unfold wProps at h ⊢
  rw [okAll_nrm]
  split at h
  · rename_i hk
    obtain ⟨_, h2⟩ := add_zero'.1 h
    rw [if_pos hk, (ppS_nrm h2).1, (ppS_nrm h2).2, h2, if_pos hk]
  · exact absurd (fail_zero.1 h).2 (by decide)
def e0 : Ot := ⟨⟨#[]⟩, 0⟩
theorem beg_self (o : Ot) : Beg o.s o := has_self o.s
/-- A CONNACK. -/
def cnConnack (q : Pk) : Pk := { zPk with kind := 2, session := q.session, code := q.code, ps := q.ps.map nrm }
theorem bt1_dec (b : Bool) : decide (bt1 b 1 = 1) = b := by cases b <;> rfl
theorem fwd_connack {q : Pk} {s : ByteArray} (hc : (wConnack e0 q).c = 0) (h : Beg s (wConnack e0 q)) : rConnack s { zPk with kind := 2 } 0 = .ok (cnConnack q, ((wConnack e0 q).s.size : Int)) := by
  unfold wConnack at hc h ⊢
  obtain ⟨c1, b1, r1⟩ := fwd_props hc h
  obtain ⟨c2, b2, _, r2⟩ := fwd_num c1 b1
  obtain ⟨c3, b3, _, r3⟩ := fwd_num c2 b2
  have r3' : rNum s 1 0 = .ok (bt1 q.session 1, ((wNum 1 e0 (bt1 q.session 1)).s.size : Int)) := r3
  unfold rConnack
  rw [r3']
  simp only [bindR]
  have hb : bt1 q.session 1 < 2 := by cases q.session <;> decide
  rw [if_neg (fun c => absurd hb c), r2]
  simp only [bindR]
  rw [r1]
  simp only [bindR, bt1_dec]
  rfl
/-- A PUBLISH. -/
def cnPub (q : Pk) : Pk := { zPk with kind := 3, dup := q.dup, q := q.q, ret := q.ret, topic := q.topic, id := if 0 < q.q then q.id else 0, ps := q.ps.map nrm, payload := q.payload }
theorem beg_end {s : ByteArray} {o : Ot} {t : ByteArray} {d : Int} (h : Beg s (o.add t d)) (hs : s.size = (o.add t d).s.size) : s.extract o.s.size s.size = t := by
  have := extract_has (beg_add.1 h).2
  rw [add_size] at hs
  rw [hs]
  exact this
theorem fwd_pub {q : Pk} {s : ByteArray} (hc : (wPublish e0 q).c = 0) (h : Beg s (wPublish e0 q)) (hs : s.size = (wPublish e0 q).s.size) : rPub s { zPk with kind := 3, dup := q.dup, q := q.q, ret := q.ret } 0 = .ok (cnPub q, (s.size : Int)) := by
  unfold wPublish at hc h hs
  obtain ⟨c1, _⟩ := add_zero'.1 hc
  have hx := beg_end h hs
  have b1 := (beg_add.1 h).1
  unfold rPub cnPub
  by_cases hq : 0 < q.q
  · simp only [if_pos hq] at c1 b1 hx ⊢
    obtain ⟨c2, b2, r2⟩ := fwd_props c1 b1
    obtain ⟨c3, b3, r3⟩ := fwd_id c2 b2
    obtain ⟨c4, b4, r4⟩ := fwd_text c3 b3
    have r4' : rText s 0 = .ok (q.topic, ((wText e0 q.topic).s.size : Int)) := r4
    rw [r4']
    simp only [bindR]
    rw [r3]
    simp only [bindR]
    unfold rPayl
    rw [r2]
    simp only [bindR, Int.toNat_natCast, hx]
    try rfl
  · simp only [if_neg hq] at c1 b1 hx ⊢
    obtain ⟨c2, b2, r2⟩ := fwd_props c1 b1
    obtain ⟨c4, b4, r4⟩ := fwd_text c2 b2
    have r4' : rText s 0 = .ok (q.topic, ((wText e0 q.topic).s.size : Int)) := r4
    rw [r4']
    simp only [bindR]
    unfold rPayl
    rw [r2]
    simp only [bindR, Int.toNat_natCast, hx]
    try rfl
end Go.Proofs.YtlnanenfpapfkaaDoor

/- What a packet is read back as: answers, DISCONNECT, AUTH; CONNECT: plain. -/
namespace Go.Proofs.YtlnanenfpapfkaaDoor
set_option linter.unusedVariables false
set_option linter.unusedSimpArgs false
open Go.RowKit Pl Go.PlainAid

theorem getP_lt {s : ByteArray} {a : Int} (h : (getP s a).2.2 = 0) : a < (getP s a).2.1 := by
  unfold getP at h ⊢
  by_cases h1 : (getV s a).2.2 ≠ 0
  · rw [if_pos h1] at h; exact absurd h h1
  · rw [if_neg h1] at h ⊢
    by_cases h2 : (s.size : Int) - (getV s a).2.1 < (getV s a).1
    · rw [if_pos h2] at h; simp at h
    · rw [if_neg h2] at h ⊢
      obtain ⟨r, hr⟩ : ∃ r, pgs (s.extract (getV s a).2.1.toNat ((getV s a).2.1.toNat + (getV s a).1.toNat)) 66 [] 0 = r := ⟨_, rfl⟩
      rw [hr] at h ⊢
      by_cases h3 : r.2 ≠ 0
      · simp only at h; rw [if_pos h3] at h; exact absurd h h3
      · simp only
        rw [if_neg h3]
        have hc : (getV s a).2.2 = 0 := Classical.byContradiction h1
        obtain ⟨i, j, hi, hj, hij, hjs, _, hn0, hn1⟩ := getV_to (s := s) (a := a) (n := (getV s a).1) (tu := (getV s a).2.1) (Prod.ext rfl (Prod.ext rfl hc))
        simp only
        omega
theorem rProps_lt {k : Int} {s : ByteArray} {a b : Int} {L : List Pp} (h : rProps k s a = .ok (L, b)) : a < b := by
  unfold rProps at h
  by_cases h1 : (getP s a).2.2 = 242
  · rw [if_pos h1] at h; cases h
  · rw [if_neg h1] at h
    by_cases h2 : (getP s a).2.2 ≠ 0
    · rw [if_pos h2] at h; cases h
    · rw [if_neg h2] at h
      by_cases h3 : okAll k (getP s a).1 = false
      · rw [if_pos h3] at h; cases h
      · rw [if_neg h3] at h
        cases h
        exact getP_lt (Classical.byContradiction h2)
theorem rNum_lt {s : ByteArray} {k a n b : Int} (h : rNum s k a = .ok (n, b)) (hk : 0 < k) : a < b := by
  unfold rNum at h
  split at h
  · rename_i h1; cases h; have := getF_at h1; omega
  · cases h
theorem fwd_endP {p q : Pk} {s : ByteArray} {o : Ot} (hc : (wProps q.kind o q.ps).c = 0) (h : Beg s (wProps q.kind o q.ps)) (hs : s.size = (wProps q.kind o q.ps).s.size) (hk : p.kind = q.kind) :
    rEndP s p (o.s.size : Int) = .ok ({ p with ps := q.ps.map nrm }, (s.size : Int)) := by
  obtain ⟨_, _, r1⟩ := fwd_props hc h
  have hl := rProps_lt r1
  unfold rEndP
  rw [hs, if_pos hl, hk, r1]
  rfl
theorem fwd_end {p q : Pk} {s : ByteArray} {o : Ot} (hc : (wEnd o q).c = 0) (h : Beg s (wEnd o q)) (hs : s.size = (wEnd o q).s.size) (hk : p.kind = q.kind) (h0 : p.code = 0) (h1 : p.ps = []) :
    o.c = 0 ∧ Beg s o ∧ rEnd s p (o.s.size : Int) = .ok ({ p with code := q.code, ps := q.ps.map nrm }, (s.size : Int)) := by
  unfold wEnd at hc h hs
  by_cases hp : q.ps.length = 0
  · have hps : q.ps = [] := List.eq_nil_of_length_eq_zero hp
    simp only [if_pos hp] at hc h hs
    by_cases hcd : q.code = 0
    · simp only [if_pos hcd] at hc h hs
      refine ⟨hc, h, ?_⟩
      unfold rEnd rEndP
      rw [if_neg (by omega), if_neg (by omega), hps, hcd, List.map_nil, ← h0, ← h1, hs]
    · simp only [if_neg hcd] at hc h hs
      obtain ⟨c1, b1, _, r1⟩ := fwd_num hc h
      refine ⟨c1, b1, ?_⟩
      have hl := rNum_lt r1 (by decide)
      unfold rEnd
      rw [hs, if_pos hl, r1]
      simp only [bindR]
      unfold rEndP
      rw [hs, if_neg (by omega), hps, List.map_nil, ← h1]
  · simp only [if_neg hp] at hc h hs
    obtain ⟨c0, b0, r0⟩ := fwd_props hc h
    obtain ⟨c1, b1, _, r1⟩ := fwd_num c0 b0
    refine ⟨c1, b1, ?_⟩
    have hl := rNum_lt r1 (by decide)
    have hl2 := rProps_lt r0
    unfold rEnd
    rw [if_pos (by omega), r1]
    simp only [bindR]
    exact fwd_endP (p := { p with code := q.code }) hc h hs hk
/-- An answer. -/
def cnAck (q : Pk) : Pk := { zPk with kind := q.kind, id := q.id, code := q.code, ps := q.ps.map nrm }
theorem fwd_ack {q : Pk} {s : ByteArray} (hc : (wEnd (wId e0 q.id) q).c = 0) (h : Beg s (wEnd (wId e0 q.id) q)) (hs : s.size = (wEnd (wId e0 q.id) q).s.size) : rAck s { zPk with kind := q.kind } 0 = .ok (cnAck q, (s.size : Int)) := by
  obtain ⟨c1, b1, r1⟩ := fwd_end (p := { zPk with kind := q.kind, id := q.id }) hc h hs rfl rfl rfl
  obtain ⟨c2, b2, r2⟩ := fwd_id c1 b1
  have r2' : rId s 0 = .ok (q.id, ((wId e0 q.id).s.size : Int)) := r2
  unfold rAck
  rw [r2']
  simp only [bindR]
  exact r1
/-- A DISCONNECT, an AUTH. -/
def cnEnd (q : Pk) : Pk := { zPk with kind := q.kind, code := q.code, ps := q.ps.map nrm }
theorem fwd_dis {q : Pk} {s : ByteArray} (hc : (wEnd e0 q).c = 0) (h : Beg s (wEnd e0 q)) (hs : s.size = (wEnd e0 q).s.size) : rEnd s { zPk with kind := q.kind } 0 = .ok (cnEnd q, (s.size : Int)) :=
  (fwd_end (p := { zPk with kind := q.kind }) hc h hs rfl rfl rfl).2.2
end Go.Proofs.YtlnanenfpapfkaaDoor

/- What a CONNECT is read back as: plain. -/
namespace Go.Proofs.YtlnanenfpapfkaaDoor
set_option linter.unusedVariables false
set_option linter.unusedSimpArgs false
open Go.RowKit Pl Go.PlainAid

def wqOf (q : Pk) : Int := if q.hasWill = true then q.wq else 0
theorem flags_back {q : Pk} (hq : q.hasWill = true → 0 ≤ q.wq ∧ q.wq ≤ 2) (p : Pk) : ¬ badFl (cFlags q) ∧ cSet p (cFlags q) = { p with clean := q.clean, hasWill := q.hasWill, hasPass := q.hasPass, hasUser := q.hasUser, wq := wqOf q, wr := q.hasWill && q.wr } := by
  obtain ⟨w, hw⟩ : ∃ w, wqOf q = w := ⟨_, rfl⟩
  have hw0 : 0 ≤ w ∧ w ≤ 2 ∧ (q.hasWill = false → w = 0) := by
    rw [← hw]; unfold wqOf
    cases h : q.hasWill with
    | false => simp
    | true => simp only [if_true]; have := hq h; exact ⟨this.1, this.2, fun c => by cases c⟩
  have hf : cFlags q = bt1 q.clean 2 + bt1 q.hasPass 64 + bt1 q.hasUser 128 + (if q.hasWill = true then 4 + 8 * w + bt1 q.wr 32 else 0) := by
    unfold cFlags
    cases h : q.hasWill with
    | false => rfl
    | true =>
      have : q.wq % 4 = w := by rw [← hw]; unfold wqOf; rw [if_pos h]; have := hq h; omega
      simp only [if_true, this]
  rw [hw, hf]
  clear hf hw hq
  unfold badFl cSet
  obtain ⟨h0, h2, h3⟩ := hw0
  have hw3 : w = 0 ∨ w = 1 ∨ w = 2 := by omega
  cases q.clean <;> cases q.hasPass <;> cases q.hasUser <;> cases hW : q.hasWill <;> cases q.wr <;> rcases hw3 with rfl | rfl | rfl <;> first | (exact absurd (h3 hW) (by decide)) | (refine ⟨by decide, rfl⟩)
def cnConn (q : Pk) : Pk :=
  { zPk with kind := 1, clean := q.clean, hasWill := q.hasWill, hasPass := q.hasPass, hasUser := q.hasUser, wq := wqOf q, wr := q.hasWill && q.wr, keep := q.keep, ps := q.ps.map nrm, client := q.client, wps := if q.hasWill = true then q.wps.map nrm else [], wt := if q.hasWill = true then q.wt else ⟨#[]⟩, wp := if q.hasWill = true then q.wp else ⟨#[]⟩, user := if q.hasUser = true then q.user else ⟨#[]⟩, pass := if q.hasPass = true then q.pass else ⟨#[]⟩ }
section
variable {s : ByteArray} {o : Ot} {p q : Pk}
theorem fwd_pass (hc : (cPass o q).c = 0) (h : Beg s (cPass o q)) (hp : p.hasPass = q.hasPass) (h0 : p.pass = ⟨#[]⟩) :
    o.c = 0 ∧ Beg s o ∧ rPass s p (o.s.size : Int) = .ok ({ p with pass := if q.hasPass = true then q.pass else ⟨#[]⟩ }, ((cPass o q).s.size : Int)) := by
  unfold cPass at hc h ⊢
  unfold rPass
  by_cases hb : q.hasPass = true
  · have hb' : p.hasPass = true := hp.trans hb
    rw [if_pos hb] at hc h ⊢
    rw [if_pos hb', if_pos hb]
    obtain ⟨c1, b1, r1⟩ := fwd_data hc h
    refine ⟨c1, b1, ?_⟩
    rw [r1]; rfl
  · have hb' : ¬ p.hasPass = true := fun c => hb (hp.symm.trans c)
    rw [if_neg hb] at hc h ⊢
    rw [if_neg hb', if_neg hb]
    exact ⟨hc, h, by rw [← h0]⟩
theorem fwd_user (hc : (cPass (cUser o q) q).c = 0) (h : Beg s (cPass (cUser o q) q)) (hp : p.hasPass = q.hasPass) (hu : p.hasUser = q.hasUser) (h0 : p.pass = ⟨#[]⟩) (h1 : p.user = ⟨#[]⟩) :
    o.c = 0 ∧ Beg s o ∧ rUser s p (o.s.size : Int) = .ok ({ p with user := if q.hasUser = true then q.user else ⟨#[]⟩, pass := if q.hasPass = true then q.pass else ⟨#[]⟩ }, ((cPass (cUser o q) q).s.size : Int)) := by
  unfold rUser
  by_cases hb : q.hasUser = true
  · have hb' : p.hasUser = true := hu.trans hb
    have he : cUser o q = wText o q.user := by unfold cUser; rw [if_pos hb]
    rw [he] at hc h ⊢
    obtain ⟨c1, b1, r1⟩ := fwd_pass (p := { p with user := q.user }) hc h hp h0
    obtain ⟨c2, b2, r2⟩ := fwd_text c1 b1
    refine ⟨c2, b2, ?_⟩
    rw [if_pos hb', if_pos hb, r2]
    exact r1
  · have hb' : ¬ p.hasUser = true := fun c => hb (hu.symm.trans c)
    have he : cUser o q = o := by unfold cUser; rw [if_neg hb]
    rw [he] at hc h ⊢
    obtain ⟨c1, b1, r1⟩ := fwd_pass (p := p) hc h hp h0
    refine ⟨c1, b1, ?_⟩
    rw [if_neg hb', if_neg hb, r1, ← h1]
theorem fwd_will (hc : (cPass (cUser (cWill o q) q) q).c = 0) (h : Beg s (cPass (cUser (cWill o q) q) q)) (hp : p.hasPass = q.hasPass) (hu : p.hasUser = q.hasUser) (hw : p.hasWill = q.hasWill) (h0 : p.pass = ⟨#[]⟩) (h1 : p.user = ⟨#[]⟩) (h2 : p.wps = []) (h3 : p.wt = ⟨#[]⟩) (h4 : p.wp = ⟨#[]⟩) :
    o.c = 0 ∧ Beg s o ∧ rWill s p (o.s.size : Int) = .ok ({ p with wps := if q.hasWill = true then q.wps.map nrm else [], wt := if q.hasWill = true then q.wt else ⟨#[]⟩, wp := if q.hasWill = true then q.wp else ⟨#[]⟩, user := if q.hasUser = true then q.user else ⟨#[]⟩, pass := if q.hasPass = true then q.pass else ⟨#[]⟩ }, ((cPass (cUser (cWill o q) q) q).s.size : Int)) := by
  unfold rWill
  by_cases hb : q.hasWill = true
  · have hb' : p.hasWill = true := hw.trans hb
    have he : cWill o q = wData (wText (wProps 0 o q.wps) q.wt) q.wp := by unfold cWill; rw [if_pos hb]
    rw [he] at hc h ⊢
    obtain ⟨c1, b1, r1⟩ := fwd_user (p := { p with wps := q.wps.map nrm, wt := q.wt, wp := q.wp }) hc h hp hu h0 h1
    obtain ⟨c2, b2, r2⟩ := fwd_data c1 b1
    obtain ⟨c3, b3, r3⟩ := fwd_text c2 b2
    obtain ⟨c4, b4, r4⟩ := fwd_props c3 b3
    refine ⟨c4, b4, ?_⟩
    rw [if_pos hb', if_pos hb, if_pos hb, if_pos hb, r4]
    show bindR (rText s _) _ = _
    rw [r3]
    show bindR (rData s _) _ = _
    rw [r2]
    exact r1
  · have hb' : ¬ p.hasWill = true := fun c => hb (hw.symm.trans c)
    have he : cWill o q = o := by unfold cWill; rw [if_neg hb]
    rw [he] at hc h ⊢
    obtain ⟨c1, b1, r1⟩ := fwd_user (p := p) hc h hp hu h0 h1
    refine ⟨c1, b1, ?_⟩
    rw [if_neg hb', if_neg hb, if_neg hb, if_neg hb, r1]
    congr 3
theorem wQos_zero {n : Int} (h : (wQos o n).c = 0) : o.c = 0 ∧ 0 ≤ n ∧ n ≤ 2 ∧ wQos o n = o := by
  unfold wQos at h ⊢
  split at h
  · exact absurd (fail_zero.1 h).2 (by decide)
  · rename_i hn
    rw [if_neg hn]
    exact ⟨h, by omega, by omega, rfl⟩
theorem fwd_conn (hc : (wConnect e0 q).c = 0) (h : Beg s (wConnect e0 q)) : rConn s { zPk with kind := 1 } 0 = .ok (cnConn q, ((wConnect e0 q).s.size : Int)) := by
  unfold wConnect at hc h ⊢
  have hwill := fwd_will (p := { zPk with kind := 1, clean := q.clean, hasWill := q.hasWill, hasPass := q.hasPass, hasUser := q.hasUser, wq := wqOf q, wr := q.hasWill && q.wr, keep := q.keep, ps := q.ps.map nrm, client := q.client }) hc h rfl rfl rfl rfl rfl rfl rfl rfl
  obtain ⟨c1, b1, r1⟩ := hwill
  unfold cHead at c1 b1 r1 ⊢
  obtain ⟨c2, b2, r2⟩ := fwd_text c1 b1
  obtain ⟨c3, b3, r3⟩ := fwd_props c2 b2
  obtain ⟨c4, b4, _, r4⟩ := fwd_num c3 b3
  obtain ⟨c5, b5, _, r5⟩ := fwd_num c4 b4
  obtain ⟨x, hx⟩ : ∃ x, (if q.hasWill = true then wQos (wNum 1 (wText e0 name5) 5) q.wq else wNum 1 (wText e0 name5) 5) = x := ⟨_, rfl⟩
  have hxx : x = wNum 1 (wText e0 name5) 5 ∧ (q.hasWill = true → 0 ≤ q.wq ∧ q.wq ≤ 2) := by
    rw [hx] at c5
    cases hb : q.hasWill with
    | true =>
      rw [if_pos hb] at hx
      subst hx
      obtain ⟨k1, k2, k3, k4⟩ := wQos_zero c5
      exact ⟨k4, fun _ => ⟨k2, k3⟩⟩
    | false =>
      rw [if_neg (by rw [hb]; decide)] at hx
      exact ⟨hx.symm, fun c => by cases c⟩
  rw [hx, hxx.1] at c5 b5 r5
  obtain ⟨c6, b6, _, r6⟩ := fwd_num c5 b5
  obtain ⟨c7, b7, r7⟩ := fwd_text c6 b6
  obtain ⟨f1, f2⟩ := flags_back hxx.2 { zPk with kind := 1 }
  rw [hx, hxx.1] at r1 r2 r3 r4 ⊢
  have r7' : rText s 0 = .ok (name5, ((wText e0 name5).s.size : Int)) := r7
  unfold rConn
  rw [r7']
  simp only [bindR]
  rw [if_neg (fun c => c rfl), r6]
  simp only [bindR]
  rw [if_neg (fun c => c rfl), r5]
  simp only [bindR]
  rw [if_neg f1, f2]
  unfold rKeep
  rw [r4]
  simp only [bindR]
  rw [r3]
  simp only [bindR]
  rw [r2]
  simp only [bindR]
  exact r1
end
end Go.Proofs.YtlnanenfpapfkaaDoor
