/- Parts of the proof, joined: PropBackP, Gp1, Gp3, Gp4, Gp5, Gp7, Gp8, Gp11, Gp12, Gp13, Gp14, PkL0, Gw16, SplitPlain, StrP, RefSplit, Split, Str0. -/
import Derived.Test.YtedapgeabpadaaaDoorJ6P9
import Derived.Test.YtedapgeabpadaaaDoorJ6P3
import Derived.Test.YtedapgeabpadaaaDoorJ6P2
import Derived.Test.YtedapgeabpadaaaDoorJ6P1
import Derived.Test.YtedapgeabpadaaaDoorJ6P4
import Derived.Laws.Strings
import Derived.Test.YtedapgeabpadaaaDoorJ6P5
import Derived.Test.YtedapgeabpadaaaDoorJ6P6
import Derived.Deep.RegionHeld3
import Derived.Deep.AppendLies
import Derived.IntWalk
import Derived.WalkMore
import Derived.Deep.QuietTactic
import Derived.BigQuiet
namespace Go.Proofs.YtedapgeabpadaaaDoor
set_option linter.unusedVariables false
open Go.RowKit Pl
open Go.PlainAid (bt bt_nonneg bt_le get_bt bt_end)

/-- A property without what its kind does not ask for. -/
def nrm (p : Pp) : Pp :=
  if kindOf p.id = 5 ∨ kindOf p.id = 6 then ⟨p.id, 0, p.s, noS⟩ else if kindOf p.id = 7 then ⟨p.id, 0, p.s, p.t⟩ else ⟨p.id, p.n, noS, noS⟩
theorem nrm_id (p : Pp) : (nrm p).id = p.id := by
  unfold nrm
  split
  · rfl
  · split <;> rfl
theorem kind_id {n : Int} (h : kindOf n ≠ 0) : 1 ≤ n ∧ n ≤ 42 := by
  by_cases c : (n = 1 ∨ n = 23 ∨ n = 25 ∨ n = 36 ∨ n = 37 ∨ n = 40 ∨ n = 41 ∨ n = 42 ∨ n = 19 ∨ n = 33 ∨ n = 34 ∨ n = 35 ∨ n = 2 ∨ n = 17 ∨ n = 24 ∨ n = 39 ∨ n = 11 ∨ n = 9 ∨ n = 22 ∨ n = 3 ∨ n = 8 ∨ n = 18 ∨ n = 21 ∨ n = 26 ∨ n = 28 ∨ n = 31 ∨ n = 38)
  · omega
  · exact absurd (kind0 c) h
theorem putC_zero {n : Int} (h : putC n = 0) : 0 ≤ n ∧ n ≤ 268435455 := by
  unfold putC at h
  split at h
  · cases h
  · omega
theorem mk_bytes (l : List UInt8) : (⟨l.toArray⟩ : ByteArray).data.toList = l := rfl
theorem mk_size (l : List UInt8) : (⟨l.toArray⟩ : ByteArray).size = l.length := rfl
theorem app_bytes (a b : ByteArray) : (a ++ b).data.toList = a.data.toList ++ b.data.toList := by rw [ByteArray.data_append, Array.toList_append]
/-- A value is read back from its bytes. -/
theorem rdv_has {s : ByteArray} {i : Nat} {p : Pp} (hc : pvC p = 0) (h : Has s i (pvS p).data.toList) : rdv s p.id i = some (nrm p, ((i + (pvS p).size : Nat) : Int)) := by
  unfold pvC at hc
  unfold pvS at h ⊢
  unfold rdv nrm
  by_cases h4 : kindOf p.id = 4
  · rw [if_pos h4] at hc h
    obtain ⟨g0, g1⟩ := putC_zero hc
    rw [mk_bytes] at h
    rw [if_pos h4, if_pos h4, getV_has g0 g1 h, if_pos rfl, if_neg (by omega), if_neg (by omega), mk_size]
  · rw [if_neg h4] at hc h
    rw [if_neg h4, if_neg h4]
    by_cases h5 : kindOf p.id = 5
    · rw [if_pos h5] at hc h
      rw [if_pos h5, if_pos h5, getD_has hc h, if_pos rfl, if_pos (.inl h5)]
    · rw [if_neg h5] at hc h
      rw [if_neg h5, if_neg h5]
      by_cases h6 : kindOf p.id = 6
      · rw [if_pos h6] at hc h
        rw [if_pos h6, if_pos h6, tget_has hc h, if_pos rfl, if_pos (.inr h6)]
      · rw [if_neg h6] at hc h
        rw [if_neg h6, if_neg h6]
        rw [if_neg (show ¬ (kindOf p.id = 5 ∨ kindOf p.id = 6) from by omega)]
        by_cases h7 : kindOf p.id = 7
        · rw [if_pos h7] at hc h
          rw [if_pos h7, if_pos h7, if_pos h7]
          have hcs : tputC p.s = 0 := by
            split at hc
            · assumption
            · exact absurd hc (by assumption)
          rw [if_pos hcs] at hc
          rw [app_bytes] at h
          obtain ⟨k1, k2⟩ := has_append.1 h
          have e1 := tget_has hcs k1
          have e2 := tget_has (i := i + (tputS p.s).size) hc k2
          rw [e1]
          simp only
          rw [e2]
          simp only [if_true]
          rw [ByteArray.size_append, Nat.add_assoc]
        · rw [if_neg h7] at hc h
          rw [if_neg h7, if_neg h7, if_neg h7, getF_has hc h, if_pos rfl, mk_size]
/-- A value that is read stands there in its bytes. -/
theorem has_rdv {s : ByteArray} {i : Nat} {id tu : Int} {p : Pp} (h : rdv s id i = some (p, tu)) : pvC p = 0 ∧ Has s i (pvS p).data.toList ∧ tu = ((i + (pvS p).size : Nat) : Int) ∧ p.id = id ∧ nrm p = p := by
  unfold rdv at h
  by_cases h4 : kindOf id = 4
  · rw [if_pos h4] at h
    obtain ⟨⟨n, f, c⟩, hg⟩ : ∃ g, getV s i = g := ⟨_, rfl⟩
    rw [hg] at h
    split at h
    · rename_i hc
      obtain rfl : c = 0 := hc
      injection h with h; injection h with h1 h2
      subst h1 h2
      obtain ⟨q1, q2, q3, q4⟩ := has_getV hg
      have e1 : pvC ⟨id, n, noS, noS⟩ = 0 := by unfold pvC; rw [if_pos h4]; show putC n = 0; unfold putC; rw [if_neg (by omega)]
      have e2 : pvS ⟨id, n, noS, noS⟩ = ⟨(enc n).toArray⟩ := by unfold pvS; rw [if_pos h4]
      refine ⟨e1, by rw [e2]; exact q1, by rw [e2]; exact q2, rfl, ?_⟩
      unfold nrm
      rw [if_neg (by simp only; omega), if_neg (by simp only; omega)]
    · cases h
  · rw [if_neg h4] at h
    by_cases h5 : kindOf id = 5
    · rw [if_pos h5] at h
      obtain ⟨⟨n, f, c⟩, hg⟩ : ∃ g, getD s i = g := ⟨_, rfl⟩
      rw [hg] at h
      split at h
      · rename_i hc
        obtain rfl : c = 0 := hc
        injection h with h; injection h with h1 h2
        subst h1 h2
        obtain ⟨q1, q2, q3⟩ := has_getD hg
        have e1 : pvC ⟨id, 0, n, noS⟩ = 0 := by unfold pvC; rw [if_neg h4, if_pos h5]; exact q1
        have e2 : pvS ⟨id, 0, n, noS⟩ = dataS n := by unfold pvS; rw [if_neg h4, if_pos h5]
        refine ⟨e1, by rw [e2]; exact q2, by rw [e2]; exact q3, rfl, ?_⟩
        unfold nrm
        rw [if_pos (.inl h5)]
      · cases h
    · rw [if_neg h5] at h
      by_cases h6 : kindOf id = 6
      · rw [if_pos h6] at h
        obtain ⟨⟨n, f, c⟩, hg⟩ : ∃ g, tget s i = g := ⟨_, rfl⟩
        rw [hg] at h
        split at h
        · rename_i hc
          obtain rfl : c = 0 := hc
          injection h with h; injection h with h1 h2
          subst h1 h2
          obtain ⟨q1, q2, q3⟩ := has_tget hg
          have e1 : pvC ⟨id, 0, n, noS⟩ = 0 := by unfold pvC; rw [if_neg h4, if_neg h5, if_pos h6]; exact q1
          have e2 : pvS ⟨id, 0, n, noS⟩ = tputS n := by unfold pvS; rw [if_neg h4, if_neg h5, if_pos h6]
          refine ⟨e1, by rw [e2]; exact q2, by rw [e2]; exact q3, rfl, ?_⟩
          unfold nrm
          rw [if_pos (.inr h6)]
        · cases h
      · rw [if_neg h6] at h
        by_cases h7 : kindOf id = 7
        · rw [if_pos h7] at h
          obtain ⟨⟨n, f, c⟩, hg⟩ : ∃ g, tget s i = g := ⟨_, rfl⟩
          rw [hg] at h
          split at h
          · rename_i hc
            obtain rfl : c = 0 := hc
            obtain ⟨q1, q2, q3⟩ := has_tget hg
            subst q3
            obtain ⟨⟨n2, f2, c2⟩, hg2⟩ : ∃ g, tget s ((i + (tputS n).size : Nat) : Int) = g := ⟨_, rfl⟩
            simp only at h
            rw [hg2] at h
            split at h
            · rename_i hc2
              obtain rfl : c2 = 0 := hc2
              injection h with h; injection h with h1 h2
              subst h1 h2
              obtain ⟨r1, r2, r3⟩ := has_tget hg2
              have e1 : pvC ⟨id, 0, n, n2⟩ = 0 := by unfold pvC; rw [if_neg h4, if_neg h5, if_neg h6, if_pos h7, if_pos q1]; exact r1
              have e2 : pvS ⟨id, 0, n, n2⟩ = tputS n ++ tputS n2 := by unfold pvS; rw [if_neg h4, if_neg h5, if_neg h6, if_pos h7]
              refine ⟨e1, by rw [e2, app_bytes]; exact has_append.2 ⟨q2, r2⟩, by rw [e2, ByteArray.size_append, ← Nat.add_assoc]; exact r3, rfl, ?_⟩
              unfold nrm
              rw [if_neg (by simp only; omega), if_pos h7]
            · cases h
          · cases h
        · rw [if_neg h7] at h
          obtain ⟨⟨n, f, c⟩, hg⟩ : ∃ g, getF s i (wid (kindOf id)) = g := ⟨_, rfl⟩
          rw [hg] at h
          split at h
          · rename_i hc
            obtain rfl : c = 0 := hc
            injection h with h; injection h with h1 h2
            subst h1 h2
            obtain ⟨q1, q2, q3⟩ := has_getF hg
            have e1 : pvC ⟨id, n, noS, noS⟩ = 0 := by unfold pvC; rw [if_neg h4, if_neg h5, if_neg h6, if_neg h7]; exact q1
            have e2 : pvS ⟨id, n, noS, noS⟩ = ⟨(fixS (wid (kindOf id)) n).toArray⟩ := by unfold pvS; rw [if_neg h4, if_neg h5, if_neg h6, if_neg h7]
            refine ⟨e1, by rw [e2]; exact q2, by rw [e2]; exact q3, rfl, ?_⟩
            unfold nrm
            rw [if_neg (by simp only; omega), if_neg (by simp only; omega)]
          · cases h
/-- The bytes of properties, one behind the other. -/
def cat (T : List Pp) : List UInt8 := T.flatMap fun p => (one p).data.toList
theorem cat_cons (p : Pp) (T : List Pp) : cat (p :: T) = (one p).data.toList ++ cat T := rfl
theorem cat_append (A T : List Pp) : cat (A ++ T) = cat A ++ cat T := List.flatMap_append
theorem one_bytes (p : Pp) : (one p).data.toList = enc p.id ++ (pvS p).data.toList := by unfold one; rw [app_bytes]
theorem put_cat (L : List Pp) : ∀ k, k ≤ L.length → (putK L k).data.toList = cat (L.take k)
  | 0, _ => rfl
  | k + 1, h => by
    obtain ⟨p, hp⟩ : ∃ p, L[k]? = some p := ⟨_, List.getElem?_eq_getElem (by omega)⟩
    rw [put_succ hp, app_bytes, put_cat L k (by omega), List.take_add_one, hp, cat_append]
    congr 1
    simp [cat]
theorem cod_all {L : List Pp} (h : ∀ j p, L[j]? = some p → stp L j p = 0) : ∀ k, codK L k = 0
  | 0 => rfl
  | k + 1 => by
    have ih := cod_all h k
    show (if codK L k = 0 then (match L[k]? with | some p => stp L k p | none => 0) else codK L k) = 0
    rw [if_pos ih]
    split
    · rename_i p hp; exact h k p hp
    · rfl
theorem cod_before {L : List Pp} : ∀ {k : Nat}, codK L k = 0 → ∀ j, j < k → ∀ p, L[j]? = some p → stp L j p = 0
  | k + 1, h, j, hj, p, hp => by
    have h' : (if codK L k = 0 then (match L[k]? with | some p => stp L k p | none => 0) else codK L k) = 0 := h
    by_cases c : codK L k = 0
    · by_cases e : j = k
      · subst e
        rw [if_pos c, hp] at h'
        exact h'
      · exact cod_before c j (by omega) p hp
    · rw [if_neg c] at h'
      exact absurd h' c
theorem stp_zero {L : List Pp} {k : Nat} {p : Pp} (h : stp L k p = 0) : kindOf p.id ≠ 0 ∧ dup L k p.id = false ∧ pvC p = 0 := by
  unfold stp at h
  split at h
  · cases h
  · rename_i h0
    split at h
    · cases h
    · rename_i h1
      exact ⟨h0, by simpa using h1, h⟩
theorem stp_mk {L : List Pp} {k : Nat} {p : Pp} (h0 : kindOf p.id ≠ 0) (h1 : dup L k p.id = false) (h2 : pvC p = 0) : stp L k p = 0 := by
  unfold stp; rw [if_neg h0, h1, if_neg (by decide), h2]
theorem dup_nrm (A T : List Pp) (id : Int) : dupL (A.map nrm) id = dup (A ++ T) A.length id := by
  unfold dupL dup
  rw [List.take_left', List.any_map]
  · congr 1
    congr 1
    funext p
    simp [nrm_id]
  · rfl
/-- Properties are read back. -/
theorem pgs_fwd {s : ByteArray} : ∀ (T A : List Pp) (a f : Nat), (∀ j p, T[j]? = some p → stp (A ++ T) (A.length + j) p = 0) → s.size = a + (cat T).length → Has s a (cat T) → A.length + T.length ≤ 64 → T.length + 1 ≤ f →
    pgs s f (A.map nrm) a = ((A ++ T).map nrm, 0)
  | [], A, a, f, _, hs, _, _, _ => by
    rw [pgs_end (by simp [cat] at hs; omega), List.append_nil]
  | p :: T, A, a, f, h, hs, hh, hl, hf => by
    simp only [List.length_cons] at hl hf
    obtain ⟨f, rfl⟩ : ∃ g, f = g + 1 := ⟨f - 1, by omega⟩
    obtain ⟨h0, h1, h2⟩ := stp_zero (h 0 p rfl)
    have hid := kind_id h0
    rw [cat_cons, one_bytes, List.append_assoc] at hh
    rw [cat_cons, one_bytes] at hs
    simp only [List.length_append] at hs
    obtain ⟨g1, g2⟩ := has_append.1 hh
    obtain ⟨g3, g4⟩ := has_append.1 g2
    have hp := (enc_vb (n := p.id) (by omega) (by omega))
    obtain ⟨r, _, _, _, _, hr⟩ := hp
    have hv := getV_has (by omega) (by omega) g1
    have hpl : (pvS p).data.toList.length = (pvS p).size := rfl
    rw [pgs_rd (by omega) (by rw [List.length_map]; omega) hv h0 (by rw [dup_nrm A (p :: T)]; exact h1), rdv_has h2 g3]
    simp only
    have ih := pgs_fwd T (A ++ [p]) (a + (enc p.id).length + (pvS p).size) f (fun j q hq => by
      have := h (j + 1) q hq
      rw [List.append_assoc, List.length_append]
      simpa [Nat.add_assoc, Nat.add_comm 1 j] using this) (by omega) g4 (by rw [List.length_append]; simp; omega) (by omega)
    rw [List.map_append, List.append_assoc] at ih
    exact ih
/-- Bytes that are read are just the properties'. -/
theorem pgs_bwd {s : ByteArray} : ∀ (f : Nat) (L M : List Pp) (a : Nat), pgs s f L a = (M, 0) → a ≤ s.size → L.length ≤ 64 → 66 ≤ f + L.length →
    ∃ T, M = L ++ T ∧ Has s a (cat T) ∧ s.size = a + (cat T).length ∧ M.length ≤ 64 ∧ ∀ j p, T[j]? = some p → stp M (L.length + j) p = 0 ∧ nrm p = p
  | 0, L, M, a, _, _, hL, hf => by omega
  | f + 1, L, M, a, h, ha, hL, hf => by
    by_cases c1 : (s.size : Int) ≤ a
    · rw [pgs_end c1] at h
      injection h with h1 _
      subst h1
      exact ⟨[], by simp, has_nil ha, by simp [cat]; omega, hL, fun j p hp => by simp at hp⟩
    · by_cases c2 : 64 ≤ L.length
      · rw [pgs_full c1 c2] at h; injection h with _ h; cases h
      · obtain ⟨⟨id, nx, d⟩, hg⟩ : ∃ g, getV s a = g := ⟨_, rfl⟩
        by_cases c3 : d ≠ 0 ∨ kindOf id = 0
        · rw [pgs_bad c1 c2 hg c3] at h; injection h with _ h; cases h
        · simp only [not_or, ne_eq, Decidable.not_not] at c3
          obtain ⟨rfl, c4⟩ := c3
          cases c5 : dupL L id
          · rw [pgs_rd c1 c2 hg c4 c5] at h
            obtain ⟨q1, q2, q3, q4⟩ := has_getV hg
            subst q2
            cases hr : rdv s id ((a + (enc id).length : Nat) : Int) with
            | none => rw [hr] at h; injection h with _ h; cases h
            | some pt =>
              obtain ⟨p, tu⟩ := pt
              rw [hr] at h
              obtain ⟨r1, r2, r3, r4, r5⟩ := has_rdv hr
              subst r3
              simp only at h
              have hle := r2.1
              have hpl : (pvS p).data.toList.length = (pvS p).size := rfl
              obtain ⟨T, rfl, k2, k3, k4, k5⟩ := pgs_bwd f (L ++ [p]) M _ h (by omega) (by rw [List.length_append]; simp; omega) (by rw [List.length_append]; simp; omega)
              subst r4
              refine ⟨p :: T, by simp, ?_, ?_, k4, fun j q hq => ?_⟩
              · rw [cat_cons, one_bytes, List.append_assoc]
                exact has_append.2 ⟨q1, has_append.2 ⟨r2, k2⟩⟩
              · rw [cat_cons, one_bytes, k3]
                simp only [List.length_append]
                omega
              · cases j with
                | zero =>
                  obtain rfl : p = q := by simpa using hq
                  refine ⟨stp_mk c4 ?_ r1, r5⟩
                  unfold dupL at c5
                  unfold dup
                  rw [List.append_assoc, Nat.add_zero, List.take_left']
                  · exact c5
                  · rfl
                | succ j =>
                  have := k5 j q (by simpa using hq)
                  rw [List.length_append] at this
                  simpa [Nat.add_assoc, Nat.add_comm 1 j] using this
          · rw [pgs_dup c1 c2 hg c4 c5] at h; injection h with _ h; cases h
/-- .. with their length ahead. -/
theorem getP_back {L : List Pp} (h : ppC L = 0) : getP (ppS L) 0 = (L.map nrm, ((ppS L).size : Int), 0) := by
  have h64 : ¬ 64 < L.length := by
    intro c; rw [(pp_long c).1] at h; cases h
  have hc : codK L L.length = 0 := by unfold ppC at h; rwa [if_neg h64] at h
  obtain ⟨_, hS⟩ := pp_ok h64 hc
  have hb := put_cat L L.length (Nat.le_refl _)
  rw [List.take_length] at hb
  have hm := put_small L L.length
  obtain ⟨m, hm'⟩ : ∃ m, (putK L L.length).size = m := ⟨_, rfl⟩
  have hcl : (cat L).length = m := by rw [← hb]; exact hm'
  rw [hm'] at hS hm
  have hSb : (ppS L).data.toList = enc m ++ cat L := by rw [hS, app_bytes, hb]
  have hSs : (ppS L).size = (enc m).length + m := by
    show (ppS L).data.toList.length = _
    rw [hSb, List.length_append, hcl]
  have hh := has_self (ppS L)
  rw [hSb] at hh
  obtain ⟨g1, g2⟩ := has_append.1 hh
  rw [Nat.zero_add] at g2
  have hv := getV_has (by omega) (by omega) g1
  rw [Nat.zero_add] at hv
  have hw : Has (ppS L) (enc m).length (⟨(cat L).toArray⟩ : ByteArray).data.toList := g2
  have hx := extract_has hw
  rw [mk_size, hcl] at hx
  have hf := pgs_fwd (s := ⟨(cat L).toArray⟩) L [] 0 66 (fun j p hp => by
    have := cod_before hc j (List.getElem?_eq_some_iff.1 hp).1 p hp
    simpa using this) (by rw [mk_size]; omega) (has_self ⟨(cat L).toArray⟩) (by simp; omega) (by omega)
  have := getP_ok (s := ppS L) (at_ := 0) (m := m) (f := (enc m).length) (L := L.map nrm) hv (by omega) (by rw [hx]; exact hf)
  rw [this, hSs]
  rfl
set_option maxHeartbeats 4000000 in
theorem back_getP {s : ByteArray} {M : List Pp} {nx : Int} (h : getP s 0 = (M, nx, 0)) : ppC M = 0 ∧ (∃ k : Nat, nx = k ∧ k ≤ s.size ∧ s.extract 0 k = ppS M) ∧ (∀ p ∈ M, p.fits) ∧ M.map nrm = M := by
  obtain ⟨⟨n, from_, c⟩, hg⟩ : ∃ g, getV s 0 = g := ⟨_, rfl⟩
  by_cases hc : c = 0
  · subst hc
    obtain ⟨q1, q2, q3, q4⟩ := has_getV (i := 0) hg
    subst q2
    rw [Nat.zero_add] at hg
    obtain ⟨m, rfl⟩ := Int.eq_ofNat_of_zero_le q3
    by_cases hlt : (s.size : Int) - ((enc (m : Int)).length : Nat) < m
    · rw [getP_none hg hlt] at h; injection h with _ h; injection h with _ h; cases h
    · have hm : (enc (m : Int)).length + m ≤ s.size := by omega
      obtain ⟨⟨M', c'⟩, hr⟩ : ∃ r, pgs (s.extract (enc (m : Int)).length ((enc (m : Int)).length + m)) 66 [] 0 = r := ⟨_, rfl⟩
      by_cases hc' : c' = 0
      · subst hc'
        rw [getP_ok hg hm hr] at h
        injection h with h1 h
        injection h with h2 _
        subst h1 h2
        have hsub : (s.extract (enc (m : Int)).length ((enc (m : Int)).length + m)).size = m := by rw [ByteArray.size_extract]; omega
        obtain ⟨T, hT, k2, k3, k4, k5⟩ := pgs_bwd 66 [] M' 0 hr (by omega) (by decide) (by decide)
        rw [List.nil_append] at hT
        subst hT
        have hcod := cod_all (L := M') (fun j p hp => by have := (k5 j p hp).1; simpa using this) M'.length
        obtain ⟨e1, e2⟩ := pp_ok (by omega) hcod
        have hb := put_cat M' M'.length (Nat.le_refl _)
        rw [List.take_length] at hb
        have hml : (cat M').length = m := by omega
        have hpm : (putK M' M'.length).size = m := by
          show (putK M' M'.length).data.toList.length = m
          rw [hb, hml]
        rw [hpm] at e2
        refine ⟨e1, ⟨(enc (m : Int)).length + m, by simp, hm, ?_⟩, ?_, ?_⟩
        · have hall : Has s 0 (ppS M').data.toList := by
            rw [e2, app_bytes, hb]
            refine has_append.2 ⟨q1, ?_⟩
            rw [Nat.zero_add]
            have := has_within (has_extract (s := s) (i := (enc (m : Int)).length) (j := (enc (m : Int)).length + m) hm (by omega)) k2
            rw [Nat.add_zero] at this
            exact this
          have := extract_has hall
          rw [Nat.zero_add] at this
          rw [← this]
          congr 1
          rw [e2, ByteArray.size_append, hpm]
          rfl
        · intro p hp
          obtain ⟨j, hj⟩ := List.mem_iff_getElem?.1 hp
          obtain ⟨z1, z2⟩ := k5 j p hj
          obtain ⟨y1, y2, y3⟩ := stp_zero z1
          have hid := kind_id y1
          have dz : noS.size ≤ 65535 := by decide
          have d0 : (0 : Int) ≤ 0 := Int.le_refl 0
          have d1 : (0 : Int) ≤ 4294967295 := by decide
          have hfit : p.s.size ≤ 65535 ∧ p.t.size ≤ 65535 ∧ 0 ≤ p.n ∧ p.n ≤ 4294967295 := by
            rw [← z2]
            unfold nrm
            unfold pvC at y3
            split at y3
            · have := putC_zero y3
              rw [if_neg (by omega), if_neg (by omega)]
              exact ⟨dz, dz, this.1, by have := this.2; simp only; omega⟩
            · split at y3
              · rw [if_pos (.inl (by assumption))]
                exact ⟨(dataS_len y3).1, dz, d0, d1⟩
              · split at y3
                · rw [if_pos (.inr (by assumption))]
                  exact ⟨(dataS_len (tputC_zero y3).2.1).1, dz, d0, d1⟩
                · rw [if_neg (by omega)]
                  split at y3
                  · rw [if_pos (by assumption)]
                    split at y3
                    · rename_i hz
                      exact ⟨(dataS_len (tputC_zero hz).2.1).1, (dataS_len (tputC_zero y3).2.1).1, d0, d1⟩
                    · exact absurd y3 (by assumption)
                  · rw [if_neg (by assumption)]
                    obtain ⟨k, _, hk, h0, h1⟩ := fixC_zero y3
                    refine ⟨dz, dz, h0, ?_⟩
                    rcases hk with rfl | rfl | rfl
                    all_goals (simp at h1; simp only; omega)
          exact ⟨by omega, by omega, by omega, by omega, by omega, by omega⟩
        · apply List.ext_getElem?
          intro j
          rw [List.getElem?_map]
          cases hj : M'[j]? with
          | none => rfl
          | some p => simp [(k5 j p hj).2]
      · rw [getP_bad hg hm hr hc'] at h; injection h with _ h; injection h with _ h; exact absurd h hc'
  · rw [getP_code hg hc] at h; injection h with _ h; injection h with _ h; exact absurd h hc
end Go.Proofs.YtedapgeabpadaaaDoor

namespace Go.Proofs.YtedapgeabpadaaaDoor
set_option linter.unusedVariables false
open Go.RowKit Pl Go.PlainAid

theorem has_getP {s : ByteArray} {M : List Pp} {nx a : Int} (h : getP s a = (M, nx, 0)) : ∃ i : Nat, a = i ∧ ppC M = 0 ∧ Has s i (ppS M).data.toList ∧ nx = ((i + (ppS M).size : Nat) : Int) ∧ M.map nrm = M := by
  obtain ⟨⟨n, from_, c⟩, hg⟩ : ∃ g, getV s a = g := ⟨_, rfl⟩
  by_cases hc : c = 0
  · subst hc
    obtain ⟨i, j, rfl, rfl, _, _, _, _, _⟩ := getV_to hg
    obtain ⟨q1, q2, q3, q4⟩ := has_getV hg
    obtain ⟨m, rfl⟩ := Int.eq_ofNat_of_zero_le q3
    have hj : j = i + (enc (m : Int)).length := by omega
    subst hj
    by_cases hlt : (s.size : Int) - ((i + (enc (m : Int)).length : Nat) : Int) < m
    · rw [getP_none hg hlt] at h; injection h with _ h; injection h with _ h; cases h
    · have hm : (i + (enc (m : Int)).length) + m ≤ s.size := by omega
      obtain ⟨⟨M', c'⟩, hr⟩ : ∃ r, pgs (s.extract (i + (enc (m : Int)).length) ((i + (enc (m : Int)).length) + m)) 66 [] 0 = r := ⟨_, rfl⟩
      by_cases hc' : c' = 0
      · subst hc'
        rw [getP_ok hg hm hr] at h
        injection h with h1 h
        injection h with h2 _
        subst h1 h2
        have hsub : (s.extract (i + (enc (m : Int)).length) ((i + (enc (m : Int)).length) + m)).size = m := by rw [ByteArray.size_extract]; omega
        obtain ⟨T, hT, k2, k3, k4, k5⟩ := pgs_bwd 66 [] M' 0 hr (by omega) (by decide) (by decide)
        rw [List.nil_append] at hT
        subst hT
        have hcod := cod_all (L := M') (fun j p hp => by have := (k5 j p hp).1; simpa using this) M'.length
        obtain ⟨e1, e2⟩ := pp_ok (by omega) hcod
        have hb := put_cat M' M'.length (Nat.le_refl _)
        rw [List.take_length] at hb
        have hml : (cat M').length = m := by omega
        have hpm : (putK M' M'.length).size = m := by
          show (putK M' M'.length).data.toList.length = m
          rw [hb, hml]
        rw [hpm] at e2
        refine ⟨i, rfl, e1, ?_, ?_, ?_⟩
        · rw [e2, app_bytes, hb]
          refine has_append.2 ⟨q1, ?_⟩
          have := has_within (has_extract (s := s) (i := i + (enc (m : Int)).length) (j := i + (enc (m : Int)).length + m) hm (by omega)) k2
          rw [Nat.add_zero] at this
          exact this
        · rw [e2, ByteArray.size_append, hpm]
          have : (⟨(enc (m : Int)).toArray⟩ : ByteArray).size = (enc (m : Int)).length := rfl
          rw [this]
          omega
        · apply List.ext_getElem?
          intro j
          rw [List.getElem?_map]
          cases hj : M'[j]? with
          | none => rfl
          | some p => simp [(k5 j p hj).2]
      · rw [getP_bad hg hm hr hc'] at h; injection h with _ h; injection h with _ h; exact absurd h hc'
  · rw [getP_code hg hc] at h; injection h with _ h; injection h with _ h; exact absurd h hc
theorem has_rNum {s : ByteArray} {a b k n : Int} (h : rNum s k a = .ok (n, b)) : ∃ i : Nat, a = i ∧ fixC k n = 0 ∧ Has s i (fixS k n) ∧ b = ((i + (fixS k n).length : Nat) : Int) := by
  unfold rNum at h
  split at h
  · rename_i h1
    obtain ⟨⟨x, tu, c⟩, hg⟩ : ∃ g, getF s a k = g := ⟨_, rfl⟩
    rw [hg] at h1 h
    simp only at h1
    subst h1
    cases h
    obtain ⟨i, _, rfl, _⟩ := getF_to hg
    obtain ⟨e1, e2, e3⟩ := has_getF hg
    exact ⟨i, rfl, e1, e2, e3⟩
  · cases h
theorem has_rText {s t : ByteArray} {a b : Int} (h : rText s a = .ok (t, b)) : ∃ i : Nat, a = i ∧ tputC t = 0 ∧ Has s i (tputS t).data.toList ∧ b = ((i + (tputS t).size : Nat) : Int) := by
  unfold rText at h
  split at h
  · rename_i h1
    obtain ⟨⟨x, tu, c⟩, hg⟩ : ∃ g, tget s a = g := ⟨_, rfl⟩
    rw [hg] at h1 h
    simp only at h1
    subst h1
    cases h
    obtain ⟨i, _, rfl, _⟩ := getD_to (tget_getD hg).1
    obtain ⟨e1, e2, e3⟩ := has_tget hg
    exact ⟨i, rfl, e1, e2, e3⟩
  · cases h
theorem has_rData {s t : ByteArray} {a b : Int} (h : rData s a = .ok (t, b)) : ∃ i : Nat, a = i ∧ dataC t = 0 ∧ Has s i (dataS t).data.toList ∧ b = ((i + (dataS t).size : Nat) : Int) := by
  unfold rData at h
  split at h
  · rename_i h1
    obtain ⟨⟨x, tu, c⟩, hg⟩ : ∃ g, getD s a = g := ⟨_, rfl⟩
    rw [hg] at h1 h
    simp only at h1
    subst h1
    cases h
    obtain ⟨i, _, rfl, _⟩ := getD_to hg
    obtain ⟨e1, e2, e3⟩ := has_getD hg
    exact ⟨i, rfl, e1, e2, e3⟩
  · cases h
theorem has_rProps {s : ByteArray} {k a b : Int} {L : List Pp} (h : rProps k s a = .ok (L, b)) : ∃ i : Nat, a = i ∧ okAll k L = true ∧ ppC L = 0 ∧ Has s i (ppS L).data.toList ∧ b = ((i + (ppS L).size : Nat) : Int) ∧ L.map nrm = L := by
  unfold rProps at h
  obtain ⟨⟨M, tu, c⟩, hg⟩ : ∃ g, getP s a = g := ⟨_, rfl⟩
  rw [hg] at h
  simp only at h
  by_cases h1 : c = 242
  · rw [if_pos h1] at h; cases h
  · rw [if_neg h1] at h
    by_cases h2 : c ≠ 0
    · rw [if_pos h2] at h; cases h
    · rw [if_neg h2] at h
      have h2' : c = 0 := Classical.byContradiction h2
      subst h2'
      by_cases h3 : okAll k M = false
      · rw [if_pos h3] at h; cases h
      · rw [if_neg h3] at h
        cases h
        obtain ⟨i, rfl, e1, e2, e3, e4⟩ := has_getP hg
        exact ⟨i, rfl, by simpa using h3, e1, e2, e3, e4⟩
end Go.Proofs.YtedapgeabpadaaaDoor

namespace Go.Proofs.YtedapgeabpadaaaDoor
set_option linter.unusedVariables false
set_option linter.unusedSimpArgs false
open Go.RowKit Pl Go.PlainAid

def e0 : Ot := ⟨⟨#[]⟩, 0⟩
/-- A CONNACK. -/
def cnConnack (q : Pk) : Pk := { zPk with kind := 2, session := q.session, code := q.code, ps := q.ps.map nrm }
/-- A PUBLISH. -/
def cnPub (q : Pk) : Pk := { zPk with kind := 3, dup := q.dup, q := q.q, ret := q.ret, topic := q.topic, id := if 0 < q.q then q.id else 0, ps := q.ps.map nrm, payload := q.payload }
end Go.Proofs.YtedapgeabpadaaaDoor

namespace Go.Proofs.YtedapgeabpadaaaDoor
set_option linter.unusedVariables false
set_option linter.unusedSimpArgs false
open Go.RowKit Pl Go.PlainAid

/-- An answer. -/
def cnAck (q : Pk) : Pk := { zPk with kind := q.kind, id := q.id, code := q.code, ps := q.ps.map nrm }
/-- A DISCONNECT, an AUTH. -/
def cnEnd (q : Pk) : Pk := { zPk with kind := q.kind, code := q.code, ps := q.ps.map nrm }
end Go.Proofs.YtedapgeabpadaaaDoor

namespace Go.Proofs.YtedapgeabpadaaaDoor
set_option linter.unusedVariables false
set_option linter.unusedSimpArgs false
open Go.RowKit Pl Go.PlainAid

def wqOf (q : Pk) : Int := if q.hasWill = true then q.wq else 0
def cnConn (q : Pk) : Pk :=
  { zPk with kind := 1, clean := q.clean, hasWill := q.hasWill, hasPass := q.hasPass, hasUser := q.hasUser, wq := wqOf q, wr := q.hasWill && q.wr, keep := q.keep, ps := q.ps.map nrm, client := q.client, wps := if q.hasWill = true then q.wps.map nrm else [], wt := if q.hasWill = true then q.wt else ⟨#[]⟩, wp := if q.hasWill = true then q.wp else ⟨#[]⟩, user := if q.hasUser = true then q.user else ⟨#[]⟩, pass := if q.hasPass = true then q.pass else ⟨#[]⟩ }
section
variable {s : ByteArray} {o : Ot} {p q : Pk}
end
end Go.Proofs.YtedapgeabpadaaaDoor

namespace Go.Proofs.YtedapgeabpadaaaDoor
set_option linter.unusedVariables false
set_option linter.unusedSimpArgs false
open Go.RowKit Pl Go.PlainAid

section
variable {s : ByteArray}
def cnLists (q : Pk) : Pk :=
  if q.kind = 8 then { zPk with kind := q.kind, id := q.id, ps := q.ps.map nrm, subs := q.subs }
  else if q.kind = 10 then { zPk with kind := q.kind, id := q.id, ps := q.ps.map nrm, filters := q.filters }
  else { zPk with kind := q.kind, id := q.id, ps := q.ps.map nrm, codes := q.codes }
end
end Go.Proofs.YtedapgeabpadaaaDoor

namespace Go.Proofs.YtedapgeabpadaaaDoor
set_option linter.unusedVariables false
set_option linter.unusedSimpArgs false
open Go.RowKit Pl Go.PlainAid

def cn (q : Pk) : Pk :=
  if q.kind = 1 then cnConn q else if q.kind = 2 then cnConnack q else if q.kind = 3 then cnPub q
  else if q.kind = 4 ∨ q.kind = 5 ∨ q.kind = 6 ∨ q.kind = 7 then cnAck q
  else if q.kind = 14 ∨ q.kind = 15 then cnEnd q
  else if q.kind = 8 ∨ q.kind = 9 ∨ q.kind = 10 ∨ q.kind = 11 then cnLists q else { zPk with kind := q.kind }
end Go.Proofs.YtedapgeabpadaaaDoor

namespace Go.Proofs.YtedapgeabpadaaaDoor
set_option linter.unusedVariables false
set_option linter.unusedSimpArgs false
open Go.RowKit Pl Go.PlainAid

theorem bindR_ok {α β : Type} {r : RR α} {k : α → Int → RR β} {y : β × Int} (h : bindR r k = .ok y) : ∃ v a, r = .ok (v, a) ∧ k v a = .ok y := by
  cases r with
  | error c => cases h
  | ok v => obtain ⟨v, a⟩ := v; exact ⟨v, a, rfl, h⟩
section
variable {s : ByteArray} {o : Ot} {p a : Pk} {b : Int}
theorem num_range {k n x y : Int} (h : rNum s k x = .ok (n, y)) (hk : k = 1) : 0 ≤ n ∧ n < 256 := by
  obtain ⟨i, _, hf, _, _⟩ := has_rNum h
  obtain ⟨j, hj, _, h0, h1⟩ := fixC_zero hf
  have hj1 : j = 1 := by omega
  subst hj1
  exact ⟨h0, by simpa using h1⟩
end
end Go.Proofs.YtedapgeabpadaaaDoor

namespace Go.Proofs.YtedapgeabpadaaaDoor
set_option linter.unusedVariables false
set_option linter.unusedSimpArgs false
open Go.RowKit Pl Go.PlainAid

theorem hdO_some {h : Int} {p : Pk} (h0 : 0 ≤ h) (h1 : h < 256) (e : hdO h = some p) :
    1 ≤ p.kind ∧ p.kind ≤ 15 ∧ ((p = { zPk with kind := p.kind } ∧ p.kind ≠ 3) ∨ (∃ d q r, p = { zPk with kind := 3, dup := d, q := q, ret := r } ∧ 0 ≤ q ∧ q ≤ 2 ∧ (d = true → 0 < q))) := by
  unfold hdO at e
  by_cases hz : h / 16 = 0
  · rw [if_pos hz] at e; cases e
  rw [if_neg hz] at e
  by_cases h3 : h / 16 = 3
  · rw [if_pos h3] at e
    by_cases hq : h / 2 % 4 < 3 ∧ (h / 8 % 2 = 0 ∨ 0 < h / 2 % 4)
    · rw [if_pos hq] at e
      cases e
      refine ⟨by simp, by simp, .inr ⟨_, _, _, rfl, by omega, by omega, fun hd => ?_⟩⟩
      have := of_decide_eq_true hd
      omega
    · rw [if_neg hq] at e; cases e
  · rw [if_neg h3] at e
    by_cases hk : h % 16 = kFlags (h / 16)
    · rw [if_pos hk] at e
      cases e
      exact ⟨by simp only; omega, by simp only; omega, .inl ⟨rfl, h3⟩⟩
    · rw [if_neg hk] at e; cases e
end Go.Proofs.YtedapgeabpadaaaDoor

namespace Go.Proofs.YtedapgeabpadaaaDoor
set_option linter.unusedVariables false
set_option linter.unusedSimpArgs false
open Go.RowKit Pl Go.PlainAid

theorem bt_range {s : ByteArray} (j : Nat) : 0 ≤ bt s j ∧ bt s j < 256 := by
  unfold bt
  (try split) <;> first | omega | (have := (s[j]).toNat_lt; omega) | skip
end Go.Proofs.YtedapgeabpadaaaDoor

namespace Go.Proofs.YtedapgeabpadaaaDoor
set_option linter.unusedVariables false
set_option linter.unusedSimpArgs false
open Go.RowKit Pl Go.PlainAid

theorem ps_fits {M : List Pp} (h : ppC M = 0) (hn : M.map nrm = M) : M.length ≤ 64 ∧ ∀ p ∈ M, p.fits := by
  have h64 : ¬ 64 < M.length := by
    intro c; rw [(pp_long c).1] at h; cases h
  have h1 := getP_back h
  rw [hn] at h1
  exact ⟨by omega, (back_getP h1).2.2.1⟩
theorem rProps_fits {k : Int} {s : ByteArray} {a b : Int} {L : List Pp} (h : rProps k s a = .ok (L, b)) : L.length ≤ 1048576 ∧ ∀ p ∈ L, p.fits := by
  obtain ⟨i, _, _, h1, _, _, h2⟩ := has_rProps h
  have := ps_fits h1 h2
  exact ⟨by omega, this.2⟩
theorem rText_fits {s t : ByteArray} {a b : Int} (h : rText s a = .ok (t, b)) : t.size ≤ 1048576 := by
  obtain ⟨i, _, h1, _, _⟩ := has_rText h
  have := (dataS_len (tputC_zero h1).2.1).1
  omega
theorem rData_fits {s t : ByteArray} {a b : Int} (h : rData s a = .ok (t, b)) : t.size ≤ 1048576 := by
  obtain ⟨i, _, h1, _, _⟩ := has_rData h
  have := (dataS_len h1).1
  omega
theorem rNum_fits {s : ByteArray} {k a n b : Int} (h : rNum s k a = .ok (n, b)) : i64B n := by
  obtain ⟨i, _, hf, _, _⟩ := has_rNum h
  obtain ⟨j, hj, hj2, h0, h1⟩ := fixC_zero hf
  rcases hj2 with rfl | rfl | rfl
  all_goals (simp at h1; unfold i64B; omega)
theorem num_255 {s : ByteArray} {a n b : Int} (h : rNum s 1 a = .ok (n, b)) : 0 ≤ n ∧ n ≤ 255 := by have := num_range h rfl; omega
theorem rId_fits {s : ByteArray} {a n b : Int} (h : rId s a = .ok (n, b)) : i64B n := by
  unfold rId at h
  obtain ⟨m, a1, r1, h⟩ := bindR_ok h
  split at h
  · cases h
  · cases h; exact rNum_fits r1
theorem zPk_fits : zPk.fits := by
  refine ⟨by unfold i64B; decide, by unfold i64B; decide, by unfold i64B; decide, by unfold i64B; decide, by unfold i64B; decide, by decide, by decide, by decide, by decide, by decide, by decide, by decide, by decide, ⟨by decide, fun x h => by cases h⟩, ⟨by decide, fun x h => by cases h⟩, ⟨by decide, fun x h => by cases h⟩, ⟨by decide, fun x h => by cases h⟩, ⟨by decide, fun x h => by cases h⟩⟩
section
variable {s : ByteArray} {p q : Pk} {a b : Int}
theorem fit_payl (hz : s.size ≤ 1048576) (hp : p.fits) (h : rPayl s p a = .ok (q, b)) : q.fits := by
  unfold rPayl at h
  obtain ⟨l, a1, r1, h⟩ := bindR_ok h
  cases h
  exact { hp with ps := rProps_fits r1, payload := by simp only [ByteArray.size_extract]; omega }
theorem fit_pub (hz : s.size ≤ 1048576) (hp : p.fits) (h : rPub s p a = .ok (q, b)) : q.fits := by
  unfold rPub at h
  obtain ⟨t, a1, r1, h⟩ := bindR_ok h
  split at h
  · obtain ⟨n, a2, r2, h⟩ := bindR_ok h
    refine fit_payl hz ?_ h; exact { hp with topic := rText_fits r1, id := rId_fits r2 }
  · refine fit_payl hz ?_ h; exact { hp with topic := rText_fits r1 }
theorem fit_connack (hp : p.fits) (h : rConnack s p a = .ok (q, b)) : q.fits := by
  unfold rConnack at h
  obtain ⟨n, a1, r1, h⟩ := bindR_ok h
  split at h
  · cases h
  obtain ⟨c, a2, r2, h⟩ := bindR_ok h
  obtain ⟨l, a3, r3, h⟩ := bindR_ok h
  cases h
  exact { hp with code := num_255 r2, ps := rProps_fits r3 }
theorem fit_endP (hp : p.fits) (h : rEndP s p a = .ok (q, b)) : q.fits := by
  unfold rEndP at h
  split at h
  · obtain ⟨l, a3, r3, h⟩ := bindR_ok h
    cases h
    exact { hp with ps := rProps_fits r3 }
  · cases h; exact hp
theorem fit_end (hp : p.fits) (h : rEnd s p a = .ok (q, b)) : q.fits := by
  unfold rEnd at h
  split at h
  · obtain ⟨c, a3, r3, h⟩ := bindR_ok h
    refine fit_endP ?_ h; exact { hp with code := num_255 r3 }
  · exact fit_endP hp h
theorem fit_ack (hp : p.fits) (h : rAck s p a = .ok (q, b)) : q.fits := by
  unfold rAck at h
  obtain ⟨n, a2, r2, h⟩ := bindR_ok h
  refine fit_end ?_ h; exact { hp with id := rId_fits r2 }
theorem fit_item {m : Nat} (hp : p.fits) (h1 : p.subs.length ≤ m) (h2 : p.filters.length ≤ m) (h3 : p.codes.length ≤ m) (hm : m < 1048576) (h : rItem s p a = .ok (q, b)) : q.fits ∧ q.subs.length ≤ m + 1 ∧ q.filters.length ≤ m + 1 ∧ q.codes.length ≤ m + 1 := by
  unfold rItem at h
  split at h
  · obtain ⟨x, a1, r1, h⟩ := bindR_ok h
    cases h
    have hx : x.f.size ≤ 1048576 ∧ i64B x.q ∧ i64B x.h := by
      unfold rSub at r1
      obtain ⟨t, a2, r2, r1⟩ := bindR_ok r1
      obtain ⟨n, a3, r3, r1⟩ := bindR_ok r1
      split at r1
      · cases r1
      split at r1
      · cases r1
      cases r1
      refine ⟨rText_fits r2, ?_, ?_⟩ <;> (unfold sbOf i64B; simp only; omega)
    refine ⟨{ hp with subs := ⟨by simp only [List.length_append, List.length_singleton]; omega, fun y hy => ?_⟩ }, by simp only [List.length_append, List.length_singleton]; omega, by simp only; omega, by simp only; omega⟩
    rcases List.mem_append.1 hy with hy | hy
    · exact hp.subs.2 y hy
    · obtain rfl := List.mem_singleton.1 hy; exact hx
  · split at h
    · obtain ⟨x, a1, r1, h⟩ := bindR_ok h
      cases h
      refine ⟨{ hp with filters := ⟨by simp only [List.length_append, List.length_singleton]; omega, fun y hy => ?_⟩ }, by simp only; omega, by simp only [List.length_append, List.length_singleton]; omega, by simp only; omega⟩
      rcases List.mem_append.1 hy with hy | hy
      · exact hp.filters.2 y hy
      · obtain rfl := List.mem_singleton.1 hy; exact rText_fits r1
    · obtain ⟨x, a1, r1, h⟩ := bindR_ok h
      cases h
      refine ⟨{ hp with codes := ⟨by simp only [List.length_append, List.length_singleton]; omega, fun y hy => ?_⟩ }, by simp only; omega, by simp only; omega, by simp only [List.length_append, List.length_singleton]; omega⟩
      rcases List.mem_append.1 hy with hy | hy
      · exact hp.codes.2 y hy
      · obtain rfl := List.mem_singleton.1 hy; have := num_range r1 rfl; omega
theorem fit_items : ∀ (f m : Nat) (p : Pk) (a : Int), p.fits → p.subs.length ≤ m → p.filters.length ≤ m → p.codes.length ≤ m → m + f < 1048576 → rItems s f p a = .ok (q, b) → q.fits
  | 0, m, p, a, hp, _, _, _, _, h => by
    unfold rItems at h
    split at h
    · cases h
    · cases h; exact hp
  | f + 1, m, p, a, hp, h1, h2, h3, hm, h => by
    unfold rItems at h
    split at h
    · obtain ⟨p', a1, r1, h⟩ := bindR_ok h
      obtain ⟨k0, k1, k2, k3⟩ := fit_item hp h1 h2 h3 (by omega) r1
      exact fit_items f (m + 1) p' a1 k0 k1 k2 k3 (by omega) h
    · cases h; exact hp
theorem fit_lists (hp : p.fits) (h1 : p.subs.length ≤ 0) (h2 : p.filters.length ≤ 0) (h3 : p.codes.length ≤ 0) (h : rLists s p a = .ok (q, b)) : q.fits := by
  unfold rLists at h
  obtain ⟨n, a2, r2, h⟩ := bindR_ok h
  obtain ⟨l, a3, r3, h⟩ := bindR_ok h
  split at h
  · refine fit_items (s := s) 64 0 _ _ ?_ ?_ ?_ ?_ (by decide) h
    · exact { hp with id := rId_fits r2, ps := rProps_fits r3 }
    · exact h1
    · exact h2
    · exact h3
  · cases h
theorem fit_pass (hp : p.fits) (h : rPass s p a = .ok (q, b)) : q.fits := by
  unfold rPass at h
  split at h
  · obtain ⟨d, a1, r1, h⟩ := bindR_ok h
    cases h
    exact { hp with pass := rData_fits r1 }
  · cases h; exact hp
theorem fit_user (hp : p.fits) (h : rUser s p a = .ok (q, b)) : q.fits := by
  unfold rUser at h
  split at h
  · obtain ⟨d, a1, r1, h⟩ := bindR_ok h
    refine fit_pass ?_ h; exact { hp with user := rText_fits r1 }
  · exact fit_pass hp h
theorem fit_will (hp : p.fits) (h : rWill s p a = .ok (q, b)) : q.fits := by
  unfold rWill at h
  split at h
  · obtain ⟨l, a1, r1, h⟩ := bindR_ok h
    obtain ⟨t, a2, r2, h⟩ := bindR_ok h
    obtain ⟨d, a3, r3, h⟩ := bindR_ok h
    refine fit_user ?_ h; exact { hp with wps := rProps_fits r1, wt := rText_fits r2, wp := rData_fits r3 }
  · exact fit_user hp h
theorem fit_conn (hp : p.fits) (h : rConn s p a = .ok (q, b)) : q.fits := by
  unfold rConn at h
  obtain ⟨t, a1, r1, h⟩ := bindR_ok h
  split at h
  · cases h
  obtain ⟨v, a2, r2, h⟩ := bindR_ok h
  split at h
  · cases h
  obtain ⟨f, a3, r3, h⟩ := bindR_ok h
  split at h
  · cases h
  unfold rKeep at h
  obtain ⟨n, a4, r4, h⟩ := bindR_ok h
  obtain ⟨l, a5, r5, h⟩ := bindR_ok h
  obtain ⟨cl, a6, r6, h⟩ := bindR_ok h
  have hc : (cSet p f).fits := { hp with wq := by unfold cSet i64B; simp only; omega }
  refine fit_will ?_ h; exact { hc with keep := rNum_fits r4, ps := rProps_fits r5, client := rText_fits r6 }
theorem fit_kind (hz : s.size ≤ 1048576) (hp : p.fits) (h1 : p.subs.length ≤ 0) (h2 : p.filters.length ≤ 0) (h3 : p.codes.length ≤ 0) (h : rKind s p a = .ok (q, b)) : q.fits := by
  unfold rKind at h
  split at h
  · exact fit_conn hp h
  split at h
  · exact fit_connack hp h
  split at h
  · exact fit_pub hz hp h
  split at h
  · exact fit_ack hp h
  split at h
  · exact fit_end hp h
  split at h
  · exact fit_lists hp h1 h2 h3 h
  cases h
  exact hp
end
theorem get_fits (s : ByteArray) : (pkGet s).1.fits := by
  unfold pkGet
  split
  · exact zPk_fits
  · have hbr := bt_range (s := s) 0
    cases hd : hdO (bt s 0) with
    | none => exact zPk_fits
    | some p =>
      simp only
      split
      · exact zPk_fits
      split
      · exact zPk_fits
      rename_i hL
      split
      · exact zPk_fits
      split
      · exact zPk_fits
      rename_i h2 h3
      cases hb : rBody (s.extract (getV s 1).2.1.toNat s.size) p 0 with
      | error c => exact zPk_fits
      | ok v =>
        obtain ⟨q, b⟩ := v
        obtain ⟨k1, k2, hp⟩ := hdO_some hbr.1 hbr.2 hd
        unfold rBody at hb
        obtain ⟨q', b', r1, hb⟩ := bindR_ok hb
        split at hb
        · cases hb
        cases hb
        have hz : (s.extract (getV s 1).2.1.toNat s.size).size ≤ 1048576 := by rw [ByteArray.size_extract]; omega
        show q.fits
        rcases hp with ⟨hp, _⟩ | ⟨d, q0, r, hp, q1, q2, _⟩
        · rw [hp] at r1
          refine fit_kind hz ?_ ?_ ?_ ?_ r1
          · exact { zPk_fits with kind := (by show i64B p.kind; unfold i64B; omega) }
          all_goals exact Nat.le_refl _
        · rw [hp] at r1
          refine fit_kind hz ?_ ?_ ?_ ?_ r1
          · exact { zPk_fits with kind := (by show i64B 3; unfold i64B; decide), q := (by show i64B q0; unfold i64B; omega) }
          all_goals exact Nat.le_refl _
end Go.Proofs.YtedapgeabpadaaaDoor

namespace Go.Proofs.YtedapgeabpadaaaDoor
set_option linter.unusedVariables false
open Go.RowKit Pl

def sflat (L : List Sb) : List Value := L.flatMap fun x => (sbA x).toList
/-- Both packets. -/
structure Two (B : Nat) (w : World) (ga gb : Nat) (q : Pk) (m1 m2 : Hs) : Prop where
  a : Blk w ga (pkA .u8 q m1) 45
  b : Blk w gb (pkA .i64 q m2) 52
  p1 : w.ownsRow B 123 4 m1.p.v q.ps.length (flat q.ps)
  p2 : w.ownsRow B 122 4 m2.p.v q.ps.length (flat q.ps)
  w1 : w.ownsRow B 123 4 m1.w.v q.wps.length (flat q.wps)
  w2 : w.ownsRow B 122 4 m2.w.v q.wps.length (flat q.wps)
  c1 : w.ownsRow B 30 1 m1.c.v q.codes.length (q.codes.map (Value.int .u8))
  c2 : w.ownsRow B 3 1 m2.c.v q.codes.length (q.codes.map (Value.int .i64))
  s1 : w.ownsRow B 84 5 m1.s.v q.subs.length (sflat q.subs)
  s2 : w.ownsRow B 83 5 m2.s.v q.subs.length (sflat q.subs)
  f1 : w.ownsRow B 9 1 m1.f.v q.filters.length (q.filters.map Value.string)
  f2 : w.ownsRow B 9 1 m2.f.v q.filters.length (q.filters.map Value.string)
  ff : ∀ g, m1.f.v.ownBlock = some g → m2.f.v.ownBlock ≠ some g
theorem sflat_cells {L : List Sb} : ∀ {i : Nat} {x : Sb}, L[i]? = some x → ∀ j u, (sbA x).toList[j]? = some u → (sflat L)[i * 5 + j]? = some u := by
  induction L with
  | nil => intro i x h; simp at h
  | cons y r ih =>
    intro i x h j u hu
    have hj : j < 5 := (List.getElem?_eq_some_iff.1 hu).1
    show ((sbA y).toList ++ sflat r)[i * 5 + j]? = some u
    have hy : (sbA y).toList.length = 5 := rfl
    cases i with
    | zero =>
      obtain rfl : y = x := by simpa using h
      rw [Nat.zero_mul, Nat.zero_add, List.getElem?_append_left (by omega)]
      exact hu
    | succ i =>
      rw [List.getElem?_append_right (by omega), hy, show (i + 1) * 5 + j - 5 = i * 5 + j from by omega]
      exact ih (by simpa using h) j u hu
end Go.Proofs.YtedapgeabpadaaaDoor

set_option linter.unusedVariables false
namespace Go.Proofs.YtedapgeabpadaaaDoor
open Go.RowKit Pl

theorem sl_hd {w : World} {B n size : Nat} {e : TypeId} {h : Hd} {xs : List Value} (s : Sl B w e size h.v n xs) : n = h.n ∧ h.n ≤ h.cap ∧ ((h.A = none ∧ h.cap = 0) ∨ ∃ a, h.A = some a) := by
  obtain ⟨ao, cap, hv, h1, h2, h3⟩ := s.form
  unfold Hd.v at hv
  injection hv with e1 e2 e3
  refine ⟨e2.symm, by omega, ?_⟩
  rw [e1, e3]
  cases ao with
  | none => exact .inl ⟨rfl, (h3 rfl).2⟩
  | some a => exact .inr ⟨a, rfl⟩
theorem sl_at {w : World} {B n size : Nat} {e : TypeId} {h : Hd} {xs : List Value} (s : Sl B w e size h.v n xs) (hn : 0 < n) : ∃ g o, h.A = some ⟨g, o, none⟩ ∧ g < w.heap.size ∧ ∀ j u, xs[j]? = some u → w.cell? ⟨g, o + j, none⟩ = some u := by
  obtain ⟨g, o, cap, hv, _, h1, _, _, h2⟩ := s.at hn
  unfold Hd.v at hv
  injection hv with e1 e2 e3
  exact ⟨g, o, e1, h1, h2⟩
theorem sl_prow {w : World} {B : Nat} {e : TypeId} {h : Hd} {L : List Pp} (s : Sl B w e 4 h.v L.length (flat L)) : PRow w h.A L := by
  intro hp
  obtain ⟨g, o, e1, h1, h2⟩ := sl_at s hp
  refine ⟨g, o, e1, h1, fun i p hi => ?_⟩
  have hf := fun j u (hu : (ppA p).toList[j]? = some u) => h2 _ u (flat_at hi hu)
  have hg : ∀ j u, (ppA p).toList[j]? = some u → w.cell? ⟨g, o + i * 4 + j, none⟩ = some u := fun j u hu => by
    rw [Nat.add_assoc]; exact hf j u hu
  exact ⟨hg 0 _ rfl, hg 1 _ rfl, hg 2 _ rfl, hg 3 _ rfl⟩
theorem sl_vrow {w : World} {B n : Nat} {e : TypeId} {h : Hd} {L : List Value} (s : Sl B w e 1 h.v n L) : VRow w h.A L := by
  intro hp
  have := s.1
  obtain ⟨g, o, e1, h1, h2⟩ := sl_at s (by omega)
  exact ⟨g, o, e1, h1, fun i x hi => h2 i x hi⟩
theorem sl_srow {w : World} {B : Nat} {e : TypeId} {h : Hd} {L : List Sb} (s : Sl B w e 5 h.v L.length (sbF L)) : SbRow w h.A L := by
  intro hp
  obtain ⟨g, o, e1, h1, h2⟩ := sl_at s hp
  refine ⟨g, o, e1, h1, fun i p hi => ?_⟩
  have hg : ∀ j u, (sbA p).toList[j]? = some u → w.cell? ⟨g, o + i * 5 + j, none⟩ = some u := fun j u hu => by
    rw [Nat.add_assoc]; exact h2 _ u (sflat_cells hi j u hu)
  exact ⟨hg 0 _ rfl, hg 1 _ rfl, hg 2 _ rfl, hg 3 _ rfl, hg 4 _ rfl⟩
theorem PkO.pkin {B : Nat} {w : World} {p : Pk} {m : Hs} (h : PkO B w p m) (f : p.fits) : PkIn .u8 w p m := by
  have hp := sl_hd h.ps
  have hw := sl_hd h.wps
  have hc := sl_hd h.cs
  have hs := sl_hd h.ss
  have hf := sl_hd h.fs
  exact ⟨f, hp.1, hp.2.1, sl_prow h.ps, hw.1, hw.2.1, sl_prow h.wps, hc.1, hc.2.1, sl_vrow h.cs, hs.1, hs.2.1, sl_srow h.ss, hf.1, hf.2.1, sl_vrow h.fs, hs.2.2, hf.2.2⟩
end Go.Proofs.YtedapgeabpadaaaDoor

namespace Go.Proofs.YtedapgeabpadaaaDoor.Pl
open Go.PlainAid (bt bt_nonneg bt_le get_bt bt_end)

/-- The pieces that bytes are split into, what is left, and the code. -/
def splitF (most : Int) : Nat → ByteArray → List ByteArray × ByteArray × Int
  | 0, s => ([], s, 0)
  | f + 1, s =>
    if s.size = 0 then ([], s, 0)
    else if (getV s 1).2.2 = 242 then ([], s, 0)
    else if (getV s 1).2.2 ≠ 0 then ([], s, (getV s 1).2.2)
    else if most < (getV s 1).2.1 + (getV s 1).1 then ([], s, 149)
    else if (s.size : Int) < (getV s 1).2.1 + (getV s 1).1 then ([], s, 0)
    else (s.extract 0 ((getV s 1).2.1 + (getV s 1).1).toNat :: (splitF most f (s.extract ((getV s 1).2.1 + (getV s 1).1).toNat s.size)).1, (splitF most f (s.extract ((getV s 1).2.1 + (getV s 1).1).toNat s.size)).2)

/-- What a number at place 1 may be. -/
theorem get1 {s : ByteArray} {v e : Int} (hs : 1 ≤ s.size) (h : getV s 1 = (v, e, 0)) : ∃ m k : Nat, v = m ∧ e = k ∧ 2 ≤ k ∧ k ≤ 5 ∧ k ≤ s.size ∧ m ≤ 268435455 := by
  rw [show (1 : Int) = ((1 : Nat) : Int) from rfl, getV_ok (by omega)] at h
  obtain ⟨r, n, hr1, hr4, hv, hn0, hn1, hmin, he, hsz, hby⟩ := gi_back s 4 0 1 0 v e h
  obtain rfl : v = n := by rw [hv]; simp
  have hmax : v ≤ 268435455 := by
    obtain rfl | rfl | rfl | rfl : r = 1 ∨ r = 2 ∨ r = 3 ∨ r = 4 := by omega
    all_goals (simp at hn1; omega)
  exact ⟨v.toNat, 1 + r, by omega, he, by omega, by omega, hsz, by omega⟩

theorem split_end {most : Int} {f : Nat} {s : ByteArray} (h : s.size = 0) : splitF most f s = ([], s, 0) := by
  cases f with
  | zero => rfl
  | succ f => unfold splitF; rw [if_pos h]
theorem split_none {most : Int} {f : Nat} {s : ByteArray} {v e : Int} (hs : s.size ≤ f) (h0 : s.size ≠ 0) (h : getV s 1 = (v, e, 242)) : splitF most f s = ([], s, 0) := by
  obtain ⟨g, rfl⟩ : ∃ g, f = g + 1 := ⟨f - 1, by omega⟩
  unfold splitF; rw [if_neg h0, h, if_pos rfl]
theorem split_code {most : Int} {f : Nat} {s : ByteArray} {v e c : Int} (hs : s.size ≤ f) (h0 : s.size ≠ 0) (h : getV s 1 = (v, e, c)) (h1 : c ≠ 242) (h2 : c ≠ 0) : splitF most f s = ([], s, c) := by
  obtain ⟨g, rfl⟩ : ∃ g, f = g + 1 := ⟨f - 1, by omega⟩
  unfold splitF; rw [if_neg h0, h, if_neg h1, if_pos h2]
theorem split_large {most : Int} {f : Nat} {s : ByteArray} {v e : Int} (hs : s.size ≤ f) (h0 : s.size ≠ 0) (h : getV s 1 = (v, e, 0)) (h1 : most < e + v) : splitF most f s = ([], s, 149) := by
  obtain ⟨g, rfl⟩ : ∃ g, f = g + 1 := ⟨f - 1, by omega⟩
  unfold splitF; rw [if_neg h0, h]; simp [h1]
theorem split_short {most : Int} {f : Nat} {s : ByteArray} {v e : Int} (hs : s.size ≤ f) (h0 : s.size ≠ 0) (h : getV s 1 = (v, e, 0)) (h1 : ¬ most < e + v) (h2 : (s.size : Int) < e + v) : splitF most f s = ([], s, 0) := by
  obtain ⟨g, rfl⟩ : ∃ g, f = g + 1 := ⟨f - 1, by omega⟩
  unfold splitF; rw [if_neg h0, h]; simp [h1, h2]
theorem split_more {most : Int} {f : Nat} {s : ByteArray} {m k : Nat} (hs : s.size ≤ f) (h0 : s.size ≠ 0) (h : getV s 1 = ((m : Int), (k : Int), 0)) (h1 : ¬ most < (k : Int) + m) (h2 : k + m ≤ s.size) :
    splitF most f s = (s.extract 0 (k + m) :: (splitF most (f - 1) (s.extract (k + m) s.size)).1, (splitF most (f - 1) (s.extract (k + m) s.size)).2) := by
  obtain ⟨g, rfl⟩ : ∃ g, f = g + 1 := ⟨f - 1, by omega⟩
  have e : ((k : Int) + (m : Int)).toNat = k + m := by omega
  have h3 : ¬ ((s.size : Int) < (k : Int) + m) := by omega
  conv => lhs; unfold splitF
  rw [if_neg h0, h]
  simp only [ne_eq, not_true_eq_false, if_false, h1, h3, e, Nat.add_sub_cancel]
  rfl
theorem split_codes (most : Int) : ∀ (f : Nat) (s : ByteArray), 0 ≤ (splitF most f s).2.2 ∧ (splitF most f s).2.2 ≤ 242 := by
  intro f
  induction f with
  | zero => intro s; exact ⟨Int.le_refl _, by show (0 : Int) ≤ 242; decide⟩
  | succ f ih =>
    intro s
    have hc := getV_code s 1
    unfold splitF
    repeat' split
    all_goals first | exact ih _ | exact hc | exact ⟨by simp, by simp⟩
end Go.Proofs.YtedapgeabpadaaaDoor.Pl

namespace Go.Proofs.YtedapgeabpadaaaDoor
set_option linter.unusedVariables false
set_option linter.unusedSimpArgs false
open Go.RowKit Pl Go.PlainAid

def sp (most : Int) (s : ByteArray) : List ByteArray × ByteArray × Int := splitF most s.size s
def getsP : List ByteArray → List Pk × Int
  | [] => ([], 0)
  | b :: r => if (pkGet b).2 ≠ 0 then ([], (pkGet b).2) else ((pkGet b).1 :: (getsP r).1, (getsP r).2)
theorem gets_bad {b : ByteArray} {r : List ByteArray} {p : Pk} {c : Int} (h : pkGet b = (p, c)) (hc : c ≠ 0) : getsP (b :: r) = ([], c) := by
  unfold getsP; rw [h]; rw [if_pos hc]
theorem gets_ok {b : ByteArray} {r : List ByteArray} {p : Pk} (h : pkGet b = (p, 0)) : getsP (b :: r) = (p :: (getsP r).1, (getsP r).2) := by
  conv => lhs; unfold getsP
  rw [h]; rfl
theorem gets_app (M : List ByteArray) : ∀ L : List ByteArray, ((getsP L).2 = 0 → getsP (L ++ M) = ((getsP L).1 ++ (getsP M).1, (getsP M).2)) ∧ ((getsP L).2 ≠ 0 → getsP (L ++ M) = getsP L) := by
  intro L
  induction L with
  | nil => exact ⟨fun _ => by simp [getsP], fun h => absurd rfl h⟩
  | cons b r ih =>
    obtain ⟨⟨p, c⟩, hb⟩ : ∃ x, pkGet b = x := ⟨_, rfl⟩
    by_cases hc : c ≠ 0
    · rw [List.cons_append, gets_bad hb hc, gets_bad hb hc]
      exact ⟨fun h => absurd h hc, fun _ => rfl⟩
    · have hc : c = 0 := Classical.byContradiction hc
      subst hc
      rw [List.cons_append, gets_ok hb, gets_ok hb]
      refine ⟨fun h => ?_, fun h => ?_⟩
      · rw [ih.1 h]; rfl
      · rw [ih.2 h]
theorem gets_len : ∀ L : List ByteArray, (getsP L).1.length ≤ L.length := by
  intro L
  induction L with
  | nil => exact Nat.le_refl _
  | cons b r ih =>
    unfold getsP
    split
    · exact Nat.zero_le _
    · exact Nat.succ_le_succ ih
/-- One call of Feed: the packets, what is left, the code. -/
def feedC (most : Int) (x : ByteArray) : Int := if (getsP (sp most x).1).2 ≠ 0 then (getsP (sp most x).1).2 else (sp most x).2.2
def feedL (most : Int) (x : ByteArray) : List Pk := (getsP (sp most x).1).1
def feedR (most : Int) (x : ByteArray) : ByteArray := if feedC most x ≠ 0 then ⟨#[]⟩ else (sp most x).2.1
end Go.Proofs.YtedapgeabpadaaaDoor

namespace Go.Proofs.YtedapgeabpadaaaDoor
set_option linter.unusedVariables false
open Go.RowKit Pl

theorem info_str : (Tryd.prog.info? 9).map (fun i => (i.zero, i.size, i.bytes)) = some (some (.string ⟨#[]⟩), 1, 16) := by kernel_rfl
def strSz : Value → Nat
  | .string s => s.size
  | _ => 0
theorem size_nil {x : ByteArray} (h : x.size = 0) : x = ⟨#[]⟩ := by
  apply ByteArray.ext
  exact Array.eq_empty_of_size_eq_zero h

set_option maxRecDepth 100000 in
theorem refsplit_any (s : ByteArray) (most : Int) (w : World) (hs : s.size ≤ 1048576) (h0 : -9223372036854775808 ≤ most) (h1 : most ≤ 9223372036854775807) :
    Calls Tryd.prog 18 #[.string s, .int .i64 most] w fun e w' => ∃ v, e = .returned (.tuple #[v, .string (splitF most s.size s).2.1, .int .i64 (splitF most s.size s).2.2]) ∧
      w'.ownsRow w.heap.size 9 1 v (splitF most s.size s).1.length ((splitF most s.size s).1.map Value.string) ∧ Below w.heap.size w w' := by
  obtain ⟨i0, hi, hz0, hz1, hz2⟩ := info_parts info_str
  go_enter Tryd.func18, Tryd.ntmps18
  go_wp2
  go_loopw [0, 7] (fun a b wr => ∃ (x : ByteArray) (f : Nat) (l : List ByteArray), a = .string x ∧ x.size ≤ f ∧ l.length + x.size ≤ s.size ∧ wr.ownsRow w.heap.size 9 1 b l.length (l.map Value.string) ∧
      Hid (splitF most s.size s = (l ++ (splitF most f x).1, (splitF most f x).2)) ∧ Below w.heap.size w wr) (fun a _ _ => strSz a)
  case atStart => exact ⟨s, s.size, [], rfl, by omega, by simp, World.ownsRow_nil _ _ _ _, Lib.hid (by simp), Below.refl _ _⟩
  case round =>
    obtain ⟨x, f, l, rfl, hf, hl, hown, hv, hbel⟩ := hrel
    by_cases hx : x.size = 0
    · have he := size_nil hx
      have hr := Lib.hid (hv.out.trans (by rw [split_end hx]))
      subst he
      go_wp2
      go_ret3
      exact ⟨_, ret3 rfl (val_bytes (by rw [hr.out])) (val_int (by rw [hr.out])), by rw [hr.out]; simpa using hown, hbel⟩
    · have hpos : 0 < x.size := by omega
      obtain ⟨v, e, c, hg⟩ : ∃ v e c, getV x 1 = (v, e, c) := ⟨_, _, _, rfl⟩
      have hc := getV_code x 1
      rw [hg] at hc
      have hc0 : 0 ≤ c := hc.1
      have hc1 : c ≤ 242 := hc.2
      clear hc
      have Hg := Lib.hid hg
      clear hg
      by_cases c242 : c = 242
      · have hr := Lib.hid (hv.out.trans (by rw [split_none hf hx (by rw [← c242]; exact Hg.out)]))
        subst c242
        go_wp2_with fail
        refine (refget_all x 1 _ (by omega) (by omega) (by omega)).mono ?_
        rintro e w1 ⟨rfl, rfl⟩
        rw [Hg.out]
        go_wp2
        go_ret3
        exact ⟨_, ret3 rfl (val_bytes (by rw [hr.out])) (val_int (by rw [hr.out])), by rw [hr.out]; simpa using hown, hbel⟩
      · by_cases c0 : c = 0
        · subst c0
          clear c242 hc0 hc1
          obtain ⟨m, k, rfl, rfl, hk2, hk5, hkx, hm⟩ := get1 (by omega) Hg.out
          by_cases hmost : most < (k : Int) + m
          · have hr := Lib.hid (hv.out.trans (by rw [split_large hf hx Hg.out hmost]))
            go_wp2_with fail
            refine (refget_all x 1 _ (by omega) (by omega) (by omega)).mono ?_
            rintro e w1 ⟨rfl, rfl⟩
            rw [Hg.out]
            go_wp2
            go_ret3
            exact ⟨_, ret3 rfl (val_bytes (by rw [hr.out])) (val_int (by rw [hr.out])), by rw [hr.out]; simpa using hown, hbel⟩
          · by_cases hshort : (x.size : Int) < (k : Int) + m
            · have hr := Lib.hid (hv.out.trans (by rw [split_short hf hx Hg.out hmost hshort]))
              go_wp2_with fail
              refine (refget_all x 1 _ (by omega) (by omega) (by omega)).mono ?_
              rintro e w1 ⟨rfl, rfl⟩
              rw [Hg.out]
              go_wp2
              go_ret3
              exact ⟨_, ret3 rfl (val_bytes (by rw [hr.out])) (val_int (by rw [hr.out])), by rw [hr.out]; simpa using hown, hbel⟩
            · have hkm : k + m ≤ x.size := by omega
              have hr := Lib.hid (hv.out.trans (by rw [split_more hf hx Hg.out hmost hkm]))
              have hbytes : (l.length + 1) * 16 ≤ 140737488355328 := by omega
              go_wp2_with fail
              refine (refget_all x 1 _ (by omega) (by omega) (by omega)).mono ?_
              rintro e w1 ⟨rfl, rfl⟩
              rw [Hg.out]
              go_wp2_with (at_builtin; refine wpList_push (.tmp 44) (.tmp 50) 22 9 i0 (.string ⟨#[]⟩) 16 rfl rfl Tryd.underlying22 hi hz0 hz1 hz2 rfl w.heap.size _ l.length (l.map Value.string) (.string (x.extract 0 (k + m))) rfl rfl hown hbel hbel.size rfl (by simp [maxLen]; omega) hbytes ?_; intro v' w1 hown1 hbel1 hs1 hn1)
              go_wp2
              go_roundw
              case rel => exact ⟨x.extract (k + m) x.size, f - 1, l ++ [x.extract 0 (k + m)], rfl, by rw [ByteArray.size_extract]; omega, by rw [ByteArray.size_extract, List.length_append, List.length_singleton]; omega, by simpa using hown1, Lib.hid (by rw [hr.out]; simp), hbel1⟩
              case measure => simp [strSz]; omega
        · have hr := Lib.hid (hv.out.trans (by rw [split_code hf hx Hg.out c242 c0]))
          go_wp2_with fail
          refine (refget_all x 1 _ (by omega) (by omega) (by omega)).mono ?_
          rintro e w1 ⟨rfl, rfl⟩
          rw [Hg.out]
          go_wp2
          go_ret3
          exact ⟨_, ret3 rfl (val_bytes (by rw [hr.out])) (val_int (by rw [hr.out])), by rw [hr.out]; simpa using hown, hbel⟩
end Go.Proofs.YtedapgeabpadaaaDoor

namespace Go.Proofs.YtedapgeabpadaaaDoor
set_option linter.unusedVariables false
open Go.RowKit Pl

theorem emp_not {x : ByteArray} (h : x.size ≠ 0) : x.toList.isEmpty = false := by
  rw [ByteArray.toList_eq, List.isEmpty_eq_false_iff]
  intro hc
  have := congrArg List.length hc
  exact h this

set_option maxRecDepth 100000 in
theorem split_any (s : ByteArray) (most : Int) (w : World) (hs : s.size ≤ 1048576) (h0 : -9223372036854775808 ≤ most) (h1 : most ≤ 9223372036854775807) :
    Calls Tryd.prog 16 #[.string s, .int .i64 most] w fun e w' => ∃ v, e = .returned (.tuple #[v, .string (splitF most s.size s).2.1, .int .u8 (splitF most s.size s).2.2]) ∧
      w'.ownsRow w.heap.size 9 1 v (splitF most s.size s).1.length ((splitF most s.size s).1.map Value.string) ∧ Below w.heap.size w w' := by
  obtain ⟨i0, hi, hz0, hz1, hz2⟩ := info_parts info_str
  go_enter Tryd.func16, Tryd.ntmps16
  go_wp2
  go_step3
  go_wp2
  go_step3
  go_wp2
  go_loopw [0, 7, 8] (fun a b c wr => ∃ (x : ByteArray) (f : Nat) (l : List ByteArray), a = .string x ∧ c = .int .u8 0 ∧ x.size ≤ f ∧ l.length + x.size ≤ s.size ∧ wr.ownsRow w.heap.size 9 1 b l.length (l.map Value.string) ∧
      Hid (splitF most s.size s = (l ++ (splitF most f x).1, (splitF most f x).2)) ∧ Below w.heap.size w wr) (fun a _ _ _ => strSz a)
  case atStart => exact ⟨s, s.size, [], rfl, rfl, by omega, by simp, World.ownsRow_nil _ _ _ _, Lib.hid (by simp), Below.refl _ _⟩
  case round =>
    obtain ⟨x, f, l, rfl, rfl, hf, hl, hown, hv, hbel⟩ := hrel
    by_cases hx : x.size = 0
    · have he := size_nil hx
      have hr := Lib.hid (hv.out.trans (by rw [split_end hx]))
      subst he
      go_wp2
      go_ret3
      exact ⟨_, ret3 rfl (val_bytes (by rw [hr.out])) (val_int (by rw [hr.out])), by rw [hr.out]; simpa using hown, hbel⟩
    · have hpos : 0 < x.size := by omega
      have hemp := emp_not hx
      obtain ⟨v, e, c, hg⟩ : ∃ v e c, getV x 1 = (v, e, c) := ⟨_, _, _, rfl⟩
      have hc := getV_code x 1
      rw [hg] at hc
      have hc0 : 0 ≤ c := hc.1
      have hc1 : c ≤ 242 := hc.2
      clear hc
      have Hg := Lib.hid hg
      clear hg
      by_cases c242 : c = 242
      · have hr := Lib.hid (hv.out.trans (by rw [split_none hf hx (by rw [← c242]; exact Hg.out)]))
        subst c242
        go_wp2_with fail
        refine (get_all x 1 _ (by omega) (by omega) (by omega)).mono ?_
        rintro e w1 ⟨rfl, rfl⟩
        rw [Hg.out]
        go_wp2
        try rw [Exit.noGoto_ret]
        go_ret3
        exact ⟨_, ret3 rfl (val_bytes (by rw [hr.out])) (val_int (by rw [hr.out])), by rw [hr.out]; simpa using hown, hbel⟩
      · by_cases c0 : c = 0
        · subst c0
          clear c242 hc0 hc1
          obtain ⟨m, k, rfl, rfl, hk2, hk5, hkx, hm⟩ := get1 (by omega) Hg.out
          by_cases hmost : most < (k : Int) + m
          · have hr := Lib.hid (hv.out.trans (by rw [split_large hf hx Hg.out hmost]))
            go_wp2_with fail
            refine (get_all x 1 _ (by omega) (by omega) (by omega)).mono ?_
            rintro e w1 ⟨rfl, rfl⟩
            rw [Hg.out]
            go_wp2
            try rw [Exit.noGoto_ret]
            go_ret3
            exact ⟨_, ret3 rfl (val_bytes (by rw [hr.out])) (val_int (by rw [hr.out])), by rw [hr.out]; simpa using hown, hbel⟩
          · by_cases hshort : (x.size : Int) < (k : Int) + m
            · have hr := Lib.hid (hv.out.trans (by rw [split_short hf hx Hg.out hmost hshort]))
              have hsh : (x.size : Int) - k < m := by omega
              go_wp2_with fail
              refine (get_all x 1 _ (by omega) (by omega) (by omega)).mono ?_
              rintro e w1 ⟨rfl, rfl⟩
              rw [Hg.out]
              go_wp2
              try rw [Exit.noGoto_ret]
              go_ret3
              exact ⟨_, ret3 rfl (val_bytes (by rw [hr.out])) (val_int (by rw [hr.out])), by rw [hr.out]; simpa using hown, hbel⟩
            · have hkm : k + m ≤ x.size := by omega
              have hr := Lib.hid (hv.out.trans (by rw [split_more hf hx Hg.out hmost hkm]))
              have hbytes : (l.length + 1) * 16 ≤ 140737488355328 := by omega
              have hsh : ¬ (x.size : Int) - k < m := by omega
              have hw1 : IntKind.i64.wrap ((k : Int) + m) = (k : Int) + m := IntWalk.i64_in _ (by omega)
              have hw2 : (0 : Int) ≤ (k : Int) + m := by omega
              have hw3 : (k : Int) + m ≤ x.size := by omega
              have hw4 : ((k : Int) + m).toNat = k + m := by omega
              go_wp2_with fail
              refine (get_all x 1 _ (by omega) (by omega) (by omega)).mono ?_
              rintro e w1 ⟨rfl, rfl⟩
              rw [Hg.out]
              go_wp2
              go_region_held3 (fun _ => True) (first | trivial | go_keep)
                ((refine step_append_lies _ (by rfl) _ _ _ (by rfl) w.heap.size 9 i0 _ 1 16 Tryd.underlying22 hi hz0 hz1 hz2 rfl (by omega) _ l.length (l.map Value.string) (by rfl) ((hown.alloc _).drew)
                    ⟨wr.heap.size, 0, none⟩ 1 1 [.string (x.extract 0 (k + m))] (by rfl) (by rfl) (World.news_of_block (cs := #[.string (x.extract 0 (k + m))]) (t := 9) (fr := (0, 0)) (heap_alloc_new wr _)) (by simp [Value.oneCell'])
                    (by omega) (by simp [maxLen]; omega) hbytes (by simp; have := hbel.size; omega) (wr.heap.size + 1) (by simp) ?_; intro gg cap w1 hown1 hgrow hat hlt))
              go_wp2
              go_roundw
              case rel => exact ⟨x.extract (k + m) x.size, f - 1, l ++ [x.extract 0 (k + m)], rfl, rfl, by rw [ByteArray.size_extract]; omega, by rw [ByteArray.size_extract, List.length_append, List.length_singleton]; omega, by simpa using hown1, Lib.hid (by rw [hr.out]; simp), (hbel.alloc hbel.size _).drew.grown hgrow (by simp; have := hbel.size; omega) fun k hk => (hown.lt k hk).1⟩
              case measure => simp [strSz]; omega
        · have hr := Lib.hid (hv.out.trans (by rw [split_code hf hx Hg.out c242 c0]))
          go_wp2_with fail
          refine (get_all x 1 _ (by omega) (by omega) (by omega)).mono ?_
          rintro e w1 ⟨rfl, rfl⟩
          rw [Hg.out]
          go_wp2
          try rw [Exit.noGoto_ret]
          go_ret3
          exact ⟨_, ret3 rfl (val_bytes (by rw [hr.out])) (val_int (by rw [hr.out])), by rw [hr.out]; simpa using hown, hbel⟩
end Go.Proofs.YtedapgeabpadaaaDoor

namespace Go.Proofs.YtedapgeabpadaaaDoor
set_option linter.unusedVariables false
open Go.RowKit Pl Go.Shelf Go.PlainAid

def srA (most : Int) (left : ByteArray) (c : Int) : Array Value := #[.int .i64 most, .string left, .int .u8 c]
def pksF (L : List Pk) (ms : List Hs) : List Value := (L.zip ms).flatMap fun x => (pkA .u8 x.1 x.2).toList
/-- Packets in a slice of own memory. -/
def PksAt (B : Nat) (w : World) (v : Value) (L : List Pk) : Prop := ∃ ms : List Hs, ms.length = L.length ∧ Sl B w 45 26 v L.length (pksF L ms) ∧ ∀ (i : Nat) p m, L[i]? = some p → ms[i]? = some m → PkO B w p m
theorem PksAt.nil (B : Nat) (w : World) : PksAt B w (.slice none 0 0) [] := ⟨[], rfl, Sl.nil _ _ _ _, fun i p m h => by simp at h⟩
theorem PkO.below {B : Nat} {w w' : World} {p : Pk} {m : Hs} (h : PkO B w p m) (b : Below w.heap.size w w') : PkO B w' p m := h.same fun _ _ _ _ _ s _ => s.below b
theorem PksAt.below {B : Nat} {w w' : World} {v : Value} {L : List Pk} (h : PksAt B w v L) (b : Below w.heap.size w w') : PksAt B w' v L := by
  obtain ⟨ms, h1, h2, h3⟩ := h
  exact ⟨ms, h1, h2.below b, fun i p m x y => (h3 i p m x y).below b⟩
theorem PksAt.mono {B B' : Nat} {w : World} {v : Value} {L : List Pk} (h : PksAt B w v L) (hB : B' ≤ B) : PksAt B' w v L := by
  obtain ⟨ms, h1, h2, h3⟩ := h
  exact ⟨ms, h1, h2.mono' hB, fun i p m x y => (h3 i p m x y).mono hB⟩
theorem Sl.setR {B n size R : Nat} {w : World} {e : TypeId} {v : Value} {xs : List Value} (h : Sl B w e size v n xs) (hR : R < B) (i : Nat) (u : Value) : Sl B (w.setCell ⟨R, i, none⟩ u) e size v n xs :=
  h.set i u (fun c => by have := (h.lt R c).1; omega)
theorem PksAt.setR {B R : Nat} {w : World} {v : Value} {L : List Pk} (h : PksAt B w v L) (hR : R < B) (i : Nat) (u : Value) : PksAt B (w.setCell ⟨R, i, none⟩ u) v L := by
  obtain ⟨ms, h1, h2, h3⟩ := h
  exact ⟨ms, h1, h2.setR hR i u, fun j p m x y => (h3 j p m x y).same fun _ _ _ _ _ s _ => s.setR hR i u⟩
theorem pksF_snoc {L : List Pk} {ms : List Hs} (h : ms.length = L.length) (p : Pk) (m : Hs) : pksF (L ++ [p]) (ms ++ [m]) = pksF L ms ++ (pkA .u8 p m).toList := by
  unfold pksF
  rw [List.zip_append h.symm, List.flatMap_append]
  simp
theorem pks_cells : ∀ {L : List Pk} {ms : List Hs} {i : Nat} {p : Pk} {m : Hs}, L[i]? = some p → ms[i]? = some m → ∀ j u, (pkA .u8 p m)[j]? = some u → (pksF L ms)[i * 26 + j]? = some u := by
  intro L
  induction L with
  | nil => intro ms i p m h; simp at h
  | cons q r ih =>
    intro ms i p m h1 h2 j u hu
    cases ms with
    | nil => simp at h2
    | cons n ms =>
      have hl : (pkA .u8 q n).toList.length = 26 := rfl
      have hj : j < 26 := (Array.getElem?_eq_some_iff.1 hu).1
      show ((pkA .u8 q n).toList ++ pksF r ms)[i * 26 + j]? = some u
      cases i with
      | zero =>
        obtain rfl : q = p := by simpa using h1
        obtain rfl : n = m := by simpa using h2
        rw [Nat.zero_mul, Nat.zero_add, List.getElem?_append_left (by omega)]
        simpa using hu
      | succ i =>
        rw [List.getElem?_append_right (by omega), hl, show (i + 1) * 26 + j - 26 = i * 26 + j from by omega]
        exact ih (by simpa using h1) (by simpa using h2) j u hu
theorem info_spk : (Tryd.prog.info? 45).map (fun i => (i.zero, i.size, i.bytes)) = some (some (.agg (pkA .u8 zPk zHs)), 26, 328) := by kernel_rfl
theorem spk_fill (cs : Array Value) (z : Array Value) (h : cs.size = 26) : ∀ l : List Value, cs = l.toArray → l.length = 26 → Instr.fill (fun k => some (k * 26, 26)) ((Array.range (1 * 26)).map (z[· % z.size]!)) [(0, .agg cs)] = some cs := by
  intro l e hl
  match l, hl with
  | [a0, a1, a2, a3, a4, a5, a6, a7, a8, a9, a10, a11, a12, a13, a14, a15, a16, a17, a18, a19, a20, a21, a22, a23, a24, a25], _ =>
    subst e
    have hr : Array.range (1 * 26) = #[0, 1, 2, 3, 4, 5, 6, 7, 8, 9, 10, 11, 12, 13, 14, 15, 16, 17, 18, 19, 20, 21, 22, 23, 24, 25] := by rfl
    rw [hr]
    simp [Instr.fill, Value.cells]
/-- '[]Packet{p}', for the walk. -/
theorem wpList_spkS {ops : Array Oper} {rest : List Oper} {o : Oper} {a : Act} {w : World} {Q : Exit → Act → World → Prop} (x : Operand) (cs : Array Value) (hc : cs.size = 26)
    (hgd : o.guard = none) (ho : o.op = .buildSlice 29 1 #[(0, x)]) (hx : a.eval x = .agg cs) (Z : World) (hZ : w.alloc (.cells cs 45) = Z)
    (h : wpList Tryd.prog ops Q rest (a.put o.dst (.slice (some ⟨w.heap.size, 0, none⟩) 1 1)) Z) : wpList Tryd.prog ops Q (o :: rest) a w := by
  obtain ⟨ip, hip, hipz, hips, hipb⟩ := info_parts info_spk
  refine wpList_buildSlice hgd 29 45 1 _ ho cs ip _ Tryd.underlying29 hip hipz (by rw [hips]; decide) (by rw [hips]; decide) ?_ (by rw [hZ]; exact h)
  rw [hips]
  simp only [List.map_toArray, List.map_cons, List.map_nil, hx]
  exact spk_fill cs _ hc cs.toList (by simp) (by simpa using hc)
/-- 'out = append(out, p)', for the walk. -/
theorem wpList_spks {ops : Array Oper} {rest : List Oper} {o : Oper} {a : Act} {w : World} {Q : Exit → Act → World → Prop} (s x : Operand) (B : Nat) (v : Value) (L : List Pk) (p : Pk) (m : Hs) (b : Nat)
    (hgd : o.guard = none) (ho : o.op = .call { callee := .builtin .append, args := #[s, x], argTypes := #[29, 29] })
    (hs : a.eval s = v) (hx : a.eval x = .slice (some ⟨b, 0, none⟩) 1 1) (h : PksAt B w v L) (hp : PkO B w p m) (hb : Blk w b (pkA .u8 p m) 45) (hB : B ≤ w.heap.size) (hl : L.length ≤ 1048576)
    (hK : ∀ v' w', PksAt B w' v' (L ++ [p]) → w.grownBy w' v.ownBlock → (∀ k, v.ownBlock = some k → B ≤ k ∧ ∀ o, w.heap[k]? = some o → ∃ cur, o = .cells cur 45 (0, 0)) → wpList Tryd.prog ops Q rest (a.put o.dst v') w') :
    wpList Tryd.prog ops Q (o :: rest) a w := by
  obtain ⟨ms, h1, h2, h3⟩ := h
  obtain ⟨i1, hi1, hi1z, hi1s, hi1b⟩ := info_parts info_spk
  refine wpList_append_sl s x 29 i1 _ _ b (pkA .u8 p m) hgd ho Tryd.underlying29 hi1 hi1z hi1s hi1b rfl (by decide) rfl (fun u hu => (Array.all_eq_true'.1 (pkA_one p m)) u (Array.mem_toList_iff.1 hu)) hs hx h2 hb hB (by unfold maxLen; omega) (by omega) ?_
  intro v' w' r1 r2 r3
  have keep : ∀ (e : TypeId) (size : Nat) u n xs, Sl B w e size u n xs → e ≠ 45 → Sl B w' e size u n xs := fun e size u n xs s he => s.grown r2 fun k hk => s.ne2 h2 he k hk
  have kp : ∀ {q : Pk} {n : Hs}, PkO B w q n → PkO B w' q n := fun hq => hq.same fun e size u n xs s he => keep e size u n xs s (by rcases he with rfl | rfl | rfl | rfl <;> decide)
  refine hK v' w' ⟨ms ++ [m], by simp [h1], by rw [pksF_snoc h1, List.length_append]; exact r1, fun i q n a b => ?_⟩ r2 (fun k hk => ⟨(h2.lt k hk).1, fun o ho => h2.obj k o hk ho⟩)
  rcases Nat.lt_or_ge i L.length with c | c
  · rw [List.getElem?_append_left c] at a
    rw [List.getElem?_append_left (by omega)] at b
    exact kp (h3 i q n a b)
  · have e : i = L.length := by
      have := (List.getElem?_eq_some_iff.1 a).1
      simp at this
      omega
    subst e
    rw [List.getElem?_append_right (Nat.le_refl _), Nat.sub_self] at a
    rw [List.getElem?_append_right (by omega), h1, Nat.sub_self] at b
    simp at a b
    subst a b
    exact kp hp
theorem snew_any (most : Int) (w : World) : Calls Tryd.prog 7 #[.int .i64 most] w fun e w' => e = .returned (.pointer (some ⟨w.heap.size, 0, none⟩)) ∧ Blk w' w.heap.size (srA most ⟨#[]⟩ 0) 72 ∧ Below w.heap.size w w' := by
  have hb := Blk.new w (srA most ⟨#[]⟩ 0) 72
  have bb : Below w.heap.size w (w.alloc (.cells (srA most ⟨#[]⟩ 0) 72)) := (Below.refl _ _).alloc (Nat.le_refl _) _
  unfold srA at hb bb
  have HB := Lib.hid hb
  have BB := Lib.hid bb
  clear hb bb
  go_enter Tryd.func7, Tryd.ntmps7
  go_wp2
  go_ret
  exact ⟨rfl, HB.out, BB.out⟩
theorem sleft_any (R : Nat) (most : Int) (left : ByteArray) (c : Int) (w : World) (hb : Blk w R (srA most left c) 72) : Calls Tryd.prog 11 #[.pointer (some ⟨R, 0, none⟩)] w fun e w' => e = .returned (.string left) ∧ Below w.heap.size w w' := by
  have c1 : w.cell? ⟨R, 1, none⟩ = some (.string left) := hb.cell 1
  clear hb
  go_enter Tryd.func11, Tryd.ntmps11
  go_wp2
  go_ret
  exact ⟨rfl, Below.refl _ _⟩
theorem sfeed_stop (R : Nat) (most : Int) (left s : ByteArray) (c : Int) (w : World) (hc : c ≠ 0) (hb : Blk w R (srA most left c) 72) : Calls Tryd.prog 9 #[.pointer (some ⟨R, 0, none⟩), .string s] w fun e w' => e = .returned (.tuple #[.slice none 0 0, .int .u8 c]) ∧ Below w.heap.size w w' := by
  have c2 : w.cell? ⟨R, 2, none⟩ = some (.int .u8 c) := hb.cell 2
  have e0 : (c == 0) = false := beq_eq_false_iff_ne.2 hc
  have e1 : (c != 0) = true := by rw [bne, e0]; rfl
  clear hb hc
  go_enter Tryd.func9, Tryd.ntmps9
  go_wp2
  go_quiet (fail)
  go_wp2
  go_ret2
  exact ⟨rfl, ⟨rfl, rfl, rfl, Nat.le_refl _, fun _ _ => rfl⟩⟩
end Go.Proofs.YtedapgeabpadaaaDoor

