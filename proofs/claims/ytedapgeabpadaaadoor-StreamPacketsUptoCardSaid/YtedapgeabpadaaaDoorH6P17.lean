/- Parts of the proof, joined: Gp1, Gp2, Gp3, Gp4, Gp5, Gp6, Gp7, PkP2, TextMore, TextApp, GetC, Gp8. -/
import Derived.Test.YtedapgeabpadaaaDoorH6P16
import Derived.Test.YtedapgeabpadaaaDoorH6P3
import Derived.Test.YtedapgeabpadaaaDoorH6P1
/- Properties at a place, both ways; what is read at a place: plain. -/
namespace Go.Proofs.YtedapgeabpadaaaDoor
set_option linter.unusedVariables false
open Go.RowKit Pl Go.PlainAid

theorem getP_has {s : ByteArray} {L : List Pp} {i : Nat} (h : ppC L = 0) (hh : Has s i (ppS L).data.toList) : getP s i = (L.map nrm, ((i + (ppS L).size : Nat) : Int), 0) := by
  have h64 : ¬ 64 < L.length := by
    intro c; rw [(pp_long c).1] at h; cases h
  have hc : codK L L.length = 0 := by unfold ppC at h; rwa [if_neg h64] at h
  obtain ⟨_, hS⟩ := pp_ok h64 hc
  have hb := put_cat L L.length (Nat.le_refl _)
  rw [List.take_length] at hb
  have hm := put_small L L.length
  obtain ⟨m, hm'⟩ : ∃ m, (putK L L.length).size = m := ⟨_, rfl⟩
  have hcl : (cat L).length = m := by rw [← hb]; exact hm'
  rw [hm'] at hS hm
  have hSb : (ppS L).data.toList = enc m ++ cat L := by rw [hS, app_bytes, hb]
  have hSs : (ppS L).size = (enc m).length + m := by
    show (ppS L).data.toList.length = _
    rw [hSb, List.length_append, hcl]
  rw [hSb] at hh
  obtain ⟨g1, g2⟩ := has_append.1 hh
  have hv := getV_has (by omega) (by omega) g1
  have hw : Has s (i + (enc m).length) (⟨(cat L).toArray⟩ : ByteArray).data.toList := g2
  have hx := extract_has hw
  rw [mk_size, hcl] at hx
  have hsz := g2.1
  rw [hcl] at hsz
  have hf := pgs_fwd (s := ⟨(cat L).toArray⟩) L [] 0 66 (fun j p hp => by
    have := cod_before hc j (List.getElem?_eq_some_iff.1 hp).1 p hp
    simpa using this) (by rw [mk_size]; omega) (has_self ⟨(cat L).toArray⟩) (by simp; omega) (by omega)
  have := getP_ok (s := s) (at_ := i) (m := m) (f := i + (enc m).length) (L := L.map nrm) hv (by omega) (by rw [hx]; exact hf)
  rw [this, hSs]
  congr 2
  omega
theorem has_getP {s : ByteArray} {M : List Pp} {nx a : Int} (h : getP s a = (M, nx, 0)) : ∃ i : Nat, a = i ∧ ppC M = 0 ∧ Has s i (ppS M).data.toList ∧ nx = ((i + (ppS M).size : Nat) : Int) ∧ M.map nrm = M := by
  obtain ⟨⟨n, from_, c⟩, hg⟩ : ∃ g, getV s a = g := ⟨_, rfl⟩
  by_cases hc : c = 0
  · subst hc
    obtain ⟨i, j, rfl, rfl, _, _, _, _, _⟩ := getV_to hg
    obtain ⟨q1, q2, q3, q4⟩ := has_getV hg
    obtain ⟨m, rfl⟩ := Int.eq_ofNat_of_zero_le q3
    have hj : j = i + (enc (m : Int)).length := by omega
    subst hj
    by_cases hlt : (s.size : Int) - ((i + (enc (m : Int)).length : Nat) : Int) < m
    · rw [getP_none hg hlt] at h; injection h with _ h; injection h with _ h; cases h
    · have hm : (i + (enc (m : Int)).length) + m ≤ s.size := by omega
      obtain ⟨⟨M', c'⟩, hr⟩ : ∃ r, pgs (s.extract (i + (enc (m : Int)).length) ((i + (enc (m : Int)).length) + m)) 66 [] 0 = r := ⟨_, rfl⟩
      by_cases hc' : c' = 0
      · subst hc'
        rw [getP_ok hg hm hr] at h
        injection h with h1 h
        injection h with h2 _
        subst h1 h2
        have hsub : (s.extract (i + (enc (m : Int)).length) ((i + (enc (m : Int)).length) + m)).size = m := by rw [ByteArray.size_extract]; omega
        obtain ⟨T, hT, k2, k3, k4, k5⟩ := pgs_bwd 66 [] M' 0 hr (by omega) (by decide) (by decide)
        rw [List.nil_append] at hT
        subst hT
        have hcod := cod_all (L := M') (fun j p hp => by have := (k5 j p hp).1; simpa using this) M'.length
        obtain ⟨e1, e2⟩ := pp_ok (by omega) hcod
        have hb := put_cat M' M'.length (Nat.le_refl _)
        rw [List.take_length] at hb
        have hml : (cat M').length = m := by omega
        have hpm : (putK M' M'.length).size = m := by
          show (putK M' M'.length).data.toList.length = m
          rw [hb, hml]
        rw [hpm] at e2
        refine ⟨i, rfl, e1, ?_, ?_, ?_⟩
        · rw [e2, app_bytes, hb]
          refine has_append.2 ⟨q1, ?_⟩
          have := has_within (has_extract (s := s) (i := i + (enc (m : Int)).length) (j := i + (enc (m : Int)).length + m) hm (by omega)) k2
          rw [Nat.add_zero] at this
          exact this
        · rw [e2, ByteArray.size_append, hpm]
          have : (⟨(enc (m : Int)).toArray⟩ : ByteArray).size = (enc (m : Int)).length := rfl
          rw [this]
          omega
        · apply List.ext_getElem?
          intro j
          rw [List.getElem?_map]
          cases hj : M'[j]? with
          | none => rfl
          | some p => simp [(k5 j p hj).2]
      · rw [getP_bad hg hm hr hc'] at h; injection h with _ h; injection h with _ h; exact absurd h hc'
  · rw [getP_code hg hc] at h; injection h with _ h; injection h with _ h; exact absurd h hc
/-! What is read at a place, both ways. -/
theorem rNum_has {s : ByteArray} {i : Nat} {k n : Int} (hc : fixC k n = 0) (h : Has s i (fixS k n)) : rNum s k i = .ok (n, ((i + (fixS k n).length : Nat) : Int)) := by
  unfold rNum; rw [getF_has hc h]; simp
theorem has_rNum {s : ByteArray} {a b k n : Int} (h : rNum s k a = .ok (n, b)) : ∃ i : Nat, a = i ∧ fixC k n = 0 ∧ Has s i (fixS k n) ∧ b = ((i + (fixS k n).length : Nat) : Int) := by
  unfold rNum at h
  split at h
  · rename_i h1
    obtain ⟨⟨x, tu, c⟩, hg⟩ : ∃ g, getF s a k = g := ⟨_, rfl⟩
    rw [hg] at h1 h
    simp only at h1
    subst h1
    cases h
    obtain ⟨i, _, rfl, _⟩ := getF_to hg
    obtain ⟨e1, e2, e3⟩ := has_getF hg
    exact ⟨i, rfl, e1, e2, e3⟩
  · cases h
theorem rText_has {s t : ByteArray} {i : Nat} (hc : tputC t = 0) (h : Has s i (tputS t).data.toList) : rText s i = .ok (t, ((i + (tputS t).size : Nat) : Int)) := by
  unfold rText; rw [tget_has hc h]; simp
theorem has_rText {s t : ByteArray} {a b : Int} (h : rText s a = .ok (t, b)) : ∃ i : Nat, a = i ∧ tputC t = 0 ∧ Has s i (tputS t).data.toList ∧ b = ((i + (tputS t).size : Nat) : Int) := by
  unfold rText at h
  split at h
  · rename_i h1
    obtain ⟨⟨x, tu, c⟩, hg⟩ : ∃ g, tget s a = g := ⟨_, rfl⟩
    rw [hg] at h1 h
    simp only at h1
    subst h1
    cases h
    obtain ⟨i, _, rfl, _⟩ := getD_to (tget_getD hg).1
    obtain ⟨e1, e2, e3⟩ := has_tget hg
    exact ⟨i, rfl, e1, e2, e3⟩
  · cases h
theorem rData_has {s t : ByteArray} {i : Nat} (hc : dataC t = 0) (h : Has s i (dataS t).data.toList) : rData s i = .ok (t, ((i + (dataS t).size : Nat) : Int)) := by
  unfold rData; rw [getD_has hc h]; simp
theorem has_rData {s t : ByteArray} {a b : Int} (h : rData s a = .ok (t, b)) : ∃ i : Nat, a = i ∧ dataC t = 0 ∧ Has s i (dataS t).data.toList ∧ b = ((i + (dataS t).size : Nat) : Int) := by
  unfold rData at h
  split at h
  · rename_i h1
    obtain ⟨⟨x, tu, c⟩, hg⟩ : ∃ g, getD s a = g := ⟨_, rfl⟩
    rw [hg] at h1 h
    simp only at h1
    subst h1
    cases h
    obtain ⟨i, _, rfl, _⟩ := getD_to hg
    obtain ⟨e1, e2, e3⟩ := has_getD hg
    exact ⟨i, rfl, e1, e2, e3⟩
  · cases h
theorem okAll_nrm (k : Int) (L : List Pp) : okAll k (L.map nrm) = okAll k L := by
  unfold okAll
  congr 1
  rw [List.any_map]
  congr 1
  funext p
  simp [nrm_id]
theorem rProps_has {s : ByteArray} {k : Int} {L : List Pp} {i : Nat} (hk : okAll k L = true) (hc : ppC L = 0) (h : Has s i (ppS L).data.toList) : rProps k s i = .ok (L.map nrm, ((i + (ppS L).size : Nat) : Int)) := by
  unfold rProps
  rw [getP_has hc h]
  simp [okAll_nrm, hk]
theorem has_rProps {s : ByteArray} {k a b : Int} {L : List Pp} (h : rProps k s a = .ok (L, b)) : ∃ i : Nat, a = i ∧ okAll k L = true ∧ ppC L = 0 ∧ Has s i (ppS L).data.toList ∧ b = ((i + (ppS L).size : Nat) : Int) ∧ L.map nrm = L := by
  unfold rProps at h
  obtain ⟨⟨M, tu, c⟩, hg⟩ : ∃ g, getP s a = g := ⟨_, rfl⟩
  rw [hg] at h
  simp only at h
  by_cases h1 : c = 242
  · rw [if_pos h1] at h; cases h
  · rw [if_neg h1] at h
    by_cases h2 : c ≠ 0
    · rw [if_pos h2] at h; cases h
    · rw [if_neg h2] at h
      have h2' : c = 0 := Classical.byContradiction h2
      subst h2'
      by_cases h3 : okAll k M = false
      · rw [if_pos h3] at h; cases h
      · rw [if_neg h3] at h
        cases h
        obtain ⟨i, rfl, e1, e2, e3, e4⟩ := has_getP hg
        exact ⟨i, rfl, by simpa using h3, e1, e2, e3, e4⟩
end Go.Proofs.YtedapgeabpadaaaDoor

/- What a writer has put is what a reader reads, and back: one part: plain. -/
namespace Go.Proofs.YtedapgeabpadaaaDoor
set_option linter.unusedVariables false
open Go.RowKit Pl Go.PlainAid

theorem mix_nil {c d : Int} : mix c d = 0 ↔ c = 0 ∧ d = 0 := by
  unfold mix
  split
  · rename_i h; exact ⟨fun e => ⟨h, e⟩, fun e => e.2⟩
  · rename_i h; exact ⟨fun e => absurd e h, fun e => absurd e.1 h⟩
theorem add_zero' {o : Ot} {t : ByteArray} {d : Int} : (o.add t d).c = 0 ↔ o.c = 0 ∧ d = 0 := mix_nil
theorem fail_zero {o : Ot} {d : Int} : (o.fail d).c = 0 ↔ o.c = 0 ∧ d = 0 := mix_nil
/-- The bytes s begin with what o has put. -/
def Beg (s : ByteArray) (o : Ot) : Prop := Has s 0 o.s.data.toList
theorem beg_add {s : ByteArray} {o : Ot} {t : ByteArray} {d : Int} : Beg s (o.add t d) ↔ Beg s o ∧ Has s o.s.size t.data.toList := by
  unfold Beg Ot.add
  simp only
  rw [app_bytes]
  have := has_append (s := s) (i := 0) (l := o.s.data.toList) (r := t.data.toList)
  rw [Nat.zero_add] at this
  exact this
theorem beg_fail {s : ByteArray} {o : Ot} {d : Int} : Beg s (o.fail d) ↔ Beg s o := Iff.rfl
section
variable {s : ByteArray} {o : Ot}
theorem fwd_text {t : ByteArray} (hc : (wText o t).c = 0) (h : Beg s (wText o t)) : o.c = 0 ∧ Beg s o ∧ rText s (o.s.size : Int) = .ok (t, ((wText o t).s.size : Int)) := by
  unfold wText at hc h ⊢
  obtain ⟨h1, h2⟩ := add_zero'.1 hc
  obtain ⟨h3, h4⟩ := beg_add.1 h
  exact ⟨h1, h3, by rw [rText_has h2 h4, add_size]⟩
theorem fwd_data {t : ByteArray} (hc : (wData o t).c = 0) (h : Beg s (wData o t)) : o.c = 0 ∧ Beg s o ∧ rData s (o.s.size : Int) = .ok (t, ((wData o t).s.size : Int)) := by
  unfold wData at hc h ⊢
  obtain ⟨h1, h2⟩ := add_zero'.1 hc
  obtain ⟨h3, h4⟩ := beg_add.1 h
  exact ⟨h1, h3, by rw [rData_has h2 h4, add_size]⟩
theorem fwd_num {k n : Int} (hc : (wNum k o n).c = 0) (h : Beg s (wNum k o n)) : o.c = 0 ∧ Beg s o ∧ fixC k n = 0 ∧ rNum s k (o.s.size : Int) = .ok (n, ((wNum k o n).s.size : Int)) := by
  unfold wNum at hc h ⊢
  obtain ⟨h1, h2⟩ := add_zero'.1 hc
  obtain ⟨h3, h4⟩ := beg_add.1 h
  exact ⟨h1, h3, h2, by rw [rNum_has h2 h4, add_size]; rfl⟩
theorem fwd_id {n : Int} (hc : (wId o n).c = 0) (h : Beg s (wId o n)) : o.c = 0 ∧ Beg s o ∧ rId s (o.s.size : Int) = .ok (n, ((wId o n).s.size : Int)) := by
  unfold wId at hc h ⊢
  split at hc
  · exact absurd (fail_zero.1 hc).2 (by decide)
  · rename_i hn
    rw [if_neg hn] at h ⊢
    obtain ⟨h1, h2, _, h3⟩ := fwd_num hc h
    refine ⟨h1, h2, ?_⟩
    unfold rId
    rw [h3]
    show (if n = 0 then (Except.error 130 : RR Int) else _) = _
    rw [if_neg (by omega)]
theorem fwd_props {k : Int} {L : List Pp} (hc : (wProps k o L).c = 0) (h : Beg s (wProps k o L)) : o.c = 0 ∧ Beg s o ∧ rProps k s (o.s.size : Int) = .ok (L.map nrm, ((wProps k o L).s.size : Int)) := by
  unfold wProps at hc h ⊢
  split at hc
  · rename_i hk
    rw [if_pos hk] at h ⊢
    obtain ⟨h1, h2⟩ := add_zero'.1 hc
    obtain ⟨h3, h4⟩ := beg_add.1 h
    exact ⟨h1, h3, by rw [rProps_has hk h2 h4, add_size]⟩
  · exact absurd (fail_zero.1 hc).2 (by decide)
/-! Back. -/
theorem bwd_add {t : ByteArray} {d : Int} {i : Nat} (hi : i = o.s.size) (hd : d = 0) (h : Has s i t.data.toList) (ho : o.c = 0) (hb : Beg s o) : (o.add t d).c = 0 ∧ Beg s (o.add t d) ∧ (o.add t d).s.size = i + t.size := by
  subst hi
  exact ⟨add_zero'.2 ⟨ho, hd⟩, beg_add.2 ⟨hb, h⟩, add_size _ _ _⟩
theorem bwd_text {t : ByteArray} {b : Int} (h : rText s (o.s.size : Int) = .ok (t, b)) (ho : o.c = 0) (hb : Beg s o) : (wText o t).c = 0 ∧ Beg s (wText o t) ∧ b = ((wText o t).s.size : Int) := by
  obtain ⟨i, hi, h1, h2, h3⟩ := has_rText h
  obtain ⟨k1, k2, k3⟩ := bwd_add (t := tputS t) (d := tputC t) (by omega) h1 h2 ho hb
  exact ⟨k1, k2, by unfold wText; rw [k3]; exact h3⟩
theorem bwd_data {t : ByteArray} {b : Int} (h : rData s (o.s.size : Int) = .ok (t, b)) (ho : o.c = 0) (hb : Beg s o) : (wData o t).c = 0 ∧ Beg s (wData o t) ∧ b = ((wData o t).s.size : Int) := by
  obtain ⟨i, hi, h1, h2, h3⟩ := has_rData h
  obtain ⟨k1, k2, k3⟩ := bwd_add (t := dataS t) (d := dataC t) (by omega) h1 h2 ho hb
  exact ⟨k1, k2, by unfold wData; rw [k3]; exact h3⟩
theorem bwd_num {k n b : Int} (h : rNum s k (o.s.size : Int) = .ok (n, b)) (ho : o.c = 0) (hb : Beg s o) : (wNum k o n).c = 0 ∧ Beg s (wNum k o n) ∧ b = ((wNum k o n).s.size : Int) := by
  obtain ⟨i, hi, h1, h2, h3⟩ := has_rNum h
  obtain ⟨k1, k2, k3⟩ := bwd_add (t := ⟨(fixS k n).toArray⟩) (d := fixC k n) (by omega) h1 h2 ho hb
  exact ⟨k1, k2, by unfold wNum; rw [k3]; exact h3⟩
theorem bwd_id {n b : Int} (h : rId s (o.s.size : Int) = .ok (n, b)) (ho : o.c = 0) (hb : Beg s o) : (wId o n).c = 0 ∧ Beg s (wId o n) ∧ b = ((wId o n).s.size : Int) ∧ 1 ≤ n ∧ n ≤ 65535 := by
  unfold rId at h
  obtain ⟨r, hr⟩ : ∃ r, rNum s 2 (o.s.size : Int) = r := ⟨_, rfl⟩
  rw [hr] at h
  cases r with
  | error c => cases h
  | ok v =>
    obtain ⟨x, y⟩ := v
    simp only [bindR] at h
    split at h
    · cases h
    · rename_i hn
      cases h
      obtain ⟨k1, k2, k3⟩ := bwd_num hr ho hb
      obtain ⟨i, _, hf, _, _⟩ := has_rNum hr
      obtain ⟨k, hk, _, h0, h1⟩ := fixC_zero hf
      have hk2 : k = 2 := by omega
      subst hk2
      have h1' : n < 65536 := by simpa using h1
      unfold wId
      rw [if_neg (by omega)]
      exact ⟨k1, k2, k3, by omega, by omega⟩
theorem bwd_props {k b : Int} {L : List Pp} (h : rProps k s (o.s.size : Int) = .ok (L, b)) (ho : o.c = 0) (hb : Beg s o) : (wProps k o L).c = 0 ∧ Beg s (wProps k o L) ∧ b = ((wProps k o L).s.size : Int) ∧ L.map nrm = L := by
  obtain ⟨i, hi, h0, h1, h2, h3, h4⟩ := has_rProps h
  obtain ⟨k1, k2, k3⟩ := bwd_add (t := ppS L) (d := ppC L) (by omega) h1 h2 ho hb
  unfold wProps
  rw [if_pos h0]
  exact ⟨k1, k2, by rw [k3]; exact h3, h4⟩
end
end Go.Proofs.YtedapgeabpadaaaDoor

/- What a packet is read back as (canon), kind by kind: plain. -/
namespace Go.Proofs.YtedapgeabpadaaaDoor
set_option linter.unusedVariables false
set_option linter.unusedSimpArgs false
open Go.RowKit Pl Go.PlainAid

theorem ppS_nrm {L : List Pp} (h : ppC L = 0) : ppC (L.map nrm) = 0 ∧ ppS (L.map nrm) = ppS L := by
  have h1 := getP_has (i := 0) h (has_self (ppS L))
  obtain ⟨i, hi, h2, h3, h4, _⟩ := has_getP h1
  obtain rfl : i = 0 := by omega
  refine ⟨h2, ?_⟩
  have hs : (ppS (L.map nrm)).size = (ppS L).size := by omega
  have := extract_has h3
  rw [Nat.zero_add, hs] at this
  rw [← this]
  exact ByteArray.extract_zero_size
theorem wProps_nrm {k : Int} {o : Ot} {L : List Pp} (h : (wProps k o L).c = 0) : wProps k o (L.map nrm) = wProps k o L := by
  unfold wProps at h ⊢
  rw [okAll_nrm]
  split at h
  · rename_i hk
    obtain ⟨_, h2⟩ := add_zero'.1 h
    rw [if_pos hk, (ppS_nrm h2).1, (ppS_nrm h2).2, h2, if_pos hk]
  · exact absurd (fail_zero.1 h).2 (by decide)
def e0 : Ot := ⟨⟨#[]⟩, 0⟩
theorem beg_self (o : Ot) : Beg o.s o := has_self o.s
/-- A CONNACK. -/
def cnConnack (q : Pk) : Pk := { zPk with kind := 2, session := q.session, code := q.code, ps := q.ps.map nrm }
theorem bt1_dec (b : Bool) : decide (bt1 b 1 = 1) = b := by cases b <;> rfl
theorem fwd_connack {q : Pk} {s : ByteArray} (hc : (wConnack e0 q).c = 0) (h : Beg s (wConnack e0 q)) : rConnack s { zPk with kind := 2 } 0 = .ok (cnConnack q, ((wConnack e0 q).s.size : Int)) := by
  unfold wConnack at hc h ⊢
  obtain ⟨c1, b1, r1⟩ := fwd_props hc h
  obtain ⟨c2, b2, _, r2⟩ := fwd_num c1 b1
  obtain ⟨c3, b3, _, r3⟩ := fwd_num c2 b2
  have r3' : rNum s 1 0 = .ok (bt1 q.session 1, ((wNum 1 e0 (bt1 q.session 1)).s.size : Int)) := r3
  unfold rConnack
  rw [r3']
  simp only [bindR]
  have hb : bt1 q.session 1 < 2 := by cases q.session <;> decide
  rw [if_neg (fun c => absurd hb c), r2]
  simp only [bindR]
  rw [r1]
  simp only [bindR, bt1_dec]
  rfl
/-- A PUBLISH. -/
def cnPub (q : Pk) : Pk := { zPk with kind := 3, dup := q.dup, q := q.q, ret := q.ret, topic := q.topic, id := if 0 < q.q then q.id else 0, ps := q.ps.map nrm, payload := q.payload }
theorem beg_end {s : ByteArray} {o : Ot} {t : ByteArray} {d : Int} (h : Beg s (o.add t d)) (hs : s.size = (o.add t d).s.size) : s.extract o.s.size s.size = t := by
  have := extract_has (beg_add.1 h).2
  rw [add_size] at hs
  rw [hs]
  exact this
theorem fwd_pub {q : Pk} {s : ByteArray} (hc : (wPublish e0 q).c = 0) (h : Beg s (wPublish e0 q)) (hs : s.size = (wPublish e0 q).s.size) : rPub s { zPk with kind := 3, dup := q.dup, q := q.q, ret := q.ret } 0 = .ok (cnPub q, (s.size : Int)) := by
  unfold wPublish at hc h hs
  obtain ⟨c1, _⟩ := add_zero'.1 hc
  have hx := beg_end h hs
  have b1 := (beg_add.1 h).1
  unfold rPub cnPub
  by_cases hq : 0 < q.q
  · simp only [if_pos hq] at c1 b1 hx ⊢
    obtain ⟨c2, b2, r2⟩ := fwd_props c1 b1
    obtain ⟨c3, b3, r3⟩ := fwd_id c2 b2
    obtain ⟨c4, b4, r4⟩ := fwd_text c3 b3
    have r4' : rText s 0 = .ok (q.topic, ((wText e0 q.topic).s.size : Int)) := r4
    rw [r4']
    simp only [bindR]
    rw [r3]
    simp only [bindR]
    unfold rPayl
    rw [r2]
    simp only [bindR, Int.toNat_natCast, hx]
    try rfl
  · simp only [if_neg hq] at c1 b1 hx ⊢
    obtain ⟨c2, b2, r2⟩ := fwd_props c1 b1
    obtain ⟨c4, b4, r4⟩ := fwd_text c2 b2
    have r4' : rText s 0 = .ok (q.topic, ((wText e0 q.topic).s.size : Int)) := r4
    rw [r4']
    simp only [bindR]
    unfold rPayl
    rw [r2]
    simp only [bindR, Int.toNat_natCast, hx]
    try rfl
end Go.Proofs.YtedapgeabpadaaaDoor

/- What a packet is read back as: answers, DISCONNECT, AUTH; CONNECT: plain. -/
namespace Go.Proofs.YtedapgeabpadaaaDoor
set_option linter.unusedVariables false
set_option linter.unusedSimpArgs false
open Go.RowKit Pl Go.PlainAid

theorem getP_lt {s : ByteArray} {a : Int} (h : (getP s a).2.2 = 0) : a < (getP s a).2.1 := by
  unfold getP at h ⊢
  by_cases h1 : (getV s a).2.2 ≠ 0
  · rw [if_pos h1] at h; exact absurd h h1
  · rw [if_neg h1] at h ⊢
    by_cases h2 : (s.size : Int) - (getV s a).2.1 < (getV s a).1
    · rw [if_pos h2] at h; simp at h
    · rw [if_neg h2] at h ⊢
      obtain ⟨r, hr⟩ : ∃ r, pgs (s.extract (getV s a).2.1.toNat ((getV s a).2.1.toNat + (getV s a).1.toNat)) 66 [] 0 = r := ⟨_, rfl⟩
      rw [hr] at h ⊢
      by_cases h3 : r.2 ≠ 0
      · simp only at h; rw [if_pos h3] at h; exact absurd h h3
      · simp only
        rw [if_neg h3]
        have hc : (getV s a).2.2 = 0 := Classical.byContradiction h1
        obtain ⟨i, j, hi, hj, hij, hjs, _, hn0, hn1⟩ := getV_to (s := s) (a := a) (n := (getV s a).1) (tu := (getV s a).2.1) (Prod.ext rfl (Prod.ext rfl hc))
        simp only
        omega
theorem rProps_lt {k : Int} {s : ByteArray} {a b : Int} {L : List Pp} (h : rProps k s a = .ok (L, b)) : a < b := by
  unfold rProps at h
  by_cases h1 : (getP s a).2.2 = 242
  · rw [if_pos h1] at h; cases h
  · rw [if_neg h1] at h
    by_cases h2 : (getP s a).2.2 ≠ 0
    · rw [if_pos h2] at h; cases h
    · rw [if_neg h2] at h
      by_cases h3 : okAll k (getP s a).1 = false
      · rw [if_pos h3] at h; cases h
      · rw [if_neg h3] at h
        cases h
        exact getP_lt (Classical.byContradiction h2)
theorem rNum_lt {s : ByteArray} {k a n b : Int} (h : rNum s k a = .ok (n, b)) (hk : 0 < k) : a < b := by
  unfold rNum at h
  split at h
  · rename_i h1; cases h; have := getF_at h1; omega
  · cases h
theorem fwd_endP {p q : Pk} {s : ByteArray} {o : Ot} (hc : (wProps q.kind o q.ps).c = 0) (h : Beg s (wProps q.kind o q.ps)) (hs : s.size = (wProps q.kind o q.ps).s.size) (hk : p.kind = q.kind) :
    rEndP s p (o.s.size : Int) = .ok ({ p with ps := q.ps.map nrm }, (s.size : Int)) := by
  obtain ⟨_, _, r1⟩ := fwd_props hc h
  have hl := rProps_lt r1
  unfold rEndP
  rw [hs, if_pos hl, hk, r1]
  rfl
theorem fwd_end {p q : Pk} {s : ByteArray} {o : Ot} (hc : (wEnd o q).c = 0) (h : Beg s (wEnd o q)) (hs : s.size = (wEnd o q).s.size) (hk : p.kind = q.kind) (h0 : p.code = 0) (h1 : p.ps = []) :
    o.c = 0 ∧ Beg s o ∧ rEnd s p (o.s.size : Int) = .ok ({ p with code := q.code, ps := q.ps.map nrm }, (s.size : Int)) := by
  unfold wEnd at hc h hs
  by_cases hp : q.ps.length = 0
  · have hps : q.ps = [] := List.eq_nil_of_length_eq_zero hp
    simp only [if_pos hp] at hc h hs
    by_cases hcd : q.code = 0
    · simp only [if_pos hcd] at hc h hs
      refine ⟨hc, h, ?_⟩
      unfold rEnd rEndP
      rw [if_neg (by omega), if_neg (by omega), hps, hcd, List.map_nil, ← h0, ← h1, hs]
    · simp only [if_neg hcd] at hc h hs
      obtain ⟨c1, b1, _, r1⟩ := fwd_num hc h
      refine ⟨c1, b1, ?_⟩
      have hl := rNum_lt r1 (by decide)
      unfold rEnd
      rw [hs, if_pos hl, r1]
      simp only [bindR]
      unfold rEndP
      rw [hs, if_neg (by omega), hps, List.map_nil, ← h1]
  · simp only [if_neg hp] at hc h hs
    obtain ⟨c0, b0, r0⟩ := fwd_props hc h
    obtain ⟨c1, b1, _, r1⟩ := fwd_num c0 b0
    refine ⟨c1, b1, ?_⟩
    have hl := rNum_lt r1 (by decide)
    have hl2 := rProps_lt r0
    unfold rEnd
    rw [if_pos (by omega), r1]
    simp only [bindR]
    exact fwd_endP (p := { p with code := q.code }) hc h hs hk
/-- An answer. -/
def cnAck (q : Pk) : Pk := { zPk with kind := q.kind, id := q.id, code := q.code, ps := q.ps.map nrm }
theorem fwd_ack {q : Pk} {s : ByteArray} (hc : (wEnd (wId e0 q.id) q).c = 0) (h : Beg s (wEnd (wId e0 q.id) q)) (hs : s.size = (wEnd (wId e0 q.id) q).s.size) : rAck s { zPk with kind := q.kind } 0 = .ok (cnAck q, (s.size : Int)) := by
  obtain ⟨c1, b1, r1⟩ := fwd_end (p := { zPk with kind := q.kind, id := q.id }) hc h hs rfl rfl rfl
  obtain ⟨c2, b2, r2⟩ := fwd_id c1 b1
  have r2' : rId s 0 = .ok (q.id, ((wId e0 q.id).s.size : Int)) := r2
  unfold rAck
  rw [r2']
  simp only [bindR]
  exact r1
/-- A DISCONNECT, an AUTH. -/
def cnEnd (q : Pk) : Pk := { zPk with kind := q.kind, code := q.code, ps := q.ps.map nrm }
theorem fwd_dis {q : Pk} {s : ByteArray} (hc : (wEnd e0 q).c = 0) (h : Beg s (wEnd e0 q)) (hs : s.size = (wEnd e0 q).s.size) : rEnd s { zPk with kind := q.kind } 0 = .ok (cnEnd q, (s.size : Int)) :=
  (fwd_end (p := { zPk with kind := q.kind }) hc h hs rfl rfl rfl).2.2
end Go.Proofs.YtedapgeabpadaaaDoor

/- What a CONNECT is read back as: plain. -/
namespace Go.Proofs.YtedapgeabpadaaaDoor
set_option linter.unusedVariables false
set_option linter.unusedSimpArgs false
open Go.RowKit Pl Go.PlainAid

def wqOf (q : Pk) : Int := if q.hasWill = true then q.wq else 0
theorem flags_back {q : Pk} (hq : q.hasWill = true → 0 ≤ q.wq ∧ q.wq ≤ 2) (p : Pk) : ¬ badFl (cFlags q) ∧ cSet p (cFlags q) = { p with clean := q.clean, hasWill := q.hasWill, hasPass := q.hasPass, hasUser := q.hasUser, wq := wqOf q, wr := q.hasWill && q.wr } := by
  obtain ⟨w, hw⟩ : ∃ w, wqOf q = w := ⟨_, rfl⟩
  have hw0 : 0 ≤ w ∧ w ≤ 2 ∧ (q.hasWill = false → w = 0) := by
    rw [← hw]; unfold wqOf
    cases h : q.hasWill with
    | false => simp
    | true => simp only [if_true]; have := hq h; exact ⟨this.1, this.2, fun c => by cases c⟩
  have hf : cFlags q = bt1 q.clean 2 + bt1 q.hasPass 64 + bt1 q.hasUser 128 + (if q.hasWill = true then 4 + 8 * w + bt1 q.wr 32 else 0) := by
    unfold cFlags
    cases h : q.hasWill with
    | false => rfl
    | true =>
      have : q.wq % 4 = w := by rw [← hw]; unfold wqOf; rw [if_pos h]; have := hq h; omega
      simp only [if_true, this]
  rw [hw, hf]
  clear hf hw hq
  unfold badFl cSet
  obtain ⟨h0, h2, h3⟩ := hw0
  have hw3 : w = 0 ∨ w = 1 ∨ w = 2 := by omega
  cases q.clean <;> cases q.hasPass <;> cases q.hasUser <;> cases hW : q.hasWill <;> cases q.wr <;> rcases hw3 with rfl | rfl | rfl <;> first | (exact absurd (h3 hW) (by decide)) | (refine ⟨by decide, rfl⟩)
def cnConn (q : Pk) : Pk :=
  { zPk with kind := 1, clean := q.clean, hasWill := q.hasWill, hasPass := q.hasPass, hasUser := q.hasUser, wq := wqOf q, wr := q.hasWill && q.wr, keep := q.keep, ps := q.ps.map nrm, client := q.client, wps := if q.hasWill = true then q.wps.map nrm else [], wt := if q.hasWill = true then q.wt else ⟨#[]⟩, wp := if q.hasWill = true then q.wp else ⟨#[]⟩, user := if q.hasUser = true then q.user else ⟨#[]⟩, pass := if q.hasPass = true then q.pass else ⟨#[]⟩ }
section
variable {s : ByteArray} {o : Ot} {p q : Pk}
theorem fwd_pass (hc : (cPass o q).c = 0) (h : Beg s (cPass o q)) (hp : p.hasPass = q.hasPass) (h0 : p.pass = ⟨#[]⟩) :
    o.c = 0 ∧ Beg s o ∧ rPass s p (o.s.size : Int) = .ok ({ p with pass := if q.hasPass = true then q.pass else ⟨#[]⟩ }, ((cPass o q).s.size : Int)) := by
  unfold cPass at hc h ⊢
  unfold rPass
  by_cases hb : q.hasPass = true
  · have hb' : p.hasPass = true := hp.trans hb
    rw [if_pos hb] at hc h ⊢
    rw [if_pos hb', if_pos hb]
    obtain ⟨c1, b1, r1⟩ := fwd_data hc h
    refine ⟨c1, b1, ?_⟩
    rw [r1]; rfl
  · have hb' : ¬ p.hasPass = true := fun c => hb (hp.symm.trans c)
    rw [if_neg hb] at hc h ⊢
    rw [if_neg hb', if_neg hb]
    exact ⟨hc, h, by rw [← h0]⟩
theorem fwd_user (hc : (cPass (cUser o q) q).c = 0) (h : Beg s (cPass (cUser o q) q)) (hp : p.hasPass = q.hasPass) (hu : p.hasUser = q.hasUser) (h0 : p.pass = ⟨#[]⟩) (h1 : p.user = ⟨#[]⟩) :
    o.c = 0 ∧ Beg s o ∧ rUser s p (o.s.size : Int) = .ok ({ p with user := if q.hasUser = true then q.user else ⟨#[]⟩, pass := if q.hasPass = true then q.pass else ⟨#[]⟩ }, ((cPass (cUser o q) q).s.size : Int)) := by
  unfold rUser
  by_cases hb : q.hasUser = true
  · have hb' : p.hasUser = true := hu.trans hb
    have he : cUser o q = wText o q.user := by unfold cUser; rw [if_pos hb]
    rw [he] at hc h ⊢
    obtain ⟨c1, b1, r1⟩ := fwd_pass (p := { p with user := q.user }) hc h hp h0
    obtain ⟨c2, b2, r2⟩ := fwd_text c1 b1
    refine ⟨c2, b2, ?_⟩
    rw [if_pos hb', if_pos hb, r2]
    exact r1
  · have hb' : ¬ p.hasUser = true := fun c => hb (hu.symm.trans c)
    have he : cUser o q = o := by unfold cUser; rw [if_neg hb]
    rw [he] at hc h ⊢
    obtain ⟨c1, b1, r1⟩ := fwd_pass (p := p) hc h hp h0
    refine ⟨c1, b1, ?_⟩
    rw [if_neg hb', if_neg hb, r1, ← h1]
theorem fwd_will (hc : (cPass (cUser (cWill o q) q) q).c = 0) (h : Beg s (cPass (cUser (cWill o q) q) q)) (hp : p.hasPass = q.hasPass) (hu : p.hasUser = q.hasUser) (hw : p.hasWill = q.hasWill) (h0 : p.pass = ⟨#[]⟩) (h1 : p.user = ⟨#[]⟩) (h2 : p.wps = []) (h3 : p.wt = ⟨#[]⟩) (h4 : p.wp = ⟨#[]⟩) :
    o.c = 0 ∧ Beg s o ∧ rWill s p (o.s.size : Int) = .ok ({ p with wps := if q.hasWill = true then q.wps.map nrm else [], wt := if q.hasWill = true then q.wt else ⟨#[]⟩, wp := if q.hasWill = true then q.wp else ⟨#[]⟩, user := if q.hasUser = true then q.user else ⟨#[]⟩, pass := if q.hasPass = true then q.pass else ⟨#[]⟩ }, ((cPass (cUser (cWill o q) q) q).s.size : Int)) := by
  unfold rWill
  by_cases hb : q.hasWill = true
  · have hb' : p.hasWill = true := hw.trans hb
    have he : cWill o q = wData (wText (wProps 0 o q.wps) q.wt) q.wp := by unfold cWill; rw [if_pos hb]
    rw [he] at hc h ⊢
    obtain ⟨c1, b1, r1⟩ := fwd_user (p := { p with wps := q.wps.map nrm, wt := q.wt, wp := q.wp }) hc h hp hu h0 h1
    obtain ⟨c2, b2, r2⟩ := fwd_data c1 b1
    obtain ⟨c3, b3, r3⟩ := fwd_text c2 b2
    obtain ⟨c4, b4, r4⟩ := fwd_props c3 b3
    refine ⟨c4, b4, ?_⟩
    rw [if_pos hb', if_pos hb, if_pos hb, if_pos hb, r4]
    show bindR (rText s _) _ = _
    rw [r3]
    show bindR (rData s _) _ = _
    rw [r2]
    exact r1
  · have hb' : ¬ p.hasWill = true := fun c => hb (hw.symm.trans c)
    have he : cWill o q = o := by unfold cWill; rw [if_neg hb]
    rw [he] at hc h ⊢
    obtain ⟨c1, b1, r1⟩ := fwd_user (p := p) hc h hp hu h0 h1
    refine ⟨c1, b1, ?_⟩
    rw [if_neg hb', if_neg hb, if_neg hb, if_neg hb, r1]
    congr 3
theorem wQos_zero {n : Int} (h : (wQos o n).c = 0) : o.c = 0 ∧ 0 ≤ n ∧ n ≤ 2 ∧ wQos o n = o := by
  unfold wQos at h ⊢
  split at h
  · exact absurd (fail_zero.1 h).2 (by decide)
  · rename_i hn
    rw [if_neg hn]
    exact ⟨h, by omega, by omega, rfl⟩
theorem fwd_conn (hc : (wConnect e0 q).c = 0) (h : Beg s (wConnect e0 q)) : rConn s { zPk with kind := 1 } 0 = .ok (cnConn q, ((wConnect e0 q).s.size : Int)) := by
  unfold wConnect at hc h ⊢
  have hwill := fwd_will (p := { zPk with kind := 1, clean := q.clean, hasWill := q.hasWill, hasPass := q.hasPass, hasUser := q.hasUser, wq := wqOf q, wr := q.hasWill && q.wr, keep := q.keep, ps := q.ps.map nrm, client := q.client }) hc h rfl rfl rfl rfl rfl rfl rfl rfl
  obtain ⟨c1, b1, r1⟩ := hwill
  unfold cHead at c1 b1 r1 ⊢
  obtain ⟨c2, b2, r2⟩ := fwd_text c1 b1
  obtain ⟨c3, b3, r3⟩ := fwd_props c2 b2
  obtain ⟨c4, b4, _, r4⟩ := fwd_num c3 b3
  obtain ⟨c5, b5, _, r5⟩ := fwd_num c4 b4
  obtain ⟨x, hx⟩ : ∃ x, (if q.hasWill = true then wQos (wNum 1 (wText e0 name5) 5) q.wq else wNum 1 (wText e0 name5) 5) = x := ⟨_, rfl⟩
  have hxx : x = wNum 1 (wText e0 name5) 5 ∧ (q.hasWill = true → 0 ≤ q.wq ∧ q.wq ≤ 2) := by
    rw [hx] at c5
    cases hb : q.hasWill with
    | true =>
      rw [if_pos hb] at hx
      subst hx
      obtain ⟨k1, k2, k3, k4⟩ := wQos_zero c5
      exact ⟨k4, fun _ => ⟨k2, k3⟩⟩
    | false =>
      rw [if_neg (by rw [hb]; decide)] at hx
      exact ⟨hx.symm, fun c => by cases c⟩
  rw [hx, hxx.1] at c5 b5 r5
  obtain ⟨c6, b6, _, r6⟩ := fwd_num c5 b5
  obtain ⟨c7, b7, r7⟩ := fwd_text c6 b6
  obtain ⟨f1, f2⟩ := flags_back hxx.2 { zPk with kind := 1 }
  rw [hx, hxx.1] at r1 r2 r3 r4 ⊢
  have r7' : rText s 0 = .ok (name5, ((wText e0 name5).s.size : Int)) := r7
  unfold rConn
  rw [r7']
  simp only [bindR]
  rw [if_neg (fun c => c rfl), r6]
  simp only [bindR]
  rw [if_neg (fun c => c rfl), r5]
  simp only [bindR]
  rw [if_neg f1, f2]
  unfold rKeep
  rw [r4]
  simp only [bindR]
  rw [r3]
  simp only [bindR]
  rw [r2]
  simp only [bindR]
  exact r1
end
end Go.Proofs.YtedapgeabpadaaaDoor

/- What lists are read back as: plain. -/
namespace Go.Proofs.YtedapgeabpadaaaDoor
set_option linter.unusedVariables false
set_option linter.unusedSimpArgs false
open Go.RowKit Pl Go.PlainAid

section
variable {s : ByteArray}
theorem beg_le {o : Ot} (h : Beg s o) : o.s.size ≤ s.size := by have := h.1; have e : o.s.data.toList.length = o.s.size := rfl; omega
theorem rItems_stop {f : Nat} {p : Pk} {a : Int} (h : ¬ a < s.size) : rItems s f p a = .ok (p, a) := by
  cases f with
  | zero => show (if a < (s.size : Int) then (.error 149 : RR Pk) else .ok (p, a)) = _; rw [if_neg h]
  | succ f => show (if a < (s.size : Int) then bindR (rItem s p a) fun p a => rItems s f p a else .ok (p, a)) = _; rw [if_neg h]
theorem rItems_step {f : Nat} {p : Pk} {a : Int} (h : a < s.size) : rItems s (f + 1) p a = bindR (rItem s p a) fun p a => rItems s f p a := by
  show (if a < (s.size : Int) then bindR (rItem s p a) fun p a => rItems s f p a else .ok (p, a)) = _; rw [if_pos h]
theorem fwd_items {α : Type} (W : Ot → α → Ot) (add : Pk → α → Pk) (P : Pk → Prop)
    (hW : ∀ o x, (W o x).c = 0 → Beg s (W o x) → o.c = 0 ∧ Beg s o ∧ o.s.size < (W o x).s.size ∧ ∀ p, P p → rItem s p (o.s.size : Int) = .ok (add p x, ((W o x).s.size : Int))) (hP : ∀ p x, P p → P (add p x)) :
    ∀ (l : List α) (o : Ot) (f : Nat) (p : Pk), P p → l.length ≤ f → (l.foldl W o).c = 0 → Beg s (l.foldl W o) → s.size = (l.foldl W o).s.size → o.c = 0 ∧ Beg s o ∧ rItems s f p (o.s.size : Int) = .ok (l.foldl add p, (s.size : Int))
  | [], o, f, p, _, _, hc, hb, hs => by
    simp only [List.foldl_nil] at hc hb hs ⊢
    exact ⟨hc, hb, by rw [rItems_stop (by omega), hs]⟩
  | x :: l, o, f, p, hp, hl, hc, hb, hs => by
    simp only [List.foldl_cons, List.length_cons] at hc hb hs hl ⊢
    obtain ⟨f, rfl⟩ : ∃ g, f = g + 1 := ⟨f - 1, by omega⟩
    obtain ⟨c1, b1, r1⟩ := fwd_items W add P hW hP l (W o x) f (add p x) (hP p x hp) (by omega) hc hb hs
    obtain ⟨c2, b2, hlt, r2⟩ := hW o x c1 b1
    have := beg_le b1
    refine ⟨c2, b2, ?_⟩
    rw [rItems_step (by omega), r2 p hp]
    exact r1
theorem wSome_zero {o : Ot} {n : Int} (h : (wSome o n).c = 0) : o.c = 0 ∧ n ≠ 0 ∧ n ≤ 64 ∧ wSome o n = o := by
  unfold wSome at h ⊢
  split at h
  · exact absurd (fail_zero.1 h).2 (by decide)
  · rename_i h0
    split at h
    · exact absurd (fail_zero.1 h).2 (by decide)
    · rename_i h1
      rw [if_neg h0, if_neg h1]
      exact ⟨h, h0, by omega, rfl⟩
theorem foldl_c {α : Type} {W : Ot → α → Ot} (hW : ∀ o x, (W o x).c = 0 → o.c = 0) : ∀ (l : List α) (o : Ot), (l.foldl W o).c = 0 → o.c = 0
  | [], o, h => h
  | x :: l, o, h => hW o x (foldl_c hW l (W o x) h)
theorem fwd_sub {o : Ot} {x : Sb} (hc : (wSub o x).c = 0) (h : Beg s (wSub o x)) : o.c = 0 ∧ Beg s o ∧ o.s.size < (wSub o x).s.size ∧ rSub s (o.s.size : Int) = .ok (x, ((wSub o x).s.size : Int)) := by
  unfold wSub at hc h ⊢
  obtain ⟨c1, b1, _, r1⟩ := fwd_num hc h
  have hl1 := rNum_lt r1 (by decide)
  obtain ⟨c2, h0, h1, e2⟩ := wQos_zero c1
  rw [e2] at c1 b1 r1 hl1 ⊢
  obtain ⟨c3, q0, q1, e3⟩ := wQos_zero c2
  rw [e3] at b1 r1 hl1 ⊢
  obtain ⟨c4, b4, r4⟩ := fwd_text c3 b1
  have hat := rText_at r4
  refine ⟨c4, b4, by omega, ?_⟩
  unfold rSub
  rw [r4]
  simp only [bindR]
  rw [r1]
  simp only [bindR]
  obtain ⟨f, q, nl, ap, hh⟩ := x
  simp only [sByte] at *
  have hq3 : q = 0 ∨ q = 1 ∨ q = 2 := by omega
  have hh3 : hh = 0 ∨ hh = 1 ∨ hh = 2 := by omega
  rcases hq3 with rfl | rfl | rfl <;> rcases hh3 with rfl | rfl | rfl <;> cases nl <;> cases ap <;> rfl
end
end Go.Proofs.YtedapgeabpadaaaDoor

/- What packets with lists are read back as: plain. -/
namespace Go.Proofs.YtedapgeabpadaaaDoor
set_option linter.unusedVariables false
set_option linter.unusedSimpArgs false
open Go.RowKit Pl Go.PlainAid

theorem nmb_c {k n : Int} {o : Ot} (h : (wNum k o n).c = 0) : o.c = 0 := by unfold wNum at h; exact (add_zero'.1 h).1
theorem txt_c {t : ByteArray} {o : Ot} (h : (wText o t).c = 0) : o.c = 0 := by unfold wText at h; exact (add_zero'.1 h).1
section
variable {s : ByteArray}
theorem getD_lt {a : Int} (h : (getD s a).2.2 = 0) : a < (getD s a).2.1 := by
  rcases getF_two s a with hf | hf | ⟨b, m, rfl, hf, hm, hb⟩
  · unfold getD at h; rw [hf] at h; simp at h
  · unfold getD at h; rw [hf] at h; simp at h
  · unfold getD at h ⊢
    rw [hf] at h ⊢
    simp only [ne_eq, not_true_eq_false, if_false] at h ⊢
    split at h
    · simp at h
    · rename_i h2
      rw [if_neg h2]
      show (b : Int) < ((b + 2 : Nat) : Int) + (m : Int)
      omega
theorem rText_lt {a b : Int} {t : ByteArray} (h : rText s a = .ok (t, b)) : a < b := by
  unfold rText at h
  split at h
  · rename_i h0; cases h
    unfold tget at h0 ⊢
    split at h0
    · rename_i h1; exact absurd h0 h1
    · rename_i h1
      split at h0
      · simp at h0
      · rename_i h2
        rw [if_neg h1, if_neg h2]
        exact getD_lt h0
  · cases h
theorem fwd_listsG {α : Type} (W : Ot → α → Ot) (add : Pk → α → Pk) (P : Pk → Prop)
    (hW : ∀ o x, (W o x).c = 0 → Beg s (W o x) → o.c = 0 ∧ Beg s o ∧ o.s.size < (W o x).s.size ∧ ∀ p, P p → rItem s p (o.s.size : Int) = .ok (add p x, ((W o x).s.size : Int))) (hP : ∀ p x, P p → P (add p x))
    (q : Pk) (l : List α) (hp : P { zPk with kind := q.kind, id := q.id, ps := q.ps.map nrm }) (hl : l.length ≤ 64) (hne : l.length ≠ 0)
    (hc : (l.foldl W (wProps q.kind (wId e0 q.id) q.ps)).c = 0) (hb : Beg s (l.foldl W (wProps q.kind (wId e0 q.id) q.ps))) (hs : s.size = (l.foldl W (wProps q.kind (wId e0 q.id) q.ps)).s.size) :
    rLists s { zPk with kind := q.kind } 0 = .ok (l.foldl add { zPk with kind := q.kind, id := q.id, ps := q.ps.map nrm }, (s.size : Int)) := by
  obtain ⟨c1, b1, r1⟩ := fwd_items W add P hW hP l _ 64 _ hp hl hc hb hs
  have hlt : ((wProps q.kind (wId e0 q.id) q.ps).s.size : Int) < s.size := by
    cases l with
    | nil => exact absurd rfl hne
    | cons x l =>
      obtain ⟨c4, b4, _⟩ := fwd_items W add P hW hP l (W _ x) 64 _ (hP _ x hp) (by simp only [List.length_cons] at hl; omega) hc hb hs
      obtain ⟨_, _, h4, _⟩ := hW _ x c4 b4
      have := beg_le b4
      omega
  obtain ⟨c2, b2, r2⟩ := fwd_props c1 b1
  obtain ⟨c3, b3, r3⟩ := fwd_id c2 b2
  have r3' : rId s 0 = .ok (q.id, ((wId e0 q.id).s.size : Int)) := r3
  unfold rLists
  rw [r3']
  simp only [bindR]
  rw [r2]
  simp only [bindR]
  rw [if_pos hlt]
  exact r1
theorem add_subs : ∀ (l : List Sb) (p : Pk), l.foldl (fun p x => { p with subs := p.subs ++ [x] }) p = { p with subs := p.subs ++ l }
  | [], p => by simp
  | x :: l, p => by rw [List.foldl_cons, add_subs l]; simp
theorem add_filters : ∀ (l : List ByteArray) (p : Pk), l.foldl (fun p x => { p with filters := p.filters ++ [x] }) p = { p with filters := p.filters ++ l }
  | [], p => by simp
  | x :: l, p => by rw [List.foldl_cons, add_filters l]; simp
theorem add_codes : ∀ (l : List Int) (p : Pk), l.foldl (fun p x => { p with codes := p.codes ++ [x] }) p = { p with codes := p.codes ++ l }
  | [], p => by simp
  | x :: l, p => by rw [List.foldl_cons, add_codes l]; simp
def cnLists (q : Pk) : Pk :=
  if q.kind = 8 then { zPk with kind := q.kind, id := q.id, ps := q.ps.map nrm, subs := q.subs }
  else if q.kind = 10 then { zPk with kind := q.kind, id := q.id, ps := q.ps.map nrm, filters := q.filters }
  else { zPk with kind := q.kind, id := q.id, ps := q.ps.map nrm, codes := q.codes }
theorem fwd_lists {q : Pk} (hc : (wLists e0 q).c = 0) (h : Beg s (wLists e0 q)) (hs : s.size = (wLists e0 q).s.size) : rLists s { zPk with kind := q.kind } 0 = .ok (cnLists q, (s.size : Int)) := by
  unfold wLists at hc h hs
  unfold cnLists
  by_cases h8 : q.kind = 8
  · rw [if_pos h8] at hc h hs ⊢
    unfold wSubs at hc h hs
    obtain ⟨_, n0, n1, e1⟩ := wSome_zero (foldl_c (fun o x hx => by
      unfold wSub at hx
      have a := nmb_c hx
      exact (wQos_zero (wQos_zero a).1).1 |> txt_c) _ _ hc)
    rw [e1, List.take_of_length_le (by omega)] at hc h hs
    rw [fwd_listsG wSub (fun p x => { p with subs := p.subs ++ [x] }) (fun p => p.kind = 8) (fun o x hx bx => by
      obtain ⟨a1, a2, a3, a4⟩ := fwd_sub hx bx
      refine ⟨a1, a2, a3, fun p hp => ?_⟩
      unfold rItem
      rw [if_pos hp, a4]
      rfl) (fun p x hp => hp) q q.subs h8 (by omega) (by omega) hc h hs, add_subs]
    rfl
  · rw [if_neg h8] at hc h hs ⊢
    by_cases h10 : q.kind = 10
    · rw [if_pos h10] at hc h hs ⊢
      unfold wFilters at hc h hs
      obtain ⟨_, n0, n1, e1⟩ := wSome_zero (foldl_c (fun o x hx => txt_c hx) _ _ hc)
      rw [e1, List.take_of_length_le (by omega)] at hc h hs
      rw [fwd_listsG wText (fun p x => { p with filters := p.filters ++ [x] }) (fun p => p.kind = 10) (fun o x hx bx => by
        obtain ⟨a1, a2, a4⟩ := fwd_text hx bx
        have hat := rText_lt a4
        refine ⟨a1, a2, by omega, fun p hp => ?_⟩
        unfold rItem
        rw [if_neg (by omega), if_pos hp, a4]
        rfl) (fun p x hp => hp) q q.filters h10 (by omega) (by omega) hc h hs, add_filters]
      rfl
    · rw [if_neg h10] at hc h hs ⊢
      unfold wCodes at hc h hs
      obtain ⟨_, n0, n1, e1⟩ := wSome_zero (foldl_c (fun o x hx => nmb_c hx) _ _ hc)
      rw [e1] at hc h hs
      rw [fwd_listsG (wNum 1) (fun p x => { p with codes := p.codes ++ [x] }) (fun p => p.kind ≠ 8 ∧ p.kind ≠ 10) (fun o x hx bx => by
        obtain ⟨a1, a2, _, a4⟩ := fwd_num hx bx
        have hat := rNum_lt a4 (by decide)
        refine ⟨a1, a2, by omega, fun p hp => ?_⟩
        unfold rItem
        rw [if_neg hp.1, if_neg hp.2, a4]
        rfl) (fun p x hp => hp) q q.codes ⟨h8, h10⟩ (by omega) (by omega) hc h hs, add_codes]
      rfl
end
end Go.Proofs.YtedapgeabpadaaaDoor

/- The document's bytes of a packet are the program's: plain. -/
namespace Go.Proofs.YtedapgeabpadaaaDoor
set_option linter.unusedVariables false
open Go.RowKit Pl

def wBody' (o : Ot) (p : Pk) : Ot :=
  if p.kind = 1 then wConnect o p else if p.kind = 2 then wConnack o p else if p.kind = 3 then wPublish o p
  else if p.kind = 4 ∨ p.kind = 5 ∨ p.kind = 6 ∨ p.kind = 7 then wEnd (wId o p.id) p
  else if p.kind = 14 ∨ p.kind = 15 then wEnd o p
  else if p.kind = 8 ∨ p.kind = 9 ∨ p.kind = 10 ∨ p.kind = 11 then wLists' o p else o
def wAll' (p : Pk) : Ot := wBody' (wHead p) p
theorem fold_c : ∀ (l : List Int) (o : Ot), o.c ≠ 0 → (l.foldl (wNum 1) o).c = o.c
  | [], o, h => rfl
  | x :: l, o, h => by
    have e : (wNum 1 o x).c = o.c := by
      show mix o.c _ = o.c
      unfold mix
      rw [if_neg h]
    show (l.foldl (wNum 1) (wNum 1 o x)).c = o.c
    rw [fold_c l _ (by rw [e]; exact h), e]
theorem codes_same (o : Ot) (l : List Int) : (wCodes' o l).c = (wCodes o l).c ∧ ((wCodes o l).c = 0 → wCodes' o l = wCodes o l) := by
  by_cases h : l.length ≤ 64
  · have e : wCodes' o l = wCodes o l := by unfold wCodes' wCodes; rw [List.take_of_length_le h]
    exact ⟨by rw [e], fun _ => e⟩
  · have hc : (wSome o l.length).c ≠ 0 := by
      unfold wSome
      rw [if_neg (by omega), if_pos (by omega)]
      show mix o.c 149 ≠ 0
      unfold mix
      split
      · decide
      · assumption
    have e1 : (wCodes' o l).c = (wSome o l.length).c := fold_c _ _ hc
    have e2 : (wCodes o l).c = (wSome o l.length).c := fold_c _ _ hc
    exact ⟨by rw [e1, e2], fun h0 => absurd (e2.symm.trans h0) hc⟩
theorem all_same (p : Pk) : (wAll' p).c = (wAll p).c ∧ ((wAll p).c = 0 → wAll' p = wAll p) := by
  unfold wAll' wAll wBody' wBody
  split
  · exact ⟨rfl, fun _ => rfl⟩
  split
  · exact ⟨rfl, fun _ => rfl⟩
  split
  · exact ⟨rfl, fun _ => rfl⟩
  split
  · exact ⟨rfl, fun _ => rfl⟩
  split
  · exact ⟨rfl, fun _ => rfl⟩
  split
  · unfold wLists' wLists
    split
    · exact ⟨rfl, fun _ => rfl⟩
    split
    · exact ⟨rfl, fun _ => rfl⟩
    exact codes_same _ _
  · exact ⟨rfl, fun _ => rfl⟩
/-- The document's flags: a Publish's QoS whole. -/
def pFlags' (p : Pk) : Int := if p.kind = 3 then bt1 p.dup 8 + 2 * p.q + bt1 p.ret 1 else kFlags p.kind
theorem mix_zero {c d : Int} (h : mix c d = 0) : c = 0 ∧ d = 0 := by
  unfold mix at h
  split at h
  · exact ⟨by assumption, h⟩
  · exact ⟨h, absurd h (by assumption)⟩
theorem num_c {k : Int} {o : Ot} {n : Int} (h : (wNum k o n).c = 0) : o.c = 0 ∧ fixC k n = 0 := mix_zero h
theorem text_c {o : Ot} {t : ByteArray} (h : (wText o t).c = 0) : o.c = 0 ∧ tputC t = 0 := mix_zero h
theorem data_c {o : Ot} {t : ByteArray} (h : (wData o t).c = 0) : o.c = 0 ∧ dataC t = 0 := mix_zero h
theorem add_c {o : Ot} {t : ByteArray} {d : Int} (h : (o.add t d).c = 0) : o.c = 0 ∧ d = 0 := mix_zero h
theorem fail_c {o : Ot} {d : Int} (h : (o.fail d).c = 0) : o.c = 0 ∧ d = 0 := mix_zero h
theorem qos_c {o : Ot} {n : Int} (h : (wQos o n).c = 0) : o.c = 0 ∧ 0 ≤ n ∧ n ≤ 2 ∧ wQos o n = o := by
  by_cases hn : n < 0 ∨ 2 < n
  · unfold wQos at h
    rw [if_pos hn] at h
    exact absurd (fail_c h).2 (by decide)
  · have e : wQos o n = o := by unfold wQos; rw [if_neg hn]
    exact ⟨by rw [e] at h; exact h, by omega, by omega, e⟩
theorem id_c {o : Ot} {n : Int} (h : (wId o n).c = 0) : o.c = 0 ∧ 1 ≤ n ∧ n ≤ 65535 ∧ wId o n = wNum 2 o n := by
  by_cases hn : n < 1 ∨ 65535 < n
  · unfold wId at h
    rw [if_pos hn] at h
    exact absurd (fail_c h).2 (by decide)
  · have e : wId o n = wNum 2 o n := by unfold wId; rw [if_neg hn]
    exact ⟨(num_c (by rw [← e]; exact h)).1, by omega, by omega, e⟩
theorem props_c {k : Int} {o : Ot} {L : List Pp} (h : (wProps k o L).c = 0) : o.c = 0 ∧ ppC L = 0 ∧ okAll k L = true ∧ wProps k o L = o.add (ppS L) (ppC L) := by
  by_cases hn : okAll k L = true
  · have e : wProps k o L = o.add (ppS L) (ppC L) := by unfold wProps; rw [if_pos hn]
    rw [e] at h
    exact ⟨(add_c h).1, (add_c h).2, hn, e⟩
  · unfold wProps at h
    rw [if_neg hn] at h
    exact absurd (fail_c h).2 (by decide)
theorem some_c {o : Ot} {n : Int} (h : (wSome o n).c = 0) : o.c = 0 ∧ n ≠ 0 ∧ n ≤ 64 ∧ wSome o n = o := by
  by_cases h0 : n = 0
  · unfold wSome at h
    rw [if_pos h0] at h
    exact absurd (fail_c h).2 (by decide)
  · by_cases h1 : 64 < n
    · unfold wSome at h
      rw [if_neg h0, if_pos h1] at h
      exact absurd (fail_c h).2 (by decide)
    · have e : wSome o n = o := by unfold wSome; rw [if_neg h0, if_neg h1]
      exact ⟨by rw [e] at h; exact h, h0, by omega, e⟩
/-- A Publish without a code has a QoS. -/
theorem publish_q {p : Pk} (h3 : p.kind = 3) (h : (wAll p).c = 0) : 0 ≤ p.q ∧ p.q ≤ 2 ∧ (p.dup = true → p.q ≠ 0) := by
  unfold wAll wBody at h
  rw [if_neg (by omega), if_neg (by omega), if_pos h3] at h
  unfold wPublish at h
  have h1 := (props_c (add_c h).1).1
  have h2 : (wText (wHead p) p.topic).c = 0 := by
    split at h1
    · exact (id_c h1).1
    · exact h1
  have h4 := (text_c h2).1
  unfold wHead at h4
  rw [if_pos h3] at h4
  split at h4
  · exact absurd (fail_c h4).2 (by decide)
  · rename_i hd
    obtain ⟨_, q0, q1, _⟩ := qos_c h4
    exact ⟨q0, q1, fun hdt hq => hd ⟨hdt, hq⟩⟩
theorem flags_same {p : Pk} (h : (wAll p).c = 0) : pFlags' p = pFlags p := by
  unfold pFlags' pFlags
  split
  · rename_i h3
    obtain ⟨q0, q1, _⟩ := publish_q h3 h
    have : p.q % 4 = p.q := Int.emod_eq_of_lt q0 (by omega)
    rw [this]
  · rfl
end Go.Proofs.YtedapgeabpadaaaDoor

/- Plain facts: a character hangs on its own bytes alone; cuts are texts; texts joined; no program in sight. -/
namespace Go.Proofs.YtedapgeabpadaaaDoor.Pl
open Go.PlainAid (bt bt_nonneg bt_le get_bt bt_end)

theorem tl_same {s s' : ByteArray} {a a' : Nat} (h : a < s.size) (h' : a' < s'.size) (hb : bt s' a' = bt s a) (lo hi : Int) : tl s' a' lo hi = tl s a lo hi := by
  unfold tl
  rw [hb]
  simp [h, h']
/-- A character hangs on its own bytes alone. -/
theorem nx_local {s s' : ByteArray} {a a' : Nat} (h : nx s a ≠ 0) (hb : ∀ k, k < nx s a → a' + k < s'.size ∧ bt s' (a' + k) = bt s (a + k)) : nx s' a' = nx s a := by
  have hle := nx_le s a h
  have h0 := (hb 0 (by omega))
  rw [Nat.add_zero, Nat.add_zero] at h0
  have hle' := hle
  unfold nx at h hle' hb
  by_cases c1 : 1 ≤ bt s a ∧ bt s a ≤ 127
  · unfold nx
    rw [h0.2, if_pos c1, if_pos c1]
  · rw [if_neg c1] at h hle' hb
    by_cases c2 : 194 ≤ bt s a ∧ bt s a ≤ 223 ∧ tl s (a + 1) 128 191 = true
    · rw [if_pos c2] at h hle' hb
      have h1 := hb 1 (by omega)
      have e1 := fun lo hi => tl_same (show a + 1 < s.size by omega) h1.1 h1.2 lo hi
      unfold nx
      rw [h0.2, if_neg c1, if_neg c1, e1, if_pos c2, if_pos c2]
    · rw [if_neg c2] at h hle' hb
      by_cases c3 : 224 ≤ bt s a ∧ bt s a ≤ 239 ∧ tl s (a + 1) 128 191 = true ∧ tl s (a + 2) 128 191 = true
      · rw [if_pos c3] at h hle' hb
        by_cases d3 : (bt s a = 224 ∧ tl s (a + 1) 160 191 = false) ∨ (bt s a = 237 ∧ tl s (a + 1) 128 159 = false)
        · rw [if_pos d3] at h; exact absurd rfl h
        · rw [if_neg d3] at hle' hb
          have h1 := hb 1 (by omega)
          have h2 := hb 2 (by omega)
          have e1 := fun lo hi => tl_same (show a + 1 < s.size by omega) h1.1 h1.2 lo hi
          have e2 := fun lo hi => tl_same (show a + 2 < s.size by omega) h2.1 h2.2 lo hi
          unfold nx
          rw [h0.2, e1, e1, e1, e2, if_neg c1, if_neg c1, if_neg c2, if_neg c2, if_pos c3, if_pos c3]
      · rw [if_neg c3] at h hle' hb
        by_cases c4 : 240 ≤ bt s a ∧ bt s a ≤ 244 ∧ tl s (a + 1) 128 191 = true ∧ tl s (a + 2) 128 191 = true ∧ tl s (a + 3) 128 191 = true
        · rw [if_pos c4] at h hle' hb
          by_cases d4 : (bt s a = 240 ∧ tl s (a + 1) 144 191 = false) ∨ (bt s a = 244 ∧ tl s (a + 1) 128 143 = false)
          · rw [if_pos d4] at h; exact absurd rfl h
          · rw [if_neg d4] at hle' hb
            have h1 := hb 1 (by omega)
            have h2 := hb 2 (by omega)
            have h3 := hb 3 (by omega)
            have e1 := fun lo hi => tl_same (show a + 1 < s.size by omega) h1.1 h1.2 lo hi
            have e2 := fun lo hi => tl_same (show a + 2 < s.size by omega) h2.1 h2.2 lo hi
            have e3 := fun lo hi => tl_same (show a + 3 < s.size by omega) h3.1 h3.2 lo hi
            unfold nx
            simp only [h0.2, e1, e2, e3]
        · rw [if_neg c4] at h; exact absurd rfl h

theorem bt_extract (s : ByteArray) {a p : Nat} (h : a < p) (hp : p ≤ s.size) : bt (s.extract 0 p) a = bt s a := by
  have hs : s.size = s.data.size := rfl
  rw [← get!_bt, ← get!_bt]
  congr 2
  show (s.extract 0 p).data[a]! = s.data[a]!
  rw [ByteArray.data_extract, getElem!_pos (s.data.extract 0 p) a (by rw [Array.size_extract]; omega), getElem!_pos s.data a (by omega), Array.getElem_extract]
  congr 1
  omega
theorem size_cut (s : ByteArray) {p : Nat} (hp : p ≤ s.size) : (s.extract 0 p).size = p := by rw [ByteArray.size_extract]; omega
/-- A character that lies whole in a beginning is a character there. -/
theorem nx_pre {s : ByteArray} {a p : Nat} (hp : p ≤ s.size) (h : nx s a ≠ 0) (ha : a + nx s a ≤ p) : nx (s.extract 0 p) a = nx s a :=
  nx_local h fun k hk => ⟨by rw [size_cut s hp]; omega, bt_extract s (by omega) hp⟩
/-- A character of a beginning is one of the whole. -/
theorem nx_of_pre {s : ByteArray} {a p : Nat} (hp : p ≤ s.size) (h : nx (s.extract 0 p) a ≠ 0) : nx s a = nx (s.extract 0 p) a := by
  have hle := nx_le _ _ h
  rw [size_cut s hp] at hle
  exact nx_local h fun k hk => ⟨by omega, (bt_extract s (by omega) hp).symm⟩

theorem cutP_ge (s : ByteArray) (most : Int) : ∀ (f a : Nat), a ≤ cutP s most f a := by
  intro f
  induction f with
  | zero => intro a; exact Nat.le_refl _
  | succ f ih =>
    intro a
    unfold cutP
    split
    · exact Nat.le_refl _
    · have := ih (a + nx s a); omega
theorem cutP_most (s : ByteArray) (most : Int) : ∀ (f a : Nat), (cutP s most f a : Int) ≤ max (a : Int) most := by
  intro f
  induction f with
  | zero => intro a; exact Int.le_max_left _ _
  | succ f ih =>
    intro a
    unfold cutP
    split
    · exact Int.le_max_left _ _
    · rename_i hc
      have := ih (a + nx s a)
      omega
/-- Where the cut ends, the longest beginning does: nothing stands behind, or no character, or one too many. -/
theorem cutP_stop (s : ByteArray) (most : Int) : ∀ (f a : Nat), s.size ≤ a + f → s.size ≤ cutP s most f a ∨ nx s (cutP s most f a) = 0 ∨ most < (cutP s most f a : Int) + nx s (cutP s most f a) := by
  intro f
  induction f with
  | zero => intro a h; exact .inl (by unfold cutP; omega)
  | succ f ih =>
    intro a h
    unfold cutP
    split
    · assumption
    · rename_i hc
      exact ih _ (by have : nx s a ≠ 0 := fun h0 => hc (.inr (.inl h0)); omega)
/-- A beginning up tu a place that the cut goes through has no fault ahead of it; and if it has none at all, none from the cut on. -/
theorem flt_cut (s : ByteArray) (most : Int) : ∀ (f a q g : Nat), cutP s most f a ≤ q → q ≤ s.size → a ≤ s.size → q ≤ a + g →
    ∃ g', q ≤ cutP s most f a + g' ∧ flt (s.extract 0 q) g a = flt (s.extract 0 q) g' (cutP s most f a) := by
  intro f
  induction f with
  | zero => intro a q g h1 h2 h3 h4; exact ⟨g, h4, rfl⟩
  | succ f ih =>
    intro a q g h1 h2 h3 h4
    by_cases hc : s.size ≤ a ∨ nx s a = 0 ∨ most < (a : Int) + nx s a
    · rw [cutP_end hc] at h1 ⊢
      exact ⟨g, h4, rfl⟩
    · have hn : nx s a ≠ 0 := fun h0 => hc (.inr (.inl h0))
      have he : cutP s most (f + 1) a = cutP s most f (a + nx s a) := by
        conv => lhs; unfold cutP
        rw [if_neg hc]
      rw [he] at h1 ⊢
      have hge := cutP_ge s most f (a + nx s a)
      have hx := nx_pre h2 hn (by omega)
      have hsz := size_cut s h2
      obtain ⟨g', hg, hf⟩ := ih (a + nx s a) q (g - 1) h1 h2 (nx_le s a hn) (by omega)
      refine ⟨g', hg, ?_⟩
      rw [flt_step (by omega) (by omega) (by rw [hx]; exact hn), hx, hf]
/-- What the cut leaves is a text. -/
theorem cut_text (s : ByteArray) (most : Int) : (flt (cutS s most) (cutS s most).size 0) = (0, false) := by
  have hle := cutP_le s most s.size 0 (Nat.zero_le _)
  obtain ⟨g', _, hf⟩ := flt_cut s most s.size 0 (cutP s most s.size 0) (cutS s most).size (Nat.le_refl _) hle (Nat.zero_le _) (by unfold cutS; rw [size_cut s hle]; omega)
  unfold cutS at hf ⊢
  rw [hf]
  exact flt_end (by rw [size_cut s hle]; exact Nat.le_refl _)
/-- With n bytes more it is none, or too long. -/
theorem cut_longest (s : ByteArray) (most : Int) (n : Nat) (hn : 1 ≤ n) (hs : cutP s most s.size 0 + n ≤ s.size)
    (hf : (flt (s.extract 0 (cutP s most s.size 0 + n)) (cutP s most s.size 0 + n) 0).2 = false) : most < (cutP s most s.size 0 : Int) + n := by
  obtain ⟨g', hg, he⟩ := flt_cut s most s.size 0 (cutP s most s.size 0 + n) (cutP s most s.size 0 + n) (by omega) hs (Nat.zero_le _) (by omega)
  rw [he] at hf
  have hsz := size_cut s hs
  have hnx : nx (s.extract 0 (cutP s most s.size 0 + n)) (cutP s most s.size 0) ≠ 0 := by
    intro h0
    rw [flt_bad (by omega) (by omega) h0] at hf
    exact absurd hf (by simp)
  have hle := nx_le _ _ hnx
  rw [hsz] at hle
  have hx := nx_of_pre hs hnx
  rcases cutP_stop s most s.size 0 (by omega) with h | h | h
  · omega
  · rw [hx] at h; exact absurd h hnx
  · rw [hx] at h; omega
end Go.Proofs.YtedapgeabpadaaaDoor.Pl

/- Plain facts: two texts are one; what a slash parts are texts. No program in sight. -/
namespace Go.Proofs.YtedapgeabpadaaaDoor.Pl
open Go.PlainAid (bt bt_nonneg bt_le get_bt bt_end)

theorem size_app (a b : ByteArray) : (a ++ b).size = a.size + b.size := ByteArray.size_append
theorem bt_left (a b : ByteArray) {k : Nat} (h : k < a.size) : bt (a ++ b) k = bt a k := by
  have hs : a.size = a.data.size := rfl
  rw [← get!_bt, ← get!_bt]
  congr 2
  show (a ++ b).data[k]! = a.data[k]!
  rw [ByteArray.data_append, getElem!_pos (a.data ++ b.data) k (by rw [Array.size_append]; omega), getElem!_pos a.data k (by omega), Array.getElem_append_left (by omega)]
theorem bt_right (a b : ByteArray) {k : Nat} (h : k < b.size) : bt (a ++ b) (a.size + k) = bt b k := by
  have hs : a.size = a.data.size := rfl
  have ht : b.size = b.data.size := rfl
  rw [← get!_bt, ← get!_bt]
  congr 2
  show (a ++ b).data[a.size + k]! = b.data[k]!
  rw [ByteArray.data_append, getElem!_pos (a.data ++ b.data) (a.size + k) (by rw [Array.size_append]; omega), getElem!_pos b.data k (by omega), Array.getElem_append_right (by omega)]
  congr 1
  omega
theorem walk_left (a b : ByteArray) : ∀ (f k g : Nat), a.size ≤ k + f → k ≤ a.size → (a ++ b).size ≤ k + g → (flt a f k).2 = false →
    ∃ g', (a ++ b).size ≤ a.size + g' ∧ flt (a ++ b) g k = flt (a ++ b) g' a.size ∧ rns (a ++ b) g k = rns a f k + rns (a ++ b) g' a.size := by
  have hsz := size_app a b
  intro f
  induction f with
  | zero =>
    intro k g h1 h2 h3 h4
    obtain rfl : k = a.size := by omega
    exact ⟨g, h3, rfl, by rw [rns_end (s := a) (by omega), Nat.zero_add]⟩
  | succ f ih =>
    intro k g h1 h2 h3 h4
    by_cases hk : k < a.size
    · by_cases hn : nx a k = 0
      · rw [flt_bad hk h1 hn] at h4; exact absurd h4 (by simp)
      · have hle := nx_le a k hn
        have hx : nx (a ++ b) k = nx a k := nx_local hn fun j hj => ⟨by omega, bt_left a b (by omega)⟩
        rw [flt_step hk h1 hn] at h4
        obtain ⟨g', e1, e2, e3⟩ := ih (k + nx a k) (g - 1) (by omega) hle (by omega) h4
        refine ⟨g', e1, ?_, ?_⟩
        · rw [flt_step (by omega) (by omega) (by rw [hx]; exact hn), hx, e2]
        · rw [rns_step (by omega) (by omega) (by rw [hx]; exact hn), hx, e3, rns_step hk h1 hn]
          have : f + 1 - 1 = f := rfl
          rw [this]
          omega
    · obtain rfl : k = a.size := by omega
      exact ⟨g, h3, rfl, by rw [rns_end (s := a) (by omega), Nat.zero_add]⟩
theorem walk_right (a b : ByteArray) : ∀ (f k g : Nat), b.size ≤ k + f → k ≤ b.size → (a ++ b).size ≤ a.size + k + g → (flt b f k).2 = false →
    flt (a ++ b) g (a.size + k) = (0, false) ∧ rns (a ++ b) g (a.size + k) = rns b f k := by
  have hsz := size_app a b
  intro f
  induction f with
  | zero =>
    intro k g h1 h2 h3 h4
    exact ⟨flt_end (by omega), by rw [rns_end (by omega), rns_end (by omega)]⟩
  | succ f ih =>
    intro k g h1 h2 h3 h4
    by_cases hk : k < b.size
    · by_cases hn : nx b k = 0
      · rw [flt_bad hk h1 hn] at h4; exact absurd h4 (by simp)
      · have hle := nx_le b k hn
        have hx : nx (a ++ b) (a.size + k) = nx b k := nx_local hn fun j hj => ⟨by omega, by rw [Nat.add_assoc]; exact bt_right a b (by omega)⟩
        rw [flt_step hk h1 hn] at h4
        obtain ⟨e2, e3⟩ := ih (k + nx b k) (g - 1) (by omega) hle (by omega) h4
        rw [← Nat.add_assoc] at e2 e3
        refine ⟨?_, ?_⟩
        · rw [flt_step (by omega) (by omega) (by rw [hx]; exact hn), hx, e2]
        · rw [rns_step (by omega) (by omega) (by rw [hx]; exact hn), hx, e3, rns_step hk h1 hn]
          rfl
    · exact ⟨flt_end (by omega), by rw [rns_end (by omega), rns_end (by omega)]⟩
/-- Two texts are one. -/
theorem join_text {a b : ByteArray} (ha : (flt a a.size 0).2 = false) (hb : (flt b b.size 0).2 = false) :
    flt (a ++ b) (a ++ b).size 0 = (0, false) ∧ rns (a ++ b) (a ++ b).size 0 = rns a a.size 0 + rns b b.size 0 := by
  obtain ⟨g', e1, e2, e3⟩ := walk_left a b a.size 0 (a ++ b).size (by omega) (by omega) (by omega) ha
  obtain ⟨e4, e5⟩ := walk_right a b b.size 0 g' (by omega) (by omega) (by omega) hb
  rw [Nat.add_zero] at e4 e5
  exact ⟨e2.trans e4, by rw [e3, e5]⟩


theorem nx_tail {s : ByteArray} {a k : Nat} (h : nx s a ≠ 0) (h1 : 1 ≤ k) (h2 : k < nx s a) : 128 ≤ bt s (a + k) := by
  unfold nx at h h2
  by_cases c1 : 1 ≤ bt s a ∧ bt s a ≤ 127
  · rw [if_pos c1] at h2; omega
  · rw [if_neg c1] at h h2
    by_cases c2 : 194 ≤ bt s a ∧ bt s a ≤ 223 ∧ tl s (a + 1) 128 191 = true
    · rw [if_pos c2] at h2
      obtain rfl : k = 1 := by omega
      exact (tl_iff.1 c2.2.2).2.1
    · rw [if_neg c2] at h h2
      by_cases c3 : 224 ≤ bt s a ∧ bt s a ≤ 239 ∧ tl s (a + 1) 128 191 = true ∧ tl s (a + 2) 128 191 = true
      · rw [if_pos c3] at h h2
        have : k < 3 := by split at h2 <;> omega
        obtain rfl | rfl : k = 1 ∨ k = 2 := by omega
        · exact (tl_iff.1 c3.2.2.1).2.1
        · exact (tl_iff.1 c3.2.2.2).2.1
      · rw [if_neg c3] at h h2
        by_cases c4 : 240 ≤ bt s a ∧ bt s a ≤ 244 ∧ tl s (a + 1) 128 191 = true ∧ tl s (a + 2) 128 191 = true ∧ tl s (a + 3) 128 191 = true
        · rw [if_pos c4] at h h2
          have : k < 4 := by split at h2 <;> omega
          obtain rfl | rfl | rfl : k = 1 ∨ k = 2 ∨ k = 3 := by omega
          · exact (tl_iff.1 c4.2.2.1).2.1
          · exact (tl_iff.1 c4.2.2.2.1).2.1
          · exact (tl_iff.1 c4.2.2.2.2).2.1
        · rw [if_neg c4] at h; exact absurd rfl h

/-- Ahead of a byte below 128 the walk goes as in that part alone, and comes tu that byte. -/
theorem walk_part (a b : ByteArray) (hb : bt (a ++ b) a.size < 128) (hs : a.size < (a ++ b).size) : ∀ (f k g : Nat), (a ++ b).size ≤ k + f → k ≤ a.size → a.size ≤ k + g → (flt (a ++ b) f k).2 = false →
    (flt a g k).2 = false ∧ ∃ f', (a ++ b).size ≤ a.size + f' ∧ (flt (a ++ b) f' a.size).2 = false := by
  have hsz := size_app a b
  intro f
  induction f with
  | zero => intro k g h1 h2 h3 h4; omega
  | succ f ih =>
    intro k g h1 h2 h3 h4
    by_cases hk : k < a.size
    · by_cases hn : nx (a ++ b) k = 0
      · rw [flt_bad (by omega) h1 hn] at h4; exact absurd h4 (by simp)
      · have hle : k + nx (a ++ b) k ≤ a.size := by
          apply Decidable.byContradiction
          intro hc
          have := nx_tail (s := a ++ b) (a := k) (k := a.size - k) hn (by omega) (by omega)
          rw [show k + (a.size - k) = a.size by omega] at this
          omega
        have hx : nx a k = nx (a ++ b) k := nx_local hn fun j hj => ⟨by omega, (bt_left a b (by omega)).symm⟩
        rw [flt_step (by omega) h1 hn] at h4
        obtain ⟨e1, e2⟩ := ih (k + nx (a ++ b) k) (g - 1) (by omega) hle (by omega) h4
        refine ⟨?_, e2⟩
        rw [flt_step hk (by omega) (by rw [hx]; exact hn), hx]
        exact e1
    · obtain rfl : k = a.size := by omega
      exact ⟨by rw [flt_end (by omega)], f + 1, h1, h4⟩
theorem walk_behind (a b : ByteArray) : ∀ (f k g : Nat), (a ++ b).size ≤ a.size + k + f → k ≤ b.size → b.size ≤ k + g → (flt (a ++ b) f (a.size + k)).2 = false → (flt b g k).2 = false := by
  have hsz := size_app a b
  intro f
  induction f with
  | zero => intro k g h1 h2 h3 h4; rw [flt_end (by omega)]
  | succ f ih =>
    intro k g h1 h2 h3 h4
    by_cases hk : k < b.size
    · by_cases hn : nx (a ++ b) (a.size + k) = 0
      · rw [flt_bad (by omega) h1 hn] at h4; exact absurd h4 (by simp)
      · have hle := nx_le (a ++ b) (a.size + k) hn
        have hx : nx b k = nx (a ++ b) (a.size + k) := nx_local hn fun j hj => ⟨by omega, by rw [Nat.add_assoc]; exact (bt_right a b (by omega)).symm⟩
        rw [flt_step (by omega) h1 hn, Nat.add_assoc] at h4
        rw [flt_step hk (by omega) (by rw [hx]; exact hn), hx]
        exact ih _ (g - 1) (by omega) (by omega) (by omega) h4
    · rw [flt_end (by omega)]

/-- Is it a text? -/
def txt (l : List UInt8) : Bool := !(flt ⟨l.toArray⟩ l.length 0).2
theorem txt_iff (s : ByteArray) : txt s.data.toList = !(flt s s.size 0).2 := by
  unfold txt
  have : s.data.toList.length = s.size := rfl
  rw [this]
theorem mk_app (a b : List UInt8) : (⟨(a ++ b).toArray⟩ : ByteArray) = ⟨a.toArray⟩ ++ ⟨b.toArray⟩ := by
  apply ByteArray.ext
  simp
theorem txt_app {a b : List UInt8} (ha : txt a = true) (hb : txt b = true) : txt (a ++ b) = true := by
  have h := (join_text (a := ⟨a.toArray⟩) (b := ⟨b.toArray⟩) (by simpa [txt, ByteArray.size] using ha) (by simpa [txt, ByteArray.size] using hb)).1
  rw [← mk_app] at h
  unfold txt
  have e : (⟨(a ++ b).toArray⟩ : ByteArray).size = (a ++ b).length := by simp [ByteArray.size]
  rw [e] at h
  rw [h]; rfl
theorem txt_nil : txt [] = true := rfl
/-- What stands ahead of and behind a byte below 128 of a text are texts. -/
theorem txt_part {a b : List UInt8} {c : UInt8} (hc : c.toNat < 128) (h : txt (a ++ c :: b) = true) : txt a = true ∧ txt b = true := by
  have hA : (⟨a.toArray⟩ : ByteArray).size = a.length := by simp [ByteArray.size]
  have hB : (⟨(c :: b).toArray⟩ : ByteArray).size = b.length + 1 := by simp [ByteArray.size]
  have hb0 : bt ⟨(c :: b).toArray⟩ 0 = c.toNat := by
    rw [← get!_bt]
    rfl
  have hsz := size_app ⟨a.toArray⟩ ⟨(c :: b).toArray⟩
  have hbt : bt ((⟨a.toArray⟩ : ByteArray) ++ ⟨(c :: b).toArray⟩) (⟨a.toArray⟩ : ByteArray).size = c.toNat := by
    rw [← hb0]
    exact bt_right ⟨a.toArray⟩ ⟨(c :: b).toArray⟩ (k := 0) (by omega)
  have h0 : (flt ((⟨a.toArray⟩ : ByteArray) ++ ⟨(c :: b).toArray⟩) (a ++ c :: b).length 0).2 = false := by
    rw [← mk_app]; simpa [txt] using h
  have hlen : (a ++ c :: b).length = a.length + (b.length + 1) := by simp
  obtain ⟨e1, f', e2, e3⟩ := walk_part ⟨a.toArray⟩ ⟨(c :: b).toArray⟩ (by rw [hbt]; omega) (by omega) (a ++ c :: b).length 0 a.length (by omega) (by omega) (by omega) h0
  refine ⟨by simpa [txt] using e1, ?_⟩
  have e4 := walk_behind ⟨a.toArray⟩ ⟨(c :: b).toArray⟩ f' 0 (b.length + 1) (by omega) (by omega) (by omega) e3
  by_cases hz : c.toNat = 0
  · have hn : nx ⟨(c :: b).toArray⟩ 0 = 0 := by
      unfold nx
      rw [hb0, if_neg (by omega), if_neg (by omega), if_neg (by omega), if_neg (by omega)]
    rw [flt_bad (by omega) (by omega) hn] at e4
    exact absurd e4 (by simp)
  · have hn : nx ⟨(c :: b).toArray⟩ 0 = 1 := by
      unfold nx
      rw [hb0, if_pos (by omega)]
    rw [flt_step (by omega) (by omega) (by omega), hn] at e4
    have ec : (⟨(c :: b).toArray⟩ : ByteArray) = ⟨[c].toArray⟩ ++ ⟨b.toArray⟩ := mk_app [c] b
    rw [ec] at e4
    have e5 := walk_behind ⟨[c].toArray⟩ ⟨b.toArray⟩ (b.length + 1 - 1) 0 b.length (by rw [size_app]; simp [ByteArray.size]) (by omega) (by simp [ByteArray.size]) (by simpa [ByteArray.size] using e4)
    simpa [txt] using e5
end Go.Proofs.YtedapgeabpadaaaDoor.Pl

/- What a packet's bytes begin with; the same of the bytes cut off, and of the bytes with more behind them. -/
namespace Go.Proofs.YtedapgeabpadaaaDoor
set_option linter.unusedVariables false
open Go.RowKit Pl Go.PlainAid

/-- A head byte that a packet may have: its kind, and its flags. -/
structure Hd1 (h k f : Int) : Prop where
  e : h = 16 * k + f
  k1 : 1 ≤ k
  k2 : k ≤ 15
  f1 : 0 ≤ f
  f2 : f ≤ 15
  ok : if k = 3 then f / 2 % 4 < 3 ∧ (8 ≤ f → 0 < f / 2 % 4) else f = kFlags k
/-- What a packet's bytes begin with. -/
structure Shp (s : ByteArray) (h : Int) (L : Nat) : Prop where
  b0 : bt s 0 = h
  L1 : L ≤ 65536
  size : s.size = 1 + (enc L).length + L
  len : Has s 1 (enc L)
theorem bt1_bd2 (b : Bool) (n : Int) (h : 0 ≤ n) : 0 ≤ bt1 b n ∧ bt1 b n ≤ n ∧ (bt1 b n = 0 ∨ bt1 b n = n) := by unfold bt1; split <;> omega
theorem pk_hd1 {q : Pk} (h : pkC q = 0) : Hd1 (16 * q.kind + pFlags q) q.kind (pFlags q) := by
  unfold pkC at h
  split at h
  · cases h
  · rename_i hk
    split at h
    · rename_i hc; exact absurd h hc
    · rename_i hc
      have hc : (wAll q).c = 0 := by omega
      refine ⟨rfl, by omega, by omega, ?_, ?_, ?_⟩
      all_goals
        unfold pFlags
        by_cases h3 : q.kind = 3
        · obtain ⟨q0, q1, q2⟩ := publish_q h3 hc
          obtain ⟨d0, d1, d2⟩ := bt1_bd2 q.dup 8 (by decide)
          obtain ⟨r0, r1, r2⟩ := bt1_bd2 q.ret 1 (by decide)
          simp only [if_pos h3]
          first
            | omega
            | (refine ⟨by omega, fun h8 => ?_⟩
               have hd : q.dup = true := by
                 cases hq : q.dup with
                 | true => rfl
                 | false => rw [hq] at h8; simp only [bt1] at h8; simp at h8; omega
               have := q2 hd
               omega)
        · simp only [if_neg h3] <;> first
            | rfl
            | (unfold kFlags; split <;> omega)
theorem pk_shp {q : Pk} (h : pkC q = 0) : Shp (pkS q) (16 * q.kind + pFlags q) (wAll q).s.size := by
  have hh := pk_hd1 h
  have hL : (wAll q).s.size ≤ 65536 := by
    unfold pkC at h
    split at h
    · cases h
    · split at h
      · rename_i hc; exact absurd h hc
      · split at h
        · cases h
        · omega
  obtain ⟨hd, hhd⟩ : ∃ x, 16 * q.kind + pFlags q = x := ⟨_, rfl⟩
  rw [hhd] at hh ⊢
  have hb : 0 ≤ hd ∧ hd < 256 := by have := hh.e; have := hh.k1; have := hh.k2; have := hh.f1; have := hh.f2; omega
  have hf := (fixS_ok (k := 1) (n := hd) (by simp) hb.1 (by simpa using hb.2)).2
  have hs : (pkS q).data.toList = fb 1 hd ++ (enc (wAll q).s.size ++ (wAll q).s.data.toList) := by
    unfold pkS
    rw [if_pos h, hhd, app_bytes, app_bytes, List.append_assoc]
    show fixS ((1 : Nat) : Int) hd ++ _ = _
    rw [hf]
  have hself := has_self (pkS q)
  rw [hs] at hself
  obtain ⟨h1, h2⟩ := has_append.1 hself
  obtain ⟨h3, h4⟩ := has_append.1 h2
  have hl1 : (fb 1 hd).length = 1 := rfl
  refine ⟨?_, hL, ?_, ?_⟩
  · have := gv_has h1
    rw [gv_cons] at this
    simp [gv] at this
    omega
  · have e : (pkS q).size = (pkS q).data.toList.length := rfl
    rw [e, hs, List.length_append, List.length_append, hl1]
    show _ + (_ + (wAll q).s.size) = _
    omega
  · rw [hl1] at h3; exact h3
theorem shp_len {s : ByteArray} {h : Int} {L : Nat} (hs : Shp s h L) : 1 ≤ (enc L).length ∧ (enc L).length ≤ 4 := by
  obtain ⟨r, h1, _, _, _, h5⟩ := enc_vb (n := L) (by omega) (by have := hs.L1; omega)
  omega
/-- Cut off. -/
theorem shp_cut {s : ByteArray} {h : Int} {L c : Nat} (hs : Shp s h L) (h1 : 1 ≤ c) (hc : c < s.size) :
    bt (s.extract 0 c) 0 = h ∧ (s.extract 0 c).size = c ∧ (getV (s.extract 0 c) 1 = (0, 0, 242) ∨ (getV (s.extract 0 c) 1 = ((L : Int), ((1 + (enc L).length : Nat) : Int), 0) ∧ 1 + (enc L).length ≤ c ∧ c - (1 + (enc L).length) < L)) := by
  have hsz : (s.extract 0 c).size = c := by rw [ByteArray.size_extract]; omega
  refine ⟨(bt_cut (by omega) (by omega)).trans hs.b0, hsz, ?_⟩
  by_cases hl : 1 + (enc L).length ≤ c
  · refine .inr ⟨?_, hl, ?_⟩
    · exact getV_has (by omega) (by have := hs.L1; omega) (has_cut hs.len hl (by omega))
    · have := hs.size; omega
  · refine .inl ?_
    obtain ⟨r, hr, he, _, _, hlen⟩ := enc_vb (n := L) (by omega) (by have := hs.L1; omega)
    have hv : getV (s.extract 0 c) ((1 : Nat) : Int) = gi (s.extract 0 c) 4 0 0 1 := getV_ok (by omega)
    have hv' : getV (s.extract 0 c) 1 = gi (s.extract 0 c) 4 0 0 1 := hv
    rw [hv']
    refine gi_cut _ (r + 1) (c - 1) 4 0 1 L 0 hr (by omega) (fun j hj h2 => ?_) (by omega)
    have hb := has_bt hs.len (j := j) (by rw [he]; exact h2)
    rw [bt_cut (by omega) (by omega), hb]
    congr 2
    simp only [he]
/-- With more behind. -/
theorem shp_more {s t : ByteArray} {h : Int} {L : Nat} (hs : Shp s h L) : bt (s ++ t) 0 = h ∧ getV (s ++ t) 1 = ((L : Int), ((1 + (enc L).length : Nat) : Int), 0) := by
  have hz := hs.size
  refine ⟨(bt_left s t (by omega)).trans hs.b0, ?_⟩
  show getV (s ++ t) ((1 : Nat) : Int) = _
  refine getV_has (i := 1) (by omega) (by have := hs.L1; omega) ?_
  refine ⟨by have := hs.len.1; rw [ByteArray.size_append]; omega, fun j hj => ?_⟩
  rw [app_bytes, List.getElem?_append_left (by have : s.data.toList.length = s.size := rfl; omega)]
  exact hs.len.2 j hj
end Go.Proofs.YtedapgeabpadaaaDoor

/- What a packet's bytes are read back as: plain. -/
namespace Go.Proofs.YtedapgeabpadaaaDoor
set_option linter.unusedVariables false
set_option linter.unusedSimpArgs false
open Go.RowKit Pl Go.PlainAid

def cn (q : Pk) : Pk :=
  if q.kind = 1 then cnConn q else if q.kind = 2 then cnConnack q else if q.kind = 3 then cnPub q
  else if q.kind = 4 ∨ q.kind = 5 ∨ q.kind = 6 ∨ q.kind = 7 then cnAck q
  else if q.kind = 14 ∨ q.kind = 15 then cnEnd q
  else if q.kind = 8 ∨ q.kind = 9 ∨ q.kind = 10 ∨ q.kind = 11 then cnLists q else { zPk with kind := q.kind }
def hdP (q : Pk) : Pk := if q.kind = 3 then { zPk with kind := 3, dup := q.dup, q := q.q, ret := q.ret } else { zPk with kind := q.kind }
theorem pk_zero {q : Pk} (h : pkC q = 0) : 1 ≤ q.kind ∧ q.kind ≤ 15 ∧ (wAll q).c = 0 ∧ (wAll q).s.size ≤ 65536 := by
  unfold pkC at h
  split at h
  · cases h
  · split at h
    · rename_i hc; exact absurd h hc
    · split at h
      · cases h
      · exact ⟨by omega, by omega, by omega, by omega⟩
theorem head_e0 {q : Pk} (h : (wAll q).c = 0) : wHead q = e0 := by
  unfold wHead
  split
  · rename_i h3
    obtain ⟨q0, q1, q2⟩ := publish_q h3 h
    rw [if_neg (fun c => by have := q2 c.1; omega)]
    unfold wQos
    rw [if_neg (by omega)]
    rfl
  · rfl
theorem hdO_fwd {q : Pk} (h : pkC q = 0) : hdO (16 * q.kind + pFlags q) = some (hdP q) := by
  have hh := pk_hd1 h
  obtain ⟨k1, k2, hc, _⟩ := pk_zero h
  have f1 := hh.f1
  have f2 := hh.f2
  have d1 : (16 * q.kind + pFlags q) / 16 = q.kind := by omega
  have d2 : (16 * q.kind + pFlags q) % 16 = pFlags q := by omega
  unfold hdO hdP
  rw [d1, if_neg (by omega)]
  by_cases h3 : q.kind = 3
  · rw [if_pos h3, if_pos h3]
    obtain ⟨q0, q1, q2⟩ := publish_q h3 hc
    unfold pFlags
    rw [if_pos h3, h3]
    obtain ⟨kind, dup, ret, qq⟩ := q
    simp only at *
    have q3 : qq = 0 ∨ qq = 1 ∨ qq = 2 := by omega
    rcases q3 with rfl | rfl | rfl <;> cases dup <;> cases ret <;> first | rfl | (exact absurd (q2 rfl) (by decide))
  · rw [if_neg h3, if_neg h3, d2]
    have := hh.ok
    rw [if_neg h3] at this
    rw [if_pos this]
theorem fwd_body {q : Pk} (h : pkC q = 0) : rBody (wAll q).s (hdP q) 0 = .ok (cn q, ((wAll q).s.size : Int)) := by
  obtain ⟨k1, k2, hc, _⟩ := pk_zero h
  have hb : Beg (wAll q).s (wAll q) := has_self _
  suffices hr : rKind (wAll q).s (hdP q) 0 = .ok (cn q, ((wAll q).s.size : Int)) by
    unfold rBody
    rw [hr]
    simp only [bindR]
    rw [if_neg (by omega)]
  obtain ⟨s, hs⟩ : ∃ s, (wAll q).s = s := ⟨_, rfl⟩
  have hz : s.size = (wAll q).s.size := by rw [hs]
  rw [hs] at hb ⊢
  clear hs
  have he := head_e0 hc
  unfold wAll at hc hb hz
  rw [he] at hc hb hz
  unfold wBody at hc hb hz
  unfold rKind cn hdP
  by_cases h1 : q.kind = 1
  · rw [if_neg (by omega : ¬ q.kind = 3)]
    simp only [if_pos h1] at hc hb hz ⊢
    have := fwd_conn hc hb
    rw [h1]
    rw [← hz] at this
    exact this
  simp only [if_neg h1] at hc hb hz ⊢
  by_cases h2 : q.kind = 2
  · rw [if_neg (by omega : ¬ q.kind = 3)]
    simp only [if_pos h2] at hc hb hz ⊢
    have := fwd_connack hc hb
    rw [h2]
    rw [← hz] at this
    exact this
  simp only [if_neg h2] at hc hb hz ⊢
  by_cases h3 : q.kind = 3
  · simp only [if_pos h3] at hc hb hz ⊢
    exact fwd_pub hc hb hz
  simp only [if_neg h3, if_neg h1, if_neg h2] at hc hb hz ⊢
  by_cases h4 : q.kind = 4 ∨ q.kind = 5 ∨ q.kind = 6 ∨ q.kind = 7
  · simp only [if_pos h4] at hc hb hz ⊢
    exact fwd_ack hc hb hz
  simp only [if_neg h4] at hc hb hz ⊢
  by_cases h5 : q.kind = 14 ∨ q.kind = 15
  · simp only [if_pos h5] at hc hb hz ⊢
    exact fwd_dis hc hb hz
  simp only [if_neg h5] at hc hb hz ⊢
  by_cases h6 : q.kind = 8 ∨ q.kind = 9 ∨ q.kind = 10 ∨ q.kind = 11
  · simp only [if_pos h6] at hc hb hz ⊢
    exact fwd_lists hc hb hz
  simp only [if_neg h6] at hc hb hz ⊢
  have hz : s.size = 0 := hz
  rw [hz]
  rfl
end Go.Proofs.YtedapgeabpadaaaDoor
