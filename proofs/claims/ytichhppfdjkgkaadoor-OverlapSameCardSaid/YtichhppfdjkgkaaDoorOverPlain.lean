/- Plain facts about filters held against one another: witnesses and gaps; no program in sight. -/
import Derived.Test.YtichhppfdjkgkaaDoorMatchPlain
namespace Go.Proofs.YtichhppfdjkgkaaDoor.Pl
open Go

/-- A filter's levels, and whether all that follow are matched, too. -/
structure Sh where
  lv : List Bs
  op : Bool
def shp (F : ByteArray) : Sh := if filtB F then ⟨cutL (lev F.data.toList), allB (lev F.data.toList)⟩ else ⟨[], false⟩
def atL (L : List Bs) (i : Nat) : Bs := L.getD i [43]
def lst (L : List Bs) : Nat := if L = [[]] then 2 else max 1 L.length
def tks (s : Sh) (n : Nat) : Bool := decide (n = s.lv.length) || (s.op && decide (s.lv.length < n))
def dl (x : Bs) : Bool := x.head? == some 36
def wld (L : List Bs) : Bool := atL L 0 == [43]
def dlr (L : List Bs) : Bool := dl (atL L 0)
/-- A level that none of some has. -/
def frF (X : List Bs) : Nat → Nat → Nat
  | 0, k => k
  | f + 1, k => if X.elem (List.replicate (k + 1) 97) then frF X f (k + 1) else k
def frs (A B : List Bs) : Bs := List.replicate (frF (A ++ B) (A ++ B).length 0 + 1) 97
def fil (n : Nat) (f : Nat → Bs) (o : Bs) : List Bs := (List.range n).map fun i => if f i = [43] then o else f i
def okA (A B : List Bs) (i : Nat) : Bool := atL A i == atL B i || (atL A i == [43] || atL B i == [43])
def pickL (A B : List Bs) (i : Nat) : Bs := if atL A i = [43] then atL B i else atL A i
def witN (s t : Sh) : Nat := max (lst s.lv) (lst t.lv)
def witC (s t : Sh) : Bool := tks s (witN s t) && (tks t (witN s t) && (!(wld s.lv && dlr t.lv) && (!(wld t.lv && dlr s.lv) && (List.range (witN s t)).all (okA s.lv t.lv))))
def witL (s t : Sh) : List Bs := fil (witN s t) (pickL s.lv t.lv) (frs s.lv t.lv)
def gapA (A B : List Bs) (i : Nat) : Bool := !(atL A i == [43]) && !(atL A i == atL B i)
def gapB (s t : Sh) : Bool := !(tks s (lst t.lv)) || (wld s.lv && dlr t.lv) || (List.range (min (lst t.lv) s.lv.length)).any (gapA s.lv t.lv)
def gapC (s t : Sh) : Bool := gapB s t || (t.op && !s.op)
def gapN (s t : Sh) : Nat := if gapB s t then lst t.lv else s.lv.length + 1
def gapL (s t : Sh) : List Bs := fil (gapN s t) (atL t.lv) (frs s.lv t.lv)

/-- A list of levels is matched by a shape. -/
def MT (s : Sh) (u : List Bs) : Prop := tks s u.length = true ∧ (∀ i, i < s.lv.length → atL s.lv i = [43] ∨ atL s.lv i = u.getD i []) ∧ ¬ (wld s.lv = true ∧ dl (u.getD 0 []) = true)
/-- It is a topic's. -/
def tok (u : List Bs) : Prop := u ≠ [] ∧ u ≠ [[]]
/-- What every filter's shape is. -/
def shok (s : Sh) : Prop := (s.lv = [] → s.op = true) ∧ (s.lv = [[]] → s.op = true)

theorem atL_lt {L : List Bs} {i : Nat} (h : i < L.length) : L[i]? = some (atL L i) := by
  unfold atL
  rw [List.getD_eq_getElem?_getD, List.getElem?_eq_getElem h]
  rfl
theorem atL_ge {L : List Bs} {i : Nat} (h : L.length ≤ i) : atL L i = [43] := by
  unfold atL
  rw [List.getD_eq_getElem?_getD, List.getElem?_eq_none h]
  rfl
theorem atL_mem {L : List Bs} {i : Nat} (h : i < L.length) : atL L i ∈ L := List.mem_of_getElem? (atL_lt h)
theorem tks_iff {s : Sh} {n : Nat} : tks s n = true ↔ n = s.lv.length ∨ (s.op = true ∧ s.lv.length < n) := by
  unfold tks; simp
theorem tks_le {s : Sh} {n : Nat} (h : tks s n = true) : s.lv.length ≤ n := by
  rcases tks_iff.1 h with h | h <;> omega
theorem lst_pos (L : List Bs) : 1 ≤ lst L := by unfold lst; split <;> omega
theorem lst_ge (L : List Bs) : L.length ≤ lst L := by
  unfold lst
  split
  · rename_i h; rw [h]; simp
  · omega
theorem lst_one {L : List Bs} (h : lst L = 1) : L ≠ [[]] ∧ L.length ≤ 1 := by
  unfold lst at h
  split at h
  · cases h
  · rename_i hn; exact ⟨hn, by omega⟩
theorem fil_length (n : Nat) (f : Nat → Bs) (o : Bs) : (fil n f o).length = n := by simp [fil]
theorem fil_at {n : Nat} {f : Nat → Bs} {o : Bs} {i : Nat} (h : i < n) : (fil n f o).getD i [] = if f i = [43] then o else f i := by
  unfold fil
  rw [List.getD_eq_getElem?_getD, List.getElem?_map, List.getElem?_range h]
  rfl
theorem fil_mem {n : Nat} {f : Nat → Bs} {o x : Bs} (h : x ∈ fil n f o) : x = o ∨ ∃ i, i < n ∧ x = f i ∧ f i ≠ [43] := by
  unfold fil at h
  obtain ⟨i, hi, rfl⟩ := List.mem_map.1 h
  have := List.mem_range.1 hi
  split
  · exact .inl rfl
  · rename_i hne; exact .inr ⟨i, this, rfl, hne⟩

theorem frF_free (X : List Bs) : ∀ (f k : Nat), (X.filter fun y => decide (k + 1 ≤ y.length)).length ≤ f → X.elem (List.replicate (frF X f k + 1) 97) = false := by
  intro f
  induction f with
  | zero =>
    intro k h
    unfold frF
    cases he : X.elem (List.replicate (k + 1) 97)
    · rfl
    · have hm : List.replicate (k + 1) 97 ∈ X := List.elem_iff.1 he
      have : List.replicate (k + 1) (97 : UInt8) ∈ X.filter fun y => decide (k + 1 ≤ y.length) := List.mem_filter.2 ⟨hm, by simp⟩
      rw [List.eq_nil_of_length_eq_zero (Nat.le_zero.1 h)] at this
      simp at this
  | succ f ih =>
    intro k h
    unfold frF
    split
    · rename_i he
      apply ih
      have hm : List.replicate (k + 1) 97 ∈ X := List.elem_iff.1 he
      have hlt : (X.filter fun y => decide (k + 1 + 1 ≤ y.length)).length < (X.filter fun y => decide (k + 1 ≤ y.length)).length := by
        have e : (X.filter fun y => decide (k + 1 + 1 ≤ y.length)) = (X.filter fun y => decide (k + 1 ≤ y.length)).filter fun y => decide (k + 1 + 1 ≤ y.length) := by
          rw [List.filter_filter]
          apply List.filter_congr
          intro y _
          rw [Bool.eq_iff_iff]
          simp
          omega
        rw [e]
        apply Nat.lt_of_le_of_ne (List.length_filter_le _ _)
        intro hl
        have := List.length_filter_eq_length_iff.1 hl (List.replicate (k + 1) 97) (List.mem_filter.2 ⟨hm, by simp⟩)
        simp at this
        omega
      omega
    · rename_i he
      simpa using he
theorem frs_free (A B : List Bs) : frs A B ∉ A ∧ frs A B ∉ B := by
  have h := frF_free (A ++ B) (A ++ B).length 0 (List.length_filter_le _ _)
  have h2 : frs A B ∉ A ++ B := by
    intro hm
    have := List.elem_iff.2 hm
    unfold frs at this
    rw [h] at this
    cases this
  exact ⟨fun hm => h2 (List.mem_append.2 (.inl hm)), fun hm => h2 (List.mem_append.2 (.inr hm))⟩
theorem frs_form (A B : List Bs) : ∃ k, frs A B = List.replicate (k + 1) 97 := ⟨_, rfl⟩
theorem frs_dl (A B : List Bs) : dl (frs A B) = false := by
  obtain ⟨k, h⟩ := frs_form A B
  rw [h]
  unfold dl
  rw [List.replicate_succ]
  rfl
theorem frs_ne (A B : List Bs) : frs A B ≠ [] ∧ frs A B ≠ [43] := by
  obtain ⟨k, h⟩ := frs_form A B
  rw [h, List.replicate_succ]
  exact ⟨by simp, by simp⟩

theorem witN_pos (s t : Sh) : 1 ≤ witN s t := by unfold witN; have := lst_pos s.lv; omega
theorem witC_open {s t : Sh} (h : witC s t = true) : tks s (witN s t) = true ∧ tks t (witN s t) = true ∧ (wld s.lv && dlr t.lv) = false ∧ (wld t.lv && dlr s.lv) = false ∧ ∀ i, i < witN s t → okA s.lv t.lv i = true := by
  unfold witC at h
  simp only [Bool.and_eq_true, Bool.not_eq_true', List.all_eq_true, List.mem_range] at h
  exact ⟨h.1, h.2.1, h.2.2.1, h.2.2.2.1, h.2.2.2.2⟩
theorem pick_zero {s t : Sh} (h1 : (wld s.lv && dlr t.lv) = false) (hw : wld s.lv = true) (hd : dl (if pickL s.lv t.lv 0 = [43] then frs s.lv t.lv else pickL s.lv t.lv 0) = true) : False := by
  have hs : atL s.lv 0 = [43] := beq_iff_eq.1 hw
  have hp : pickL s.lv t.lv 0 = atL t.lv 0 := by unfold pickL; rw [if_pos hs]
  rw [hp] at hd
  split at hd
  · rw [frs_dl] at hd; cases hd
  · have : dlr t.lv = true := hd
    rw [hw, this] at h1
    cases h1
/-- A witness is matched by both. -/
theorem wit_sound {s t : Sh} (h : witC s t = true) : MT s (witL s t) ∧ MT t (witL s t) ∧ tok (witL s t) := by
  obtain ⟨h1, h2, h3, h4, h5⟩ := witC_open h
  have hn := witN_pos s t
  have hlen : (witL s t).length = witN s t := fil_length _ _ _
  have hat : ∀ i, i < witN s t → (witL s t).getD i [] = if pickL s.lv t.lv i = [43] then frs s.lv t.lv else pickL s.lv t.lv i := fun i hi => fil_at hi
  refine ⟨⟨by rw [hlen]; exact h1, fun i hi => ?_, ?_⟩, ⟨by rw [hlen]; exact h2, fun i hi => ?_, ?_⟩, ?_, ?_⟩
  · have hi2 : i < witN s t := Nat.lt_of_lt_of_le hi (tks_le h1)
    rw [hat i hi2]
    by_cases ha : atL s.lv i = [43]
    · exact .inl ha
    · right
      have hp : pickL s.lv t.lv i = atL s.lv i := by unfold pickL; rw [if_neg ha]
      rw [hp, if_neg ha]
  · rintro ⟨hw, hd⟩
    rw [hat 0 (by omega)] at hd
    exact pick_zero h3 hw hd
  · have hi2 : i < witN s t := Nat.lt_of_lt_of_le hi (tks_le h2)
    rw [hat i hi2]
    by_cases hb : atL t.lv i = [43]
    · exact .inl hb
    · right
      have hok := h5 i hi2
      unfold okA at hok
      simp only [Bool.or_eq_true, beq_iff_eq] at hok
      unfold pickL
      by_cases ha : atL s.lv i = [43]
      · rw [if_pos ha, if_neg hb]
      · rw [if_neg ha, if_neg ha]
        rcases hok with hok | hok | hok
        · exact hok.symm
        · exact absurd hok ha
        · exact absurd hok hb
  · rintro ⟨hw, hd⟩
    rw [hat 0 (by omega)] at hd
    have ht : atL t.lv 0 = [43] := beq_iff_eq.1 hw
    by_cases ha : atL s.lv 0 = [43]
    · have hp : pickL s.lv t.lv 0 = [43] := by unfold pickL; rw [if_pos ha]; exact ht
      rw [hp, if_pos rfl, frs_dl] at hd
      cases hd
    · have hp : pickL s.lv t.lv 0 = atL s.lv 0 := by unfold pickL; rw [if_neg ha]
      rw [hp, if_neg ha] at hd
      have : dlr s.lv = true := hd
      rw [hw, this] at h4
      cases h4
  · intro e
    rw [e] at hlen
    simp at hlen
    omega
  · intro e
    have hl1 : witN s t = 1 := by rw [e] at hlen; simpa using hlen.symm
    have h0 := hat 0 (by omega)
    rw [e] at h0
    simp only [List.getD_cons_zero] at h0
    unfold witN at hl1
    have ls := lst_pos s.lv
    have lt := lst_pos t.lv
    have l1 := lst_one (L := s.lv) (by omega)
    have l2 := lst_one (L := t.lv) (by omega)
    have nil_of : ∀ L : List Bs, L.length ≤ 1 → atL L 0 = [] → L = [[]] := by
      intro L hL ha
      match L, hL, ha with
      | [], _, ha => cases ha
      | [x], _, ha => exact congrArg (fun z => [z]) ha
      | _ :: _ :: _, hL, _ => simp at hL
    split at h0
    · exact (frs_ne s.lv t.lv).1 h0.symm
    · unfold pickL at h0
      split at h0
      · exact l2.1 (nil_of _ l2.2 h0.symm)
      · exact l1.1 (nil_of _ l1.2 h0.symm)
/-- A shape's topics have as many levels as it asks. -/
theorem mt_least {s : Sh} {u : List Bs} (hu : tok u) (h : MT s u) : lst s.lv ≤ u.length := by
  obtain ⟨h1, h2, _⟩ := h
  have hle := tks_le h1
  have hp : 0 < u.length := List.length_pos_iff.2 hu.1
  unfold lst
  split
  · rename_i he
    rw [he] at hle h2
    have h0 := h2 0 (by simp)
    have ha : atL [[]] 0 = [] := rfl
    rw [ha] at h0
    rcases h0 with h0 | h0
    · cases h0
    · match u, hu, h0, hp with
      | [x], hu, h0, _ => exact absurd (congrArg (fun z => [z]) h0.symm) hu.2
      | _ :: _ :: _, _, _, _ => simp
  · omega
/-- Two that match one topic have a witness. -/
theorem wit_complete {s t : Sh} {u : List Bs} (hu : tok u) (hs : MT s u) (ht : MT t u) : witC s t = true := by
  have ls := mt_least hu hs
  have lt := mt_least hu ht
  have gs := lst_ge s.lv
  have gt := lst_ge t.lv
  obtain ⟨h1, h2, h3⟩ := hs
  obtain ⟨k1, k2, k3⟩ := ht
  have hz : ∀ {p q : Sh}, tks p u.length = true → (∀ i, i < p.lv.length → atL p.lv i = [43] ∨ atL p.lv i = u.getD i []) → ¬ (wld q.lv = true ∧ dl (u.getD 0 []) = true) → (wld q.lv && dlr p.lv) = false := by
    intro p q a b c
    cases hd : dlr p.lv
    · rw [Bool.and_false]
    · cases hw : wld q.lv
      · rfl
      · exfalso
        have h0 : 0 < p.lv.length := by
          apply Decidable.byContradiction
          intro hc
          have : atL p.lv 0 = [43] := atL_ge (by omega)
          unfold dlr at hd
          rw [this] at hd
          revert hd; decide
        rcases b 0 h0 with h | h
        · unfold dlr at hd
          rw [h] at hd
          revert hd; decide
        · exact c ⟨hw, by rw [← h]; exact hd⟩
  have hn : ∀ {p : Sh}, tks p u.length = true → p.lv.length ≤ witN s t → witN s t ≤ u.length → (p.lv.length = lst p.lv ∨ p.op = true ∨ True) → lst p.lv ≤ witN s t → tks p (witN s t) = true := by
    intro p a b c _ _
    rcases tks_iff.1 a with e | ⟨e, f⟩
    · exact tks_iff.2 (.inl (by omega))
    · rcases Nat.lt_or_eq_of_le b with g | g
      · exact tks_iff.2 (.inr ⟨e, g⟩)
      · exact tks_iff.2 (.inl g.symm)
  have hw1 : s.lv.length ≤ witN s t := by unfold witN; omega
  have hw2 : t.lv.length ≤ witN s t := by unfold witN; omega
  have hw3 : witN s t ≤ u.length := by unfold witN; omega
  unfold witC
  rw [hn h1 hw1 hw3 (.inr (.inr trivial)) (by unfold witN; omega), hn k1 hw2 hw3 (.inr (.inr trivial)) (by unfold witN; omega), hz k1 k2 h3, hz h1 h2 k3]
  simp only [Bool.not_false, Bool.true_and, List.all_eq_true, List.mem_range]
  intro i _
  unfold okA
  simp only [Bool.or_eq_true, beq_iff_eq]
  by_cases hi : i < s.lv.length
  · by_cases hj : i < t.lv.length
    · rcases h2 i hi with a | a
      · exact .inr (.inl a)
      · rcases k2 i hj with b | b
        · exact .inr (.inr b)
        · exact .inl (a.trans b.symm)
    · exact .inr (.inr (atL_ge (by omega)))
  · exact .inr (.inl (atL_ge (by omega)))

theorem tks_least {t : Sh} (h : shok t) : tks t (lst t.lv) = true := by
  unfold lst
  split
  · rename_i he
    exact tks_iff.2 (.inr ⟨h.2 he, by rw [he]; simp⟩)
  · rcases Nat.eq_zero_or_pos t.lv.length with h0 | h0
    · exact tks_iff.2 (.inr ⟨h.1 (List.eq_nil_of_length_eq_zero h0), by omega⟩)
    · exact tks_iff.2 (.inl (by omega))
/-- The topic of a gap is matched by the second shape alone. -/
theorem gap_sound {s t : Sh} (ht : shok t) (h : gapC s t = true) : MT t (gapL s t) ∧ tok (gapL s t) ∧ ¬ MT s (gapL s t) := by
  have hlen : (gapL s t).length = gapN s t := fil_length _ _ _
  have hge := lst_ge t.lv
  have hpos := lst_pos t.lv
  have hN : (gapB s t = true ∧ gapN s t = lst t.lv) ∨ (gapB s t = false ∧ gapN s t = s.lv.length + 1 ∧ t.op = true ∧ s.op = false ∧ lst t.lv = s.lv.length) := by
    unfold gapC at h
    unfold gapN
    cases hb : gapB s t
    · right
      rw [hb] at h
      simp only [Bool.false_or, Bool.and_eq_true, Bool.not_eq_true'] at h
      unfold gapB at hb
      simp only [Bool.or_eq_false_iff, Bool.not_eq_false'] at hb
      refine ⟨rfl, by simp, h.1, h.2, ?_⟩
      rcases tks_iff.1 hb.1.1 with e | ⟨e, _⟩
      · exact e
      · rw [h.2] at e; cases e
    · exact .inl ⟨rfl, by simp⟩
  have hn1 : 1 ≤ gapN s t := by rcases hN with h | h <;> omega
  have hnt : t.lv.length ≤ gapN s t := by rcases hN with h | h <;> omega
  have hat : ∀ i, i < gapN s t → (gapL s t).getD i [] = if atL t.lv i = [43] then frs s.lv t.lv else atL t.lv i := fun i hi => fil_at hi
  refine ⟨⟨?_, fun i hi => ?_, ?_⟩, ⟨?_, ?_⟩, ?_⟩
  · rw [hlen]
    rcases hN with ⟨_, e⟩ | ⟨_, e, o, _, l⟩
    · rw [e]; exact tks_least ht
    · exact tks_iff.2 (.inr ⟨o, by omega⟩)
  · rw [hat i (by omega)]
    by_cases hb : atL t.lv i = [43]
    · exact .inl hb
    · right; rw [if_neg hb]
  · rintro ⟨hw, hd⟩
    rw [hat 0 (by omega), if_pos (beq_iff_eq.1 hw), frs_dl] at hd
    cases hd
  · intro e; rw [e] at hlen; simp at hlen; omega
  · intro e
    have hl1 : gapN s t = 1 := by rw [e] at hlen; simpa using hlen.symm
    have h0 := hat 0 (by omega)
    rw [e] at h0
    simp only [List.getD_cons_zero] at h0
    have l2 := lst_one (L := t.lv) (by rcases hN with h | h <;> omega)
    split at h0
    · exact (frs_ne s.lv t.lv).1 h0.symm
    · match hL : t.lv, l2, h0 with
      | [], _, h0 => cases h0
      | [x], l2, h0 => exact l2.1 (congrArg (fun z => [z]) h0.symm)
      | _ :: _ :: _, l2, _ => simp at l2
  · rintro ⟨m1, m2, m3⟩
    rw [hlen] at m1
    rcases hN with ⟨hb, e⟩ | ⟨_, e, _, o, _⟩
    · rw [e] at m1
      unfold gapB at hb
      rw [m1] at hb
      simp only [Bool.not_true, Bool.false_or, Bool.or_eq_true, Bool.and_eq_true, List.any_eq_true, List.mem_range] at hb
      rcases hb with ⟨hw, hd⟩ | ⟨i, hi, hg⟩
      · refine m3 ⟨hw, ?_⟩
        rw [hat 0 (by omega)]
        have hd' : dl (atL t.lv 0) = true := hd
        rw [if_neg (by intro e; rw [e] at hd'; revert hd'; decide)]
        exact hd'
      · unfold gapA at hg
        simp only [Bool.and_eq_true, Bool.not_eq_true', beq_eq_false_iff_ne] at hg
        have hil : i < s.lv.length := by omega
        rcases m2 i hil with a | a
        · exact hg.1 a
        · rw [hat i (by rw [e]; omega)] at a
          split at a
          · exact (frs_free s.lv t.lv).1 (a ▸ atL_mem hil)
          · exact hg.2 a
    · rcases tks_iff.1 m1 with x | ⟨x, _⟩
      · omega
      · rw [o] at x; cases x
/-- Where there is no gap, what the second matches the first does. -/
theorem gap_complete {s t : Sh} {u : List Bs} (h : gapC s t = false) (hu : tok u) (ht : MT t u) : MT s u := by
  have ls := mt_least hu ht
  unfold gapC at h
  simp only [Bool.or_eq_false_iff] at h
  obtain ⟨hb, ho⟩ := h
  unfold gapB at hb
  simp only [Bool.or_eq_false_iff, Bool.not_eq_false'] at hb
  obtain ⟨⟨h1, h2⟩, h3⟩ := hb
  have h3' : ∀ i, i < s.lv.length → atL s.lv i = [43] ∨ atL s.lv i = atL t.lv i := by
    intro i hi
    have hle := tks_le h1
    have := List.any_eq_false.1 h3 i (List.mem_range.2 (by omega))
    unfold gapA at this
    by_cases ha : atL s.lv i = [43]
    · exact .inl ha
    · by_cases hb : atL s.lv i = atL t.lv i
      · exact .inr hb
      · exfalso; apply this; simp [ha, hb]
  obtain ⟨k1, k2, k3⟩ := ht
  refine ⟨?_, fun i hi => ?_, ?_⟩
  · rcases tks_iff.1 h1 with e | ⟨e, f⟩
    · cases hso : s.op
      · rw [hso] at ho
        simp at ho
        rcases tks_iff.1 k1 with g | ⟨g, _⟩
        · have := lst_ge t.lv; exact tks_iff.2 (.inl (by omega))
        · rw [ho] at g; cases g
      · rcases Nat.lt_or_eq_of_le (show s.lv.length ≤ u.length by omega) with g | g
        · exact tks_iff.2 (.inr ⟨hso, g⟩)
        · exact tks_iff.2 (.inl g.symm)
    · exact tks_iff.2 (.inr ⟨e, by omega⟩)
  · rcases h3' i hi with a | a
    · exact .inl a
    · by_cases hb : atL t.lv i = [43]
      · exact .inl (a.trans hb)
      · have hj : i < t.lv.length := by
          apply Decidable.byContradiction
          intro hc
          exact hb (atL_ge (by omega))
        rcases k2 i hj with b | b
        · exact absurd b hb
        · exact .inr (a.trans b)
  · rintro ⟨hw, hd⟩
    have hwt : wld t.lv = false := by
      cases hx : wld t.lv
      · rfl
      · exact absurd ⟨hx, hd⟩ k3
    have h0 : atL t.lv 0 ≠ [43] := beq_eq_false_iff_ne.1 hwt
    have hj : 0 < t.lv.length := by
      apply Decidable.byContradiction
      intro hc
      exact h0 (atL_ge (by omega))
    rcases k2 0 hj with b | b
    · exact h0 b
    · have : dlr t.lv = true := by unfold dlr; rw [b]; exact hd
      rw [hw, this] at h2
      cases h2
end Go.Proofs.YtichhppfdjkgkaaDoor.Pl
