/- Parts of the proof, joined: SplitPlain, StrP, RefSplit, Split, Str0, StrF. -/
import Derived.Test.YtedapgeabpadaaaDoorH6P5
import Derived.Laws.Strings
import Derived.Test.YtedapgeabpadaaaDoorH6P18
import Derived.Test.YtedapgeabpadaaaDoorH6P3
import Derived.Deep.RegionHeld3
import Derived.Deep.AppendLies
import Derived.IntWalk
import Derived.WalkMore
import Derived.Deep.QuietTactic
import Derived.BigQuiet
import Derived.Deep.DeepCutAuto
import Derived.Laws.CopyOwn
/- Plain facts: the packets' bytes that bytes begin with; no program in sight. -/
namespace Go.Proofs.YtedapgeabpadaaaDoor.Pl
open Go.PlainAid (bt bt_nonneg bt_le get_bt bt_end)

/-- The pieces that bytes are split into, what is left, and the code. -/
def splitF (most : Int) : Nat → ByteArray → List ByteArray × ByteArray × Int
  | 0, s => ([], s, 0)
  | f + 1, s =>
    if s.size = 0 then ([], s, 0)
    else if (getV s 1).2.2 = 242 then ([], s, 0)
    else if (getV s 1).2.2 ≠ 0 then ([], s, (getV s 1).2.2)
    else if most < (getV s 1).2.1 + (getV s 1).1 then ([], s, 149)
    else if (s.size : Int) < (getV s 1).2.1 + (getV s 1).1 then ([], s, 0)
    else (s.extract 0 ((getV s 1).2.1 + (getV s 1).1).toNat :: (splitF most f (s.extract ((getV s 1).2.1 + (getV s 1).1).toNat s.size)).1, (splitF most f (s.extract ((getV s 1).2.1 + (getV s 1).1).toNat s.size)).2)

/-- What a number at place 1 may be. -/
theorem get1 {s : ByteArray} {v e : Int} (hs : 1 ≤ s.size) (h : getV s 1 = (v, e, 0)) : ∃ m k : Nat, v = m ∧ e = k ∧ 2 ≤ k ∧ k ≤ 5 ∧ k ≤ s.size ∧ m ≤ 268435455 := by
  rw [show (1 : Int) = ((1 : Nat) : Int) from rfl, getV_ok (by omega)] at h
  obtain ⟨r, n, hr1, hr4, hv, hn0, hn1, hmin, he, hsz, hby⟩ := gi_back s 4 0 1 0 v e h
  obtain rfl : v = n := by rw [hv]; simp
  have hmax : v ≤ 268435455 := by
    obtain rfl | rfl | rfl | rfl : r = 1 ∨ r = 2 ∨ r = 3 ∨ r = 4 := by omega
    all_goals (simp at hn1; omega)
  exact ⟨v.toNat, 1 + r, by omega, he, by omega, by omega, hsz, by omega⟩

theorem split_end {most : Int} {f : Nat} {s : ByteArray} (h : s.size = 0) : splitF most f s = ([], s, 0) := by
  cases f with
  | zero => rfl
  | succ f => unfold splitF; rw [if_pos h]
theorem split_none {most : Int} {f : Nat} {s : ByteArray} {v e : Int} (hs : s.size ≤ f) (h0 : s.size ≠ 0) (h : getV s 1 = (v, e, 242)) : splitF most f s = ([], s, 0) := by
  obtain ⟨g, rfl⟩ : ∃ g, f = g + 1 := ⟨f - 1, by omega⟩
  unfold splitF; rw [if_neg h0, h, if_pos rfl]
theorem split_code {most : Int} {f : Nat} {s : ByteArray} {v e c : Int} (hs : s.size ≤ f) (h0 : s.size ≠ 0) (h : getV s 1 = (v, e, c)) (h1 : c ≠ 242) (h2 : c ≠ 0) : splitF most f s = ([], s, c) := by
  obtain ⟨g, rfl⟩ : ∃ g, f = g + 1 := ⟨f - 1, by omega⟩
  unfold splitF; rw [if_neg h0, h, if_neg h1, if_pos h2]
theorem split_large {most : Int} {f : Nat} {s : ByteArray} {v e : Int} (hs : s.size ≤ f) (h0 : s.size ≠ 0) (h : getV s 1 = (v, e, 0)) (h1 : most < e + v) : splitF most f s = ([], s, 149) := by
  obtain ⟨g, rfl⟩ : ∃ g, f = g + 1 := ⟨f - 1, by omega⟩
  unfold splitF; rw [if_neg h0, h]; simp [h1]
theorem split_short {most : Int} {f : Nat} {s : ByteArray} {v e : Int} (hs : s.size ≤ f) (h0 : s.size ≠ 0) (h : getV s 1 = (v, e, 0)) (h1 : ¬ most < e + v) (h2 : (s.size : Int) < e + v) : splitF most f s = ([], s, 0) := by
  obtain ⟨g, rfl⟩ : ∃ g, f = g + 1 := ⟨f - 1, by omega⟩
  unfold splitF; rw [if_neg h0, h]; simp [h1, h2]
theorem split_more {most : Int} {f : Nat} {s : ByteArray} {m k : Nat} (hs : s.size ≤ f) (h0 : s.size ≠ 0) (h : getV s 1 = ((m : Int), (k : Int), 0)) (h1 : ¬ most < (k : Int) + m) (h2 : k + m ≤ s.size) :
    splitF most f s = (s.extract 0 (k + m) :: (splitF most (f - 1) (s.extract (k + m) s.size)).1, (splitF most (f - 1) (s.extract (k + m) s.size)).2) := by
  obtain ⟨g, rfl⟩ : ∃ g, f = g + 1 := ⟨f - 1, by omega⟩
  have e : ((k : Int) + (m : Int)).toNat = k + m := by omega
  have h3 : ¬ ((s.size : Int) < (k : Int) + m) := by omega
  conv => lhs; unfold splitF
  rw [if_neg h0, h]
  simp only [ne_eq, not_true_eq_false, if_false, h1, h3, e, Nat.add_sub_cancel]
  rfl
theorem split_codes (most : Int) : ∀ (f : Nat) (s : ByteArray), 0 ≤ (splitF most f s).2.2 ∧ (splitF most f s).2.2 ≤ 242 := by
  intro f
  induction f with
  | zero => intro s; exact ⟨Int.le_refl _, by show (0 : Int) ≤ 242; decide⟩
  | succ f ih =>
    intro s
    have hc := getV_code s 1
    unfold splitF
    repeat' split
    all_goals first | exact ih _ | exact hc | exact ⟨by simp, by simp⟩
end Go.Proofs.YtedapgeabpadaaaDoor.Pl

/- Packets out of bytes that come piece by piece: plain. -/
namespace Go.Proofs.YtedapgeabpadaaaDoor
set_option linter.unusedVariables false
set_option linter.unusedSimpArgs false
open Go.RowKit Pl Go.PlainAid

theorem bt_app {x y : ByteArray} {a : Nat} (h : a < x.size) : bt (x ++ y) a = bt x a := bt_left x y h
theorem gi_ext (x y : ByteArray) : ∀ (f k : Nat) (m : Int) (a : Nat), (gi x f k m a).2.2 ≠ 242 → gi (x ++ y) f k m a = gi x f k m a
  | 0, k, m, a, _ => rfl
  | f + 1, k, m, a, h => by
    by_cases h1 : x.size ≤ a
    · rw [gi_end h1] at h; exact absurd rfl h
    · have h2 : ¬ (x ++ y).size ≤ a := by rw [ByteArray.size_append]; omega
      have hb : bt (x ++ y) a = bt x a := bt_app (by omega)
      by_cases h3 : bt x a < 128
      · by_cases h4 : 0 < k ∧ bt x a = 0
        · rw [gi_long h1 h3 h4, gi_long h2 (by rw [hb]; exact h3) (by rw [hb]; exact h4)]
        · rw [gi_last h1 h3 h4, gi_last h2 (by rw [hb]; exact h3) (by rw [hb]; exact h4), hb]
      · rw [gi_more h1 (by omega)] at h ⊢
        rw [gi_more h2 (by rw [hb]; omega), hb]
        exact gi_ext x y f (k + 1) _ (a + 1) h
theorem getV_ext {x y : ByteArray} (hx : 1 ≤ x.size) (h : (getV x 1).2.2 ≠ 242) : getV (x ++ y) 1 = getV x 1 := by
  have e1 : getV x 1 = gi x 4 0 0 1 := getV_ok (a := 1) (by omega)
  have e2 : getV (x ++ y) 1 = gi (x ++ y) 4 0 0 1 := getV_ok (a := 1) (by rw [ByteArray.size_append]; omega)
  rw [e1] at h ⊢
  rw [e2]
  exact gi_ext x y 4 0 0 1 h
theorem ext_left {x y : ByteArray} {i j : Nat} (h : j ≤ x.size) : (x ++ y).extract i j = x.extract i j := by
  apply ByteArray.ext
  apply Array.toList_inj.1
  rw [ByteArray.data_extract, ByteArray.data_extract, ByteArray.data_append]
  simp only [Array.toList_extract, Array.toList_append, List.extract_eq_take_drop]
  have hx : j ≤ x.data.toList.length := h
  by_cases hi : i ≤ j
  · rw [List.drop_append_of_le_length (by omega), List.take_append_of_le_length (by rw [List.length_drop]; omega)]
  · have : j - i = 0 := by omega
    rw [this, List.take_zero, List.take_zero]
theorem ext_right {x y : ByteArray} {i : Nat} (h : i ≤ x.size) : (x ++ y).extract i (x ++ y).size = x.extract i x.size ++ y := by
  apply ByteArray.ext
  apply Array.toList_inj.1
  rw [ByteArray.data_append, ByteArray.data_extract, ByteArray.data_extract, ByteArray.data_append]
  have hs : (x ++ y).size = x.data.size + y.data.size := ByteArray.size_append
  have hx : x.size = x.data.size := rfl
  rw [hs, hx]
  simp only [Array.toList_extract, Array.toList_append, List.extract_eq_take_drop]
  rw [List.drop_append_of_le_length (by simpa using h), List.take_append]
  have e1 : (List.drop i x.data.toList).length = x.data.size - i := by simp
  rw [e1]
  have h1 : x.data.size + y.data.size - i - (x.data.size - i) = y.data.size := by
    have : i ≤ x.data.size := h
    omega
  rw [h1]
  congr 1
  · rw [List.take_of_length_le (by rw [e1]; omega), List.take_of_length_le (by rw [e1]; exact Nat.le_refl _)]
  · rw [List.take_of_length_le (by simp)]
/-- What a step of the splitting does. -/
theorem split_fuel (most : Int) : ∀ (n f g : Nat) (s : ByteArray), s.size ≤ n → s.size ≤ f → s.size ≤ g → splitF most f s = splitF most g s := by
  intro n
  induction n with
  | zero => intro f g s h h1 h2; rw [split_end (by omega), split_end (by omega)]
  | succ n ih =>
    intro f g s hn h1 h2
    by_cases h0 : s.size = 0
    · rw [split_end h0, split_end h0]
    · obtain ⟨⟨v, e, c⟩, hv⟩ : ∃ x, getV s 1 = x := ⟨_, rfl⟩
      by_cases c1 : c = 242
      · subst c1; rw [split_none h1 h0 hv, split_none h2 h0 hv]
      · by_cases c2 : c ≠ 0
        · rw [split_code h1 h0 hv c1 c2, split_code h2 h0 hv c1 c2]
        · have c2 : c = 0 := Classical.byContradiction c2
          subst c2
          by_cases c3 : most < e + v
          · rw [split_large h1 h0 hv c3, split_large h2 h0 hv c3]
          · obtain ⟨m, k, rfl, rfl, k2, k5, ks, hm⟩ := get1 (by omega) hv
            by_cases c4 : (s.size : Int) < (k : Int) + m
            · rw [split_short h1 h0 hv c3 c4, split_short h2 h0 hv c3 c4]
            · rw [split_more h1 h0 hv c3 (by omega), split_more h2 h0 hv c3 (by omega)]
              have hz : (s.extract (k + m) s.size).size = s.size - (k + m) := by rw [ByteArray.size_extract]; omega
              rw [ih (f - 1) (g - 1) _ (by omega) (by omega) (by omega)]
def sp (most : Int) (s : ByteArray) : List ByteArray × ByteArray × Int := splitF most s.size s
theorem sp_of {most : Int} {f : Nat} {s : ByteArray} (h : s.size ≤ f) : splitF most f s = sp most s := split_fuel most s.size f s.size s (Nat.le_refl _) h (Nat.le_refl _)
theorem sp_more {most : Int} {s : ByteArray} {m k : Nat} (h0 : s.size ≠ 0) (h : getV s 1 = ((m : Int), (k : Int), 0)) (h1 : ¬ most < (k : Int) + m) (h2 : k + m ≤ s.size) (hk : 1 ≤ k) :
    sp most s = (s.extract 0 (k + m) :: (sp most (s.extract (k + m) s.size)).1, (sp most (s.extract (k + m) s.size)).2) := by
  unfold sp
  rw [split_more (Nat.le_refl _) h0 h h1 h2, sp_of (by rw [ByteArray.size_extract]; omega)]
  rfl
/-- More bytes behind. -/
theorem sp_app (most : Int) (y : ByteArray) : ∀ (n : Nat) (x : ByteArray), x.size ≤ n →
    ((sp most x).2.2 = 0 → sp most (x ++ y) = ((sp most x).1 ++ (sp most ((sp most x).2.1 ++ y)).1, (sp most ((sp most x).2.1 ++ y)).2) ∧ sp most (sp most x).2.1 = ([], (sp most x).2.1, 0)) ∧
    ((sp most x).2.2 ≠ 0 → (sp most (x ++ y)).1 = (sp most x).1 ∧ (sp most (x ++ y)).2.2 = (sp most x).2.2) := by
  have triv : ∀ x : ByteArray, sp most x = ([], x, 0) →
    ((sp most x).2.2 = 0 → sp most (x ++ y) = ((sp most x).1 ++ (sp most ((sp most x).2.1 ++ y)).1, (sp most ((sp most x).2.1 ++ y)).2) ∧ sp most (sp most x).2.1 = ([], (sp most x).2.1, 0)) ∧
    ((sp most x).2.2 ≠ 0 → (sp most (x ++ y)).1 = (sp most x).1 ∧ (sp most (x ++ y)).2.2 = (sp most x).2.2) := by
    intro x h
    rw [h]
    exact ⟨fun _ => ⟨by simp, h⟩, fun c => absurd rfl c⟩
  intro n
  induction n with
  | zero => intro x h; exact triv x (split_end (by omega))
  | succ n ih =>
    intro x hn
    by_cases h0 : x.size = 0
    · exact triv x (split_end h0)
    · obtain ⟨⟨v, e, c⟩, hv⟩ : ∃ r, getV x 1 = r := ⟨_, rfl⟩
      by_cases c1 : c = 242
      · subst c1; exact triv x (split_none (Nat.le_refl _) h0 hv)
      · have hxy : (x ++ y).size ≠ 0 := by rw [ByteArray.size_append]; omega
        have hv2 : getV (x ++ y) 1 = (v, e, c) := by rw [getV_ext (by omega) (by rw [hv]; exact c1)]; exact hv
        by_cases c2 : c ≠ 0
        · have e1 : sp most x = ([], x, c) := split_code (Nat.le_refl _) h0 hv c1 c2
          have e2 : sp most (x ++ y) = ([], x ++ y, c) := split_code (Nat.le_refl _) hxy hv2 c1 c2
          rw [e1, e2]
          exact ⟨fun h => absurd h c2, fun _ => ⟨rfl, rfl⟩⟩
        · have c2 : c = 0 := Classical.byContradiction c2
          subst c2
          by_cases c3 : most < e + v
          · have e1 : sp most x = ([], x, 149) := split_large (Nat.le_refl _) h0 hv c3
            have e2 : sp most (x ++ y) = ([], x ++ y, 149) := split_large (Nat.le_refl _) hxy hv2 c3
            rw [e1, e2]
            exact ⟨fun h => absurd h (by simp), fun _ => ⟨rfl, rfl⟩⟩
          · obtain ⟨m, k, rfl, rfl, k2, k5, ks, hm⟩ := get1 (by omega) hv
            by_cases c4 : (x.size : Int) < (k : Int) + m
            · exact triv x (split_short (Nat.le_refl _) h0 hv c3 c4)
            · have e1 := sp_more h0 hv c3 (by omega) (by omega)
              have e2 := sp_more hxy hv2 c3 (by rw [ByteArray.size_append]; omega) (by omega)
              rw [ext_left (by omega), ext_right (by omega)] at e2
              have hz : (x.extract (k + m) x.size).size = x.size - (k + m) := by rw [ByteArray.size_extract]; omega
              obtain ⟨i1, i2⟩ := ih (x.extract (k + m) x.size) (by omega)
              rw [e1, e2]
              simp only
              refine ⟨fun h => ?_, fun h => ?_⟩
              · obtain ⟨j1, j2⟩ := i1 h
                rw [j1]
                exact ⟨by simp, j2⟩
              · obtain ⟨j1, j2⟩ := i2 h
                rw [j1, j2]
                exact ⟨rfl, rfl⟩
/-! The packets of the pieces. -/
def getsP : List ByteArray → List Pk × Int
  | [] => ([], 0)
  | b :: r => if (pkGet b).2 ≠ 0 then ([], (pkGet b).2) else ((pkGet b).1 :: (getsP r).1, (getsP r).2)
theorem gets_bad {b : ByteArray} {r : List ByteArray} {p : Pk} {c : Int} (h : pkGet b = (p, c)) (hc : c ≠ 0) : getsP (b :: r) = ([], c) := by
  unfold getsP; rw [h]; rw [if_pos hc]
theorem gets_ok {b : ByteArray} {r : List ByteArray} {p : Pk} (h : pkGet b = (p, 0)) : getsP (b :: r) = (p :: (getsP r).1, (getsP r).2) := by
  conv => lhs; unfold getsP
  rw [h]; rfl
theorem gets_app (M : List ByteArray) : ∀ L : List ByteArray, ((getsP L).2 = 0 → getsP (L ++ M) = ((getsP L).1 ++ (getsP M).1, (getsP M).2)) ∧ ((getsP L).2 ≠ 0 → getsP (L ++ M) = getsP L) := by
  intro L
  induction L with
  | nil => exact ⟨fun _ => by simp [getsP], fun h => absurd rfl h⟩
  | cons b r ih =>
    obtain ⟨⟨p, c⟩, hb⟩ : ∃ x, pkGet b = x := ⟨_, rfl⟩
    by_cases hc : c ≠ 0
    · rw [List.cons_append, gets_bad hb hc, gets_bad hb hc]
      exact ⟨fun h => absurd h hc, fun _ => rfl⟩
    · have hc : c = 0 := Classical.byContradiction hc
      subst hc
      rw [List.cons_append, gets_ok hb, gets_ok hb]
      refine ⟨fun h => ?_, fun h => ?_⟩
      · rw [ih.1 h]; rfl
      · rw [ih.2 h]
theorem gets_len : ∀ L : List ByteArray, (getsP L).1.length ≤ L.length := by
  intro L
  induction L with
  | nil => exact Nat.le_refl _
  | cons b r ih =>
    unfold getsP
    split
    · exact Nat.zero_le _
    · exact Nat.succ_le_succ ih
/-- One call of Feed: the packets, what is left, the code. -/
def feedC (most : Int) (x : ByteArray) : Int := if (getsP (sp most x).1).2 ≠ 0 then (getsP (sp most x).1).2 else (sp most x).2.2
def feedL (most : Int) (x : ByteArray) : List Pk := (getsP (sp most x).1).1
def feedR (most : Int) (x : ByteArray) : ByteArray := if feedC most x ≠ 0 then ⟨#[]⟩ else (sp most x).2.1
theorem feed_app (most : Int) (x y : ByteArray) : (feedC most x = 0 → feedL most (x ++ y) = feedL most x ++ feedL most (feedR most x ++ y) ∧ feedC most (x ++ y) = feedC most (feedR most x ++ y) ∧ feedL most (feedR most x) = [] ∧ feedC most (feedR most x) = 0) ∧
    (feedC most x ≠ 0 → feedL most (x ++ y) = feedL most x ∧ feedC most (x ++ y) = feedC most x) := by
  obtain ⟨a1, a2⟩ := sp_app most y x.size x (Nat.le_refl _)
  obtain ⟨g1, g2⟩ := gets_app (sp most ((sp most x).2.1 ++ y)).1 (sp most x).1
  refine ⟨fun h => ?_, fun h => ?_⟩
  · have hr : feedR most x = (sp most x).2.1 := by unfold feedR; rw [if_neg (fun c => c h)]
    unfold feedC at h
    by_cases c : (getsP (sp most x).1).2 ≠ 0
    · rw [if_pos c] at h; exact absurd h c
    · rw [if_neg c] at h
      have c : (getsP (sp most x).1).2 = 0 := Classical.byContradiction c
      obtain ⟨b1, b2⟩ := a1 h
      rw [hr]
      unfold feedL feedC
      rw [b1]
      simp only
      rw [g1 c, b2]
      exact ⟨rfl, rfl, rfl, rfl⟩
  · unfold feedC at h ⊢
    unfold feedL
    by_cases c : (getsP (sp most x).1).2 ≠ 0
    · rw [if_pos c]
      by_cases d : (sp most x).2.2 = 0
      · rw [(a1 d).1]
        simp only
        rw [g2 c, if_pos c]
        exact ⟨rfl, rfl⟩
      · rw [(a2 d).1, if_pos c]
        exact ⟨rfl, rfl⟩
    · rw [if_neg c] at h ⊢
      rw [(a2 h).1, if_neg c, (a2 h).2]
      exact ⟨rfl, rfl⟩
/-- All packets that pieces tell, put again, and the code. -/
def toldP (most : Int) : ByteArray → List ByteArray → List ByteArray × Int
  | _, [] => ([], 0)
  | left, s :: r => if feedC most (left ++ s) ≠ 0 then ((feedL most (left ++ s)).map pkS, feedC most (left ++ s)) else ((feedL most (left ++ s)).map pkS ++ (toldP most (feedR most (left ++ s)) r).1, (toldP most (feedR most (left ++ s)) r).2)
def catB : List ByteArray → ByteArray
  | [] => ⟨#[]⟩
  | s :: r => s ++ catB r
theorem app_nil (x : ByteArray) : x ++ (⟨#[]⟩ : ByteArray) = x := by
  apply ByteArray.ext
  rw [ByteArray.data_append]
  simp
theorem nil_app (x : ByteArray) : (⟨#[]⟩ : ByteArray) ++ x = x := by
  apply ByteArray.ext
  rw [ByteArray.data_append]
  simp
theorem app_assoc (x y z : ByteArray) : x ++ y ++ z = x ++ (y ++ z) := by
  apply ByteArray.ext
  rw [ByteArray.data_append, ByteArray.data_append, ByteArray.data_append, ByteArray.data_append, Array.append_assoc]
/-- In whatever pieces: the same. -/
theorem told_cat (most : Int) : ∀ (ps : List ByteArray) (left : ByteArray), feedL most left = [] → feedC most left = 0 → toldP most left ps = ((feedL most (left ++ catB ps)).map pkS, feedC most (left ++ catB ps)) := by
  intro ps
  induction ps with
  | nil =>
    intro left h1 h2
    show ([], (0 : Int)) = _
    rw [show catB [] = (⟨#[]⟩ : ByteArray) from rfl, app_nil, h1, h2]
    rfl
  | cons s r ih =>
    intro left h1 h2
    obtain ⟨f1, f2⟩ := feed_app most (left ++ s) (catB r)
    rw [show catB (s :: r) = s ++ catB r from rfl, ← app_assoc]
    show (if feedC most (left ++ s) ≠ 0 then _ else _) = _
    by_cases c : feedC most (left ++ s) ≠ 0
    · rw [if_pos c, (f2 c).1, (f2 c).2]
    · rw [if_neg c]
      have c : feedC most (left ++ s) = 0 := Classical.byContradiction c
      obtain ⟨e1, e2, e3, e4⟩ := f1 c
      rw [ih _ e3 e4, e1, e2, List.map_append]
theorem feed_nil (most : Int) : feedL most ⟨#[]⟩ = [] ∧ feedC most ⟨#[]⟩ = 0 := by
  have e : sp most ⟨#[]⟩ = ([], ⟨#[]⟩, 0) := split_end rfl
  unfold feedL feedC
  rw [e]
  exact ⟨rfl, rfl⟩
theorem told_same (most : Int) (ps : List ByteArray) (s : ByteArray) (h : catB ps = s) : toldP most ⟨#[]⟩ ps = toldP most ⟨#[]⟩ [s] := by
  obtain ⟨n1, n2⟩ := feed_nil most
  rw [told_cat most ps ⟨#[]⟩ n1 n2, told_cat most [s] ⟨#[]⟩ n1 n2, h]
  rw [show catB [s] = s ++ (⟨#[]⟩ : ByteArray) from rfl, app_nil]
/-! Packets put one behind the other. -/
def fit5 (c : Int) : Prop := c = 65541
theorem sp_put {q : Pk} (h : pkC q = 0) (y : ByteArray) : sp 65541 (pkS q ++ y) = (pkS q :: (sp 65541 y).1, (sp 65541 y).2) := by
  have hs := pk_shp h
  obtain ⟨_, hv⟩ := shp_more (t := y) hs
  have hl := shp_len hs
  have hL := hs.L1
  have hz := hs.size
  have e := sp_more (most := 65541) (s := pkS q ++ y) (by rw [ByteArray.size_append]; omega) hv (by omega) (by rw [ByteArray.size_append]; omega) (by omega)
  have hk : 1 + (enc ((wAll q).s.size : Int)).length + (wAll q).s.size = (pkS q).size := by omega
  rw [hk, ext_left (Nat.le_refl _), ext_right (Nat.le_refl _)] at e
  rw [e, ByteArray.extract_zero_size, show (pkS q).extract (pkS q).size (pkS q).size = ⟨#[]⟩ from by apply ByteArray.ext; simp [ByteArray.data_extract], nil_app]
theorem sp_tail {q : Pk} (h : pkC q = 0) {c : Nat} (hc : c < (pkS q).size) : sp 65541 ((pkS q).extract 0 c) = ([], (pkS q).extract 0 c, 0) := by
  have hs := pk_shp h
  have hl := shp_len hs
  have hL := hs.L1
  have hz := hs.size
  by_cases h0 : c = 0
  · subst h0
    exact split_end (by rw [ByteArray.size_extract]; omega)
  · obtain ⟨b0, hsz, hv⟩ := shp_cut hs (by omega) hc
    rcases hv with hv | ⟨hv, v1, v2⟩
    · exact split_none (Nat.le_refl _) (by omega) hv
    · exact split_short (Nat.le_refl _) (by omega) hv (by omega) (by omega)
theorem sp_all : ∀ (L : List Pk) (y : ByteArray), (∀ q ∈ L, pkC q = 0) → sp 65541 y = ([], y, 0) → sp 65541 (catB (L.map pkS) ++ y) = (L.map pkS, y, 0) := by
  intro L
  induction L with
  | nil => intro y _ h; rw [List.map_nil, show catB [] = (⟨#[]⟩ : ByteArray) from rfl, nil_app, h]
  | cons q r ih =>
    intro y hq h
    rw [List.map_cons, show catB (pkS q :: r.map pkS) = pkS q ++ catB (r.map pkS) from rfl, app_assoc, sp_put (hq q (by simp)), ih y (fun x hx => hq x (by simp [hx])) h]
theorem gets_all : ∀ (L : List Pk), (∀ q ∈ L, pkC q = 0) → getsP (L.map pkS) = (L.map cn, 0) := by
  intro L
  induction L with
  | nil => intro _; rfl
  | cons q r ih =>
    intro hq
    rw [List.map_cons, gets_ok (fwd_pk (hq q (by simp))), ih (fun x hx => hq x (by simp [hx]))]
    rfl
theorem feed_all {L : List Pk} {y : ByteArray} (h : ∀ q ∈ L, pkC q = 0) (hy : sp 65541 y = ([], y, 0)) : feedL 65541 (catB (L.map pkS) ++ y) = L.map cn ∧ feedC 65541 (catB (L.map pkS) ++ y) = 0 ∧ feedR 65541 (catB (L.map pkS) ++ y) = y := by
  have e := sp_all L y h hy
  have c : feedC 65541 (catB (L.map pkS) ++ y) = 0 := by
    unfold feedC
    rw [e]
    simp only
    rw [gets_all L h]
    rfl
  refine ⟨?_, c, ?_⟩
  · unfold feedL
    rw [e]
    simp only
    rw [gets_all L h]
  · unfold feedR
    rw [if_neg (fun x => x c), e]
end Go.Proofs.YtedapgeabpadaaaDoor

/- The walk of the document's Split. -/
namespace Go.Proofs.YtedapgeabpadaaaDoor
set_option linter.unusedVariables false
open Go.RowKit Pl

theorem info_str : (Tryd.prog.info? 9).map (fun i => (i.zero, i.size, i.bytes)) = some (some (.string ⟨#[]⟩), 1, 16) := by kernel_rfl
def strSz : Value → Nat
  | .string s => s.size
  | _ => 0
theorem size_nil {x : ByteArray} (h : x.size = 0) : x = ⟨#[]⟩ := by
  apply ByteArray.ext
  exact Array.eq_empty_of_size_eq_zero h

set_option maxRecDepth 100000 in
theorem refsplit_any (s : ByteArray) (most : Int) (w : World) (hs : s.size ≤ 1048576) (h0 : -9223372036854775808 ≤ most) (h1 : most ≤ 9223372036854775807) :
    Calls Tryd.prog 18 #[.string s, .int .i64 most] w fun e w' => ∃ v, e = .returned (.tuple #[v, .string (splitF most s.size s).2.1, .int .i64 (splitF most s.size s).2.2]) ∧
      w'.ownsRow w.heap.size 9 1 v (splitF most s.size s).1.length ((splitF most s.size s).1.map Value.string) ∧ Below w.heap.size w w' := by
  obtain ⟨i0, hi, hz0, hz1, hz2⟩ := info_parts info_str
  go_enter Tryd.func18, Tryd.ntmps18
  go_wp2
  go_loopw [0, 7] (fun a b wr => ∃ (x : ByteArray) (f : Nat) (l : List ByteArray), a = .string x ∧ x.size ≤ f ∧ l.length + x.size ≤ s.size ∧ wr.ownsRow w.heap.size 9 1 b l.length (l.map Value.string) ∧
      Hid (splitF most s.size s = (l ++ (splitF most f x).1, (splitF most f x).2)) ∧ Below w.heap.size w wr) (fun a _ _ => strSz a)
  case atStart => exact ⟨s, s.size, [], rfl, by omega, by simp, World.ownsRow_nil _ _ _ _, Lib.hid (by simp), Below.refl _ _⟩
  case round =>
    obtain ⟨x, f, l, rfl, hf, hl, hown, hv, hbel⟩ := hrel
    by_cases hx : x.size = 0
    · have he := size_nil hx
      have hr := Lib.hid (hv.out.trans (by rw [split_end hx]))
      subst he
      go_wp2
      go_ret3
      exact ⟨_, ret3 rfl (val_bytes (by rw [hr.out])) (val_int (by rw [hr.out])), by rw [hr.out]; simpa using hown, hbel⟩
    · have hpos : 0 < x.size := by omega
      obtain ⟨v, e, c, hg⟩ : ∃ v e c, getV x 1 = (v, e, c) := ⟨_, _, _, rfl⟩
      have hc := getV_code x 1
      rw [hg] at hc
      have hc0 : 0 ≤ c := hc.1
      have hc1 : c ≤ 242 := hc.2
      clear hc
      have Hg := Lib.hid hg
      clear hg
      by_cases c242 : c = 242
      · have hr := Lib.hid (hv.out.trans (by rw [split_none hf hx (by rw [← c242]; exact Hg.out)]))
        subst c242
        go_wp2_with fail
        refine (refget_all x 1 _ (by omega) (by omega) (by omega)).mono ?_
        rintro e w1 ⟨rfl, rfl⟩
        rw [Hg.out]
        go_wp2
        go_ret3
        exact ⟨_, ret3 rfl (val_bytes (by rw [hr.out])) (val_int (by rw [hr.out])), by rw [hr.out]; simpa using hown, hbel⟩
      · by_cases c0 : c = 0
        · subst c0
          clear c242 hc0 hc1
          obtain ⟨m, k, rfl, rfl, hk2, hk5, hkx, hm⟩ := get1 (by omega) Hg.out
          by_cases hmost : most < (k : Int) + m
          · have hr := Lib.hid (hv.out.trans (by rw [split_large hf hx Hg.out hmost]))
            go_wp2_with fail
            refine (refget_all x 1 _ (by omega) (by omega) (by omega)).mono ?_
            rintro e w1 ⟨rfl, rfl⟩
            rw [Hg.out]
            go_wp2
            go_ret3
            exact ⟨_, ret3 rfl (val_bytes (by rw [hr.out])) (val_int (by rw [hr.out])), by rw [hr.out]; simpa using hown, hbel⟩
          · by_cases hshort : (x.size : Int) < (k : Int) + m
            · have hr := Lib.hid (hv.out.trans (by rw [split_short hf hx Hg.out hmost hshort]))
              go_wp2_with fail
              refine (refget_all x 1 _ (by omega) (by omega) (by omega)).mono ?_
              rintro e w1 ⟨rfl, rfl⟩
              rw [Hg.out]
              go_wp2
              go_ret3
              exact ⟨_, ret3 rfl (val_bytes (by rw [hr.out])) (val_int (by rw [hr.out])), by rw [hr.out]; simpa using hown, hbel⟩
            · have hkm : k + m ≤ x.size := by omega
              have hr := Lib.hid (hv.out.trans (by rw [split_more hf hx Hg.out hmost hkm]))
              have hbytes : (l.length + 1) * 16 ≤ 140737488355328 := by omega
              go_wp2_with fail
              refine (refget_all x 1 _ (by omega) (by omega) (by omega)).mono ?_
              rintro e w1 ⟨rfl, rfl⟩
              rw [Hg.out]
              go_wp2_with (at_builtin; refine wpList_push (.tmp 44) (.tmp 50) 22 9 i0 (.string ⟨#[]⟩) 16 rfl rfl Tryd.underlying22 hi hz0 hz1 hz2 rfl w.heap.size _ l.length (l.map Value.string) (.string (x.extract 0 (k + m))) rfl rfl hown hbel hbel.size rfl (by simp [maxLen]; omega) hbytes ?_; intro v' w1 hown1 hbel1 hs1 hn1)
              go_wp2
              go_roundw
              case rel => exact ⟨x.extract (k + m) x.size, f - 1, l ++ [x.extract 0 (k + m)], rfl, by rw [ByteArray.size_extract]; omega, by rw [ByteArray.size_extract, List.length_append, List.length_singleton]; omega, by simpa using hown1, Lib.hid (by rw [hr.out]; simp), hbel1⟩
              case measure => simp [strSz]; omega
        · have hr := Lib.hid (hv.out.trans (by rw [split_code hf hx Hg.out c242 c0]))
          go_wp2_with fail
          refine (refget_all x 1 _ (by omega) (by omega) (by omega)).mono ?_
          rintro e w1 ⟨rfl, rfl⟩
          rw [Hg.out]
          go_wp2
          go_ret3
          exact ⟨_, ret3 rfl (val_bytes (by rw [hr.out])) (val_int (by rw [hr.out])), by rw [hr.out]; simpa using hown, hbel⟩
end Go.Proofs.YtedapgeabpadaaaDoor

/- The walk of stream.Split. -/
namespace Go.Proofs.YtedapgeabpadaaaDoor
set_option linter.unusedVariables false
open Go.RowKit Pl

theorem emp_not {x : ByteArray} (h : x.size ≠ 0) : x.toList.isEmpty = false := by
  rw [ByteArray.toList_eq, List.isEmpty_eq_false_iff]
  intro hc
  have := congrArg List.length hc
  exact h this

set_option maxRecDepth 100000 in
theorem split_any (s : ByteArray) (most : Int) (w : World) (hs : s.size ≤ 1048576) (h0 : -9223372036854775808 ≤ most) (h1 : most ≤ 9223372036854775807) :
    Calls Tryd.prog 16 #[.string s, .int .i64 most] w fun e w' => ∃ v, e = .returned (.tuple #[v, .string (splitF most s.size s).2.1, .int .u8 (splitF most s.size s).2.2]) ∧
      w'.ownsRow w.heap.size 9 1 v (splitF most s.size s).1.length ((splitF most s.size s).1.map Value.string) ∧ Below w.heap.size w w' := by
  obtain ⟨i0, hi, hz0, hz1, hz2⟩ := info_parts info_str
  go_enter Tryd.func16, Tryd.ntmps16
  go_wp2
  go_step3
  go_wp2
  go_step3
  go_wp2
  go_loopw [0, 7, 8] (fun a b c wr => ∃ (x : ByteArray) (f : Nat) (l : List ByteArray), a = .string x ∧ c = .int .u8 0 ∧ x.size ≤ f ∧ l.length + x.size ≤ s.size ∧ wr.ownsRow w.heap.size 9 1 b l.length (l.map Value.string) ∧
      Hid (splitF most s.size s = (l ++ (splitF most f x).1, (splitF most f x).2)) ∧ Below w.heap.size w wr) (fun a _ _ _ => strSz a)
  case atStart => exact ⟨s, s.size, [], rfl, rfl, by omega, by simp, World.ownsRow_nil _ _ _ _, Lib.hid (by simp), Below.refl _ _⟩
  case round =>
    obtain ⟨x, f, l, rfl, rfl, hf, hl, hown, hv, hbel⟩ := hrel
    by_cases hx : x.size = 0
    · have he := size_nil hx
      have hr := Lib.hid (hv.out.trans (by rw [split_end hx]))
      subst he
      go_wp2
      go_ret3
      exact ⟨_, ret3 rfl (val_bytes (by rw [hr.out])) (val_int (by rw [hr.out])), by rw [hr.out]; simpa using hown, hbel⟩
    · have hpos : 0 < x.size := by omega
      have hemp := emp_not hx
      obtain ⟨v, e, c, hg⟩ : ∃ v e c, getV x 1 = (v, e, c) := ⟨_, _, _, rfl⟩
      have hc := getV_code x 1
      rw [hg] at hc
      have hc0 : 0 ≤ c := hc.1
      have hc1 : c ≤ 242 := hc.2
      clear hc
      have Hg := Lib.hid hg
      clear hg
      by_cases c242 : c = 242
      · have hr := Lib.hid (hv.out.trans (by rw [split_none hf hx (by rw [← c242]; exact Hg.out)]))
        subst c242
        go_wp2_with fail
        refine (get_all x 1 _ (by omega) (by omega) (by omega)).mono ?_
        rintro e w1 ⟨rfl, rfl⟩
        rw [Hg.out]
        go_wp2
        try rw [Exit.noGoto_ret]
        go_ret3
        exact ⟨_, ret3 rfl (val_bytes (by rw [hr.out])) (val_int (by rw [hr.out])), by rw [hr.out]; simpa using hown, hbel⟩
      · by_cases c0 : c = 0
        · subst c0
          clear c242 hc0 hc1
          obtain ⟨m, k, rfl, rfl, hk2, hk5, hkx, hm⟩ := get1 (by omega) Hg.out
          by_cases hmost : most < (k : Int) + m
          · have hr := Lib.hid (hv.out.trans (by rw [split_large hf hx Hg.out hmost]))
            go_wp2_with fail
            refine (get_all x 1 _ (by omega) (by omega) (by omega)).mono ?_
            rintro e w1 ⟨rfl, rfl⟩
            rw [Hg.out]
            go_wp2
            try rw [Exit.noGoto_ret]
            go_ret3
            exact ⟨_, ret3 rfl (val_bytes (by rw [hr.out])) (val_int (by rw [hr.out])), by rw [hr.out]; simpa using hown, hbel⟩
          · by_cases hshort : (x.size : Int) < (k : Int) + m
            · have hr := Lib.hid (hv.out.trans (by rw [split_short hf hx Hg.out hmost hshort]))
              have hsh : (x.size : Int) - k < m := by omega
              go_wp2_with fail
              refine (get_all x 1 _ (by omega) (by omega) (by omega)).mono ?_
              rintro e w1 ⟨rfl, rfl⟩
              rw [Hg.out]
              go_wp2
              try rw [Exit.noGoto_ret]
              go_ret3
              exact ⟨_, ret3 rfl (val_bytes (by rw [hr.out])) (val_int (by rw [hr.out])), by rw [hr.out]; simpa using hown, hbel⟩
            · have hkm : k + m ≤ x.size := by omega
              have hr := Lib.hid (hv.out.trans (by rw [split_more hf hx Hg.out hmost hkm]))
              have hbytes : (l.length + 1) * 16 ≤ 140737488355328 := by omega
              have hsh : ¬ (x.size : Int) - k < m := by omega
              have hw1 : IntKind.i64.wrap ((k : Int) + m) = (k : Int) + m := IntWalk.i64_in _ (by omega)
              have hw2 : (0 : Int) ≤ (k : Int) + m := by omega
              have hw3 : (k : Int) + m ≤ x.size := by omega
              have hw4 : ((k : Int) + m).toNat = k + m := by omega
              go_wp2_with fail
              refine (get_all x 1 _ (by omega) (by omega) (by omega)).mono ?_
              rintro e w1 ⟨rfl, rfl⟩
              rw [Hg.out]
              go_wp2
              go_region_held3 (fun _ => True) (first | trivial | go_keep)
                ((refine step_append_lies _ (by rfl) _ _ _ (by rfl) w.heap.size 9 i0 _ 1 16 Tryd.underlying22 hi hz0 hz1 hz2 rfl (by omega) _ l.length (l.map Value.string) (by rfl) ((hown.alloc _).drew)
                    ⟨wr.heap.size, 0, none⟩ 1 1 [.string (x.extract 0 (k + m))] (by rfl) (by rfl) (World.news_of_block (cs := #[.string (x.extract 0 (k + m))]) (t := 9) (fr := (0, 0)) (heap_alloc_new wr _)) (by simp [Value.oneCell'])
                    (by omega) (by simp [maxLen]; omega) hbytes (by simp; have := hbel.size; omega) (wr.heap.size + 1) (by simp) ?_; intro gg cap w1 hown1 hgrow hat hlt))
              go_wp2
              go_roundw
              case rel => exact ⟨x.extract (k + m) x.size, f - 1, l ++ [x.extract 0 (k + m)], rfl, rfl, by rw [ByteArray.size_extract]; omega, by rw [ByteArray.size_extract, List.length_append, List.length_singleton]; omega, by simpa using hown1, Lib.hid (by rw [hr.out]; simp), (hbel.alloc hbel.size _).drew.grown hgrow (by simp; have := hbel.size; omega) fun k hk => (hown.lt k hk).1⟩
              case measure => simp [strSz]; omega
        · have hr := Lib.hid (hv.out.trans (by rw [split_code hf hx Hg.out c242 c0]))
          go_wp2_with fail
          refine (get_all x 1 _ (by omega) (by omega) (by omega)).mono ?_
          rintro e w1 ⟨rfl, rfl⟩
          rw [Hg.out]
          go_wp2
          try rw [Exit.noGoto_ret]
          go_ret3
          exact ⟨_, ret3 rfl (val_bytes (by rw [hr.out])) (val_int (by rw [hr.out])), by rw [hr.out]; simpa using hown, hbel⟩
end Go.Proofs.YtedapgeabpadaaaDoor

/- A stream's reader in memory; packets in a slice of own memory; New, Left. -/
namespace Go.Proofs.YtedapgeabpadaaaDoor
set_option linter.unusedVariables false
open Go.RowKit Pl Go.Shelf Go.PlainAid

def srA (most : Int) (left : ByteArray) (c : Int) : Array Value := #[.int .i64 most, .string left, .int .u8 c]
def pksF (L : List Pk) (ms : List Hs) : List Value := (L.zip ms).flatMap fun x => (pkA .u8 x.1 x.2).toList
/-- Packets in a slice of own memory. -/
def PksAt (B : Nat) (w : World) (v : Value) (L : List Pk) : Prop := ∃ ms : List Hs, ms.length = L.length ∧ Sl B w 45 26 v L.length (pksF L ms) ∧ ∀ (i : Nat) p m, L[i]? = some p → ms[i]? = some m → PkO B w p m
theorem PksAt.nil (B : Nat) (w : World) : PksAt B w (.slice none 0 0) [] := ⟨[], rfl, Sl.nil _ _ _ _, fun i p m h => by simp at h⟩
theorem PkO.below {B : Nat} {w w' : World} {p : Pk} {m : Hs} (h : PkO B w p m) (b : Below w.heap.size w w') : PkO B w' p m := h.same fun _ _ _ _ _ s _ => s.below b
theorem PksAt.below {B : Nat} {w w' : World} {v : Value} {L : List Pk} (h : PksAt B w v L) (b : Below w.heap.size w w') : PksAt B w' v L := by
  obtain ⟨ms, h1, h2, h3⟩ := h
  exact ⟨ms, h1, h2.below b, fun i p m x y => (h3 i p m x y).below b⟩
theorem PksAt.mono {B B' : Nat} {w : World} {v : Value} {L : List Pk} (h : PksAt B w v L) (hB : B' ≤ B) : PksAt B' w v L := by
  obtain ⟨ms, h1, h2, h3⟩ := h
  exact ⟨ms, h1, h2.mono' hB, fun i p m x y => (h3 i p m x y).mono hB⟩
theorem Sl.setR {B n size R : Nat} {w : World} {e : TypeId} {v : Value} {xs : List Value} (h : Sl B w e size v n xs) (hR : R < B) (i : Nat) (u : Value) : Sl B (w.setCell ⟨R, i, none⟩ u) e size v n xs :=
  h.set i u (fun c => by have := (h.lt R c).1; omega)
theorem PksAt.setR {B R : Nat} {w : World} {v : Value} {L : List Pk} (h : PksAt B w v L) (hR : R < B) (i : Nat) (u : Value) : PksAt B (w.setCell ⟨R, i, none⟩ u) v L := by
  obtain ⟨ms, h1, h2, h3⟩ := h
  exact ⟨ms, h1, h2.setR hR i u, fun j p m x y => (h3 j p m x y).same fun _ _ _ _ _ s _ => s.setR hR i u⟩
theorem pksF_snoc {L : List Pk} {ms : List Hs} (h : ms.length = L.length) (p : Pk) (m : Hs) : pksF (L ++ [p]) (ms ++ [m]) = pksF L ms ++ (pkA .u8 p m).toList := by
  unfold pksF
  rw [List.zip_append h.symm, List.flatMap_append]
  simp
theorem pks_cells : ∀ {L : List Pk} {ms : List Hs} {i : Nat} {p : Pk} {m : Hs}, L[i]? = some p → ms[i]? = some m → ∀ j u, (pkA .u8 p m)[j]? = some u → (pksF L ms)[i * 26 + j]? = some u := by
  intro L
  induction L with
  | nil => intro ms i p m h; simp at h
  | cons q r ih =>
    intro ms i p m h1 h2 j u hu
    cases ms with
    | nil => simp at h2
    | cons n ms =>
      have hl : (pkA .u8 q n).toList.length = 26 := rfl
      have hj : j < 26 := (Array.getElem?_eq_some_iff.1 hu).1
      show ((pkA .u8 q n).toList ++ pksF r ms)[i * 26 + j]? = some u
      cases i with
      | zero =>
        obtain rfl : q = p := by simpa using h1
        obtain rfl : n = m := by simpa using h2
        rw [Nat.zero_mul, Nat.zero_add, List.getElem?_append_left (by omega)]
        simpa using hu
      | succ i =>
        rw [List.getElem?_append_right (by omega), hl, show (i + 1) * 26 + j - 26 = i * 26 + j from by omega]
        exact ih (by simpa using h1) (by simpa using h2) j u hu
theorem info_spk : (Tryd.prog.info? 45).map (fun i => (i.zero, i.size, i.bytes)) = some (some (.agg (pkA .u8 zPk zHs)), 26, 328) := by kernel_rfl
theorem spk_fill (cs : Array Value) (z : Array Value) (h : cs.size = 26) : ∀ l : List Value, cs = l.toArray → l.length = 26 → Instr.fill (fun k => some (k * 26, 26)) ((Array.range (1 * 26)).map (z[· % z.size]!)) [(0, .agg cs)] = some cs := by
  intro l e hl
  match l, hl with
  | [a0, a1, a2, a3, a4, a5, a6, a7, a8, a9, a10, a11, a12, a13, a14, a15, a16, a17, a18, a19, a20, a21, a22, a23, a24, a25], _ =>
    subst e
    have hr : Array.range (1 * 26) = #[0, 1, 2, 3, 4, 5, 6, 7, 8, 9, 10, 11, 12, 13, 14, 15, 16, 17, 18, 19, 20, 21, 22, 23, 24, 25] := by rfl
    rw [hr]
    simp [Instr.fill, Value.cells]
/-- '[]Packet{p}', for the walk. -/
theorem wpList_spkS {ops : Array Oper} {rest : List Oper} {o : Oper} {a : Act} {w : World} {Q : Exit → Act → World → Prop} (x : Operand) (cs : Array Value) (hc : cs.size = 26)
    (hgd : o.guard = none) (ho : o.op = .buildSlice 29 1 #[(0, x)]) (hx : a.eval x = .agg cs) (Z : World) (hZ : w.alloc (.cells cs 45) = Z)
    (h : wpList Tryd.prog ops Q rest (a.put o.dst (.slice (some ⟨w.heap.size, 0, none⟩) 1 1)) Z) : wpList Tryd.prog ops Q (o :: rest) a w := by
  obtain ⟨ip, hip, hipz, hips, hipb⟩ := info_parts info_spk
  refine wpList_buildSlice hgd 29 45 1 _ ho cs ip _ Tryd.underlying29 hip hipz (by rw [hips]; decide) (by rw [hips]; decide) ?_ (by rw [hZ]; exact h)
  rw [hips]
  simp only [List.map_toArray, List.map_cons, List.map_nil, hx]
  exact spk_fill cs _ hc cs.toList (by simp) (by simpa using hc)
/-- 'out = append(out, p)', for the walk. -/
theorem wpList_spks {ops : Array Oper} {rest : List Oper} {o : Oper} {a : Act} {w : World} {Q : Exit → Act → World → Prop} (s x : Operand) (B : Nat) (v : Value) (L : List Pk) (p : Pk) (m : Hs) (b : Nat)
    (hgd : o.guard = none) (ho : o.op = .call { callee := .builtin .append, args := #[s, x], argTypes := #[29, 29] })
    (hs : a.eval s = v) (hx : a.eval x = .slice (some ⟨b, 0, none⟩) 1 1) (h : PksAt B w v L) (hp : PkO B w p m) (hb : Blk w b (pkA .u8 p m) 45) (hB : B ≤ w.heap.size) (hl : L.length ≤ 1048576)
    (hK : ∀ v' w', PksAt B w' v' (L ++ [p]) → w.grownBy w' v.ownBlock → (∀ k, v.ownBlock = some k → B ≤ k ∧ ∀ o, w.heap[k]? = some o → ∃ cur, o = .cells cur 45 (0, 0)) → wpList Tryd.prog ops Q rest (a.put o.dst v') w') :
    wpList Tryd.prog ops Q (o :: rest) a w := by
  obtain ⟨ms, h1, h2, h3⟩ := h
  obtain ⟨i1, hi1, hi1z, hi1s, hi1b⟩ := info_parts info_spk
  refine wpList_append_sl s x 29 i1 _ _ b (pkA .u8 p m) hgd ho Tryd.underlying29 hi1 hi1z hi1s hi1b rfl (by decide) rfl (fun u hu => (Array.all_eq_true'.1 (pkA_one p m)) u (Array.mem_toList_iff.1 hu)) hs hx h2 hb hB (by unfold maxLen; omega) (by omega) ?_
  intro v' w' r1 r2 r3
  have keep : ∀ (e : TypeId) (size : Nat) u n xs, Sl B w e size u n xs → e ≠ 45 → Sl B w' e size u n xs := fun e size u n xs s he => s.grown r2 fun k hk => s.ne2 h2 he k hk
  have kp : ∀ {q : Pk} {n : Hs}, PkO B w q n → PkO B w' q n := fun hq => hq.same fun e size u n xs s he => keep e size u n xs s (by rcases he with rfl | rfl | rfl | rfl <;> decide)
  refine hK v' w' ⟨ms ++ [m], by simp [h1], by rw [pksF_snoc h1, List.length_append]; exact r1, fun i q n a b => ?_⟩ r2 (fun k hk => ⟨(h2.lt k hk).1, fun o ho => h2.obj k o hk ho⟩)
  rcases Nat.lt_or_ge i L.length with c | c
  · rw [List.getElem?_append_left c] at a
    rw [List.getElem?_append_left (by omega)] at b
    exact kp (h3 i q n a b)
  · have e : i = L.length := by
      have := (List.getElem?_eq_some_iff.1 a).1
      simp at this
      omega
    subst e
    rw [List.getElem?_append_right (Nat.le_refl _), Nat.sub_self] at a
    rw [List.getElem?_append_right (by omega), h1, Nat.sub_self] at b
    simp at a b
    subst a b
    exact kp hp
/-! New, Left. -/
theorem snew_any (most : Int) (w : World) : Calls Tryd.prog 7 #[.int .i64 most] w fun e w' => e = .returned (.pointer (some ⟨w.heap.size, 0, none⟩)) ∧ Blk w' w.heap.size (srA most ⟨#[]⟩ 0) 72 ∧ Below w.heap.size w w' := by
  have hb := Blk.new w (srA most ⟨#[]⟩ 0) 72
  have bb : Below w.heap.size w (w.alloc (.cells (srA most ⟨#[]⟩ 0) 72)) := (Below.refl _ _).alloc (Nat.le_refl _) _
  unfold srA at hb bb
  have HB := Lib.hid hb
  have BB := Lib.hid bb
  clear hb bb
  go_enter Tryd.func7, Tryd.ntmps7
  go_wp2
  go_ret
  exact ⟨rfl, HB.out, BB.out⟩
theorem sleft_any (R : Nat) (most : Int) (left : ByteArray) (c : Int) (w : World) (hb : Blk w R (srA most left c) 72) : Calls Tryd.prog 11 #[.pointer (some ⟨R, 0, none⟩)] w fun e w' => e = .returned (.string left) ∧ Below w.heap.size w w' := by
  have c1 : w.cell? ⟨R, 1, none⟩ = some (.string left) := hb.cell 1
  clear hb
  go_enter Tryd.func11, Tryd.ntmps11
  go_wp2
  go_ret
  exact ⟨rfl, Below.refl _ _⟩
theorem sleft_nil (w : World) : Calls Tryd.prog 11 #[.pointer none] w fun e w' => e = .returned (.string ⟨#[]⟩) ∧ Below w.heap.size w w' := by
  go_enter Tryd.func11, Tryd.ntmps11
  go_wp2
  go_ret
  exact ⟨rfl, Below.refl _ _⟩
theorem sfeed_nil (s : ByteArray) (w : World) : Calls Tryd.prog 9 #[.pointer none, .string s] w fun e w' => e = .returned (.tuple #[.slice none 0 0, .int .u8 128]) ∧ Below w.heap.size w w' := by
  go_enter Tryd.func9, Tryd.ntmps9
  go_wp2
  go_ret2
  exact ⟨rfl, Below.refl _ _⟩
theorem sfeed_stop (R : Nat) (most : Int) (left s : ByteArray) (c : Int) (w : World) (hc : c ≠ 0) (hb : Blk w R (srA most left c) 72) : Calls Tryd.prog 9 #[.pointer (some ⟨R, 0, none⟩), .string s] w fun e w' => e = .returned (.tuple #[.slice none 0 0, .int .u8 c]) ∧ Below w.heap.size w w' := by
  have c2 : w.cell? ⟨R, 2, none⟩ = some (.int .u8 c) := hb.cell 2
  have e0 : (c == 0) = false := beq_eq_false_iff_ne.2 hc
  have e1 : (c != 0) = true := by rw [bne, e0]; rfl
  clear hb hc
  go_enter Tryd.func9, Tryd.ntmps9
  go_wp2
  go_quiet (fail)
  go_wp2
  go_ret2
  exact ⟨rfl, ⟨rfl, rfl, rfl, Nat.le_refl _, fun _ _ => rfl⟩⟩
end Go.Proofs.YtedapgeabpadaaaDoor

/- stream.Reader's Feed, at every bytes (of a bounded size). -/
namespace Go.Proofs.YtedapgeabpadaaaDoor
set_option linter.unusedVariables false
open Go.RowKit Pl Go.Shelf Go.PlainAid

theorem gets_take_ok {l : List ByteArray} {i : Nat} {b : ByteArray} {p : Pk} (h : l[i]? = some b) (h0 : (getsP (l.take i)).2 = 0) (hb : pkGet b = (p, 0)) : (getsP (l.take (i + 1))).1 = (getsP (l.take i)).1 ++ [p] ∧ (getsP (l.take (i + 1))).2 = 0 := by
  have e : l.take (i + 1) = l.take i ++ [b] := by rw [List.take_add_one, h]; rfl
  rw [e, (gets_app [b] (l.take i)).1 h0, gets_ok hb]
  exact ⟨rfl, rfl⟩
theorem gets_take_bad {l : List ByteArray} {i : Nat} {b : ByteArray} {p : Pk} {c : Int} (h : l[i]? = some b) (h0 : (getsP (l.take i)).2 = 0) (hb : pkGet b = (p, c)) (hc : c ≠ 0) : (getsP l).1 = (getsP (l.take i)).1 ∧ (getsP l).2 = c := by
  have hi : i < l.length := (List.getElem?_eq_some_iff.1 h).1
  have e : l = l.take i ++ (b :: l.drop (i + 1)) := by
    conv => lhs; rw [← List.take_append_drop i l]
    congr 1
    rw [List.drop_eq_getElem_cons hi]
    congr 1
    exact (List.getElem?_eq_some_iff.1 h).2
  have h1 := (gets_app (b :: l.drop (i + 1)) (l.take i)).1 h0
  rw [← e, gets_bad hb hc] at h1
  rw [h1]
  exact ⟨by simp, rfl⟩
theorem split_mem (most : Int) : ∀ (f : Nat) (s : ByteArray), (splitF most f s).1.length ≤ s.size ∧ ∀ b ∈ (splitF most f s).1, b.size ≤ s.size := by
  intro f
  induction f with
  | zero => intro s; exact ⟨Nat.zero_le _, fun b hb => by simp [splitF] at hb⟩
  | succ f ih =>
    intro s
    by_cases h0 : s.size = 0
    · rw [split_end h0]; exact ⟨Nat.zero_le _, fun b hb => by simp at hb⟩
    · unfold splitF
      rw [if_neg h0]
      split
      · exact ⟨Nat.zero_le _, fun b hb => by simp at hb⟩
      · split
        · exact ⟨Nat.zero_le _, fun b hb => by simp at hb⟩
        · rename_i hc2 hc0
          split
          · exact ⟨Nat.zero_le _, fun b hb => by simp at hb⟩
          · split
            · exact ⟨Nat.zero_le _, fun b hb => by simp at hb⟩
            · obtain ⟨⟨v, e, c⟩, hv⟩ : ∃ x, getV s 1 = x := ⟨_, rfl⟩
              rw [hv] at hc0
              have hc0 : c = 0 := Classical.byContradiction hc0
              subst hc0
              obtain ⟨m, k, rfl, rfl, k2, _, _, _⟩ := get1 (by omega) hv
              rw [hv]
              obtain ⟨i1, i2⟩ := ih (s.extract ((k : Int) + (m : Int)).toNat s.size)
              have hz : (s.extract ((k : Int) + (m : Int)).toNat s.size).size = s.size - (k + m) := by rw [ByteArray.size_extract]; omega
              refine ⟨by simp only [List.length_cons]; omega, fun b hb => ?_⟩
              rcases List.mem_cons.1 hb with rfl | hb
              · rw [ByteArray.size_extract]; omega
              · have := i2 b hb; omega
theorem split_mem2 (most : Int) (f : Nat) (s : ByteArray) : (splitF most f s).2.1.size ≤ s.size := by
  induction f generalizing s with
  | zero => exact Nat.le_refl _
  | succ f ih =>
    unfold splitF
    (repeat' split) <;> first | exact Nat.le_refl _ | (refine Nat.le_trans (ih _) ?_; rw [ByteArray.size_extract]; omega)
theorem split_shape {w w1 : World} {v : Value} {l : List ByteArray} (o : w1.ownsRow w.heap.size 9 1 v l.length (l.map Value.string)) (b : Below w.heap.size w w1) :
    ∃ a1 c1, v = .slice a1 l.length c1 ∧ Hid (Sl w.heap.size w1 9 1 v l.length (l.map Value.string)) ∧ Hid (Below w.heap.size w w1) := by
  have s := Sl.of_own o
  obtain ⟨a1, c1, h, _⟩ := s.form
  exact ⟨a1, c1, h, Lib.hid s, Lib.hid b⟩
def FeedPost (w : World) (R : Nat) (most : Int) (x : ByteArray) (e : Ending) (w' : World) : Prop :=
  ∃ v, e = .returned (.tuple #[v, .int .u8 (feedC most x)]) ∧ PksAt w.heap.size w' v (feedL most x) ∧ Blk w' R (srA most (feedR most x) (feedC most x)) 72 ∧ Mod (· = R) w w'
set_option maxRecDepth 100000 in
set_option maxHeartbeats 4000000 in
theorem sfeed_any (R : Nat) (most : Int) (left s : ByteArray) (w : World) (hb : Blk w R (srA most left 0) 72) (h0 : -9223372036854775808 ≤ most) (h1 : most ≤ 9223372036854775807) (hs : left.size + s.size ≤ 1048576) (hT : Tabs w) :
    Calls Tryd.prog 9 #[.pointer (some ⟨R, 0, none⟩), .string s] w (FeedPost w R most (left ++ s)) := by
  have hx : (left ++ s).size ≤ 1048576 := by rw [ByteArray.size_append]; omega
  obtain ⟨x, hxx⟩ : ∃ x, left ++ s = x := ⟨_, rfl⟩
  rw [hxx] at hx ⊢
  have hm := split_mem most x.size x
  have CS : ∀ X : World, Calls Tryd.prog 16 #[.string x, .int .i64 most] X _ := fun X => split_any x most X hx h0 h1
  obtain ⟨⟨l, rest, c0⟩, hl⟩ : ∃ y, splitF most x.size x = y := ⟨_, rfl⟩
  rw [hl] at CS hm
  obtain ⟨hll, hlb⟩ := hm
  simp only at CS hll hlb
  have hsp : sp most x = (l, rest, c0) := hl
  have CS := Lib.hid CS
  have HSP := Lib.hid hsp
  have HLB := Lib.hid hlb
  have HB := Lib.hid hb
  have HT := Lib.hid hT
  have r0 : w.cell? ⟨R, 0, none⟩ = some (.int .i64 most) := hb.cell 0
  have r1 : w.cell? ⟨R, 1, none⟩ = some (.string left) := hb.cell 1
  have r2 : w.cell? ⟨R, 2, none⟩ = some (.int .u8 0) := hb.cell 2
  have hadd : ¬ 9223372036854775807 < left.size + s.size := by omega
  clear hsp hlb hb hT hl h0 h1
  go_enter Tryd.func9, Tryd.ntmps9
  go_wp2
  go_upto_region 5 with fail
  go_cut [6, 7, 8] (fun a b c X => b = .string rest ∧ c = .int .u8 c0 ∧ ∃ a1 c1, a = .slice a1 l.length c1 ∧ Hid (Sl w.heap.size X 9 1 a l.length (l.map Value.string)) ∧ Hid (Below w.heap.size w X))
  case first =>
    go_region_with (go_at_call 16; (with_reducible refine (CS.out _).mono ?_); rintro e w1 ⟨v1, rfl, o1, b1⟩; have HO := Lib.hid (split_shape (w := w) o1 ⟨b1.os, b1.tape, b1.output, b1.size, b1.block⟩); clear o1 b1)
    all_goals go_wp2
    all_goals go_meet
    all_goals exact ⟨rfl, rfl, HO.out⟩
  obtain ⟨rfl, rfl, a1, c1, rfl, HS1, HB1⟩ := hcut
  clear r0 r1 r2
  go_wp2_with fail
  go_loopw [8, 9, 44] (fun cv ov iv wr => ∃ (i : Nat), iv = .int .i64 i ∧ cv = .int .u8 c0 ∧ i ≤ l.length ∧ Hid (PksAt w.heap.size wr ov (getsP (l.take i)).1) ∧ Hid ((getsP (l.take i)).2 = 0) ∧ Hid (Sl w.heap.size wr 9 1 (.slice a1 l.length c1) l.length (l.map Value.string)) ∧ Hid (Below w.heap.size w wr)) (fun _ _ iv _ => ((l.length : Int) - intOf iv).toNat)
  case atStart => exact ⟨0, rfl, rfl, Nat.zero_le _, Lib.hid (PksAt.nil _ _), Lib.hid rfl, HS1, HB1⟩
  case round =>
    obtain ⟨i, rfl, rfl, hi, hP, hG, hS, hBw⟩ := hrel
    by_cases hil : i < l.length
    · obtain ⟨b, hbl⟩ : ∃ b, l[i]? = some b := ⟨_, List.getElem?_eq_getElem hil⟩
      have hbz : b.size ≤ 140737488351232 := by have := HLB.out b (List.mem_of_getElem? hbl); omega
      obtain ⟨g, o, cap, ea, _, _, _, _, hcl⟩ := hS.out.at (by omega)
      injection ea with ea1 ea2 ea3
      subst ea1
      have hcell := hcl i (.string b) (by rw [List.getElem?_map, hbl]; rfl)
      have HTr := Lib.hid (HT.out.below hBw.out)
      obtain ⟨⟨r, c⟩, hg⟩ : ∃ y, pkGet b = y := ⟨_, rfl⟩
      have CG : Calls Tryd.prog 17 #[.string b] wr (GkPost wr (r, c)) := by rw [← hg]; exact pkget_any b wr hbz HTr.out
      have CG := Lib.hid CG
      have HG := Lib.hid hg
      have HBL := Lib.hid hbl
      have hiI : (i : Int) < (l.length : Int) := by omega
      clear hcl hg hbl hbz ea2 ea3
      go_wp2_with fail
      refine CG.out.mono ?_
      rintro e V ⟨m, rfl, ho, bv⟩
      simp only at ho
      obtain ⟨Y, hY⟩ : ∃ Y, V.alloc (.cells #[.int .i64 0, .bool false, .bool false, .int .i64 0, .int .i64 0, .string ⟨#[]⟩, .string ⟨#[]⟩, .int .u8 0, .slice none 0 0, .slice none 0 0, .string ⟨#[]⟩, .bool false, .int .i64 0, .bool false, .string ⟨#[]⟩, .string ⟨#[]⟩, .int .i64 0, .bool false, .slice none 0 0, .bool false, .bool false, .string ⟨#[]⟩, .string ⟨#[]⟩, .bool false, .slice none 0 0, .slice none 0 0] 45) = Y := ⟨_, rfl⟩
      have hy : Blk Y V.heap.size #[.int .i64 0, .bool false, .bool false, .int .i64 0, .int .i64 0, .string ⟨#[]⟩, .string ⟨#[]⟩, .int .u8 0, .slice none 0 0, .slice none 0 0, .string ⟨#[]⟩, .bool false, .int .i64 0, .bool false, .string ⟨#[]⟩, .string ⟨#[]⟩, .int .i64 0, .bool false, .slice none 0 0, .bool false, .bool false, .string ⟨#[]⟩, .string ⟨#[]⟩, .bool false, .slice none 0 0, .slice none 0 0] 45 := by rw [← hY]; exact Blk.new _ _ _
      have by_ : Below V.heap.size V Y := by rw [← hY]; exact (Below.refl _ _).alloc (Nat.le_refl _) _
      obtain ⟨Z, hZ⟩ : ∃ Z, Y.setRow V.heap.size (pkA .u8 r m) = Z := ⟨_, rfl⟩
      have hz : Blk Z V.heap.size (pkA .u8 r m) 45 := by rw [← hZ]; exact hy.row0 _
      have bz : Below V.heap.size V Z := by rw [← hZ]; exact below_setRow by_ (Nat.le_refl _) _
      have HY := Lib.hid hy
      have HZ := Lib.hid hz
      have HW : Hid (Blk (Y.setRow V.heap.size (pkA .u8 r m)) V.heap.size (pkA .u8 r m) 45) := Lib.hid (by rw [hZ]; exact hz)
      have hwr : w.heap.size ≤ wr.heap.size := hBw.out.size
      have bvz : Below wr.heap.size wr Z := bv.trans (bz.mono bv.size)
      have HBZ := Lib.hid (hBw.out.trans (bvz.mono hwr))
      have HPZ := Lib.hid (hP.out.below bvz)
      have HSZ := Lib.hid (hS.out.below bvz)
      have HOZ := Lib.hid ((ho.mono hwr).below bz)
      have hBs : w.heap.size ≤ Z.heap.size := HBZ.out.size
      clear ho bv hy by_ hz bz bvz hP hS hBw HTr hwr hcell
      by_cases hc : c = 0
      · subst hc
        have hk := gets_take_ok HBL.out hG.out HG.out
        have HK := Lib.hid hk
        have hlen : (getsP (l.take i)).1.length ≤ 1048576 := by have := gets_len (l.take i); rw [List.length_take] at this; omega
        obtain ⟨U, hU⟩ : ∃ U, Z.alloc (.cells (pkA .u8 r m) 45) = U := ⟨_, rfl⟩
        have hub : Blk U Z.heap.size (pkA .u8 r m) 45 := by rw [← hU]; exact Blk.new _ _ _
        have bu : Below Z.heap.size Z U := by rw [← hU]; exact (Below.refl _ _).alloc (Nat.le_refl _) _
        have HU := Lib.hid hU
        have HUB := Lib.hid hub
        have HPU := Lib.hid (HPZ.out.below bu)
        have HOU := Lib.hid (HOZ.out.below bu)
        have HSU := Lib.hid (HSZ.out.below bu)
        have HBU := Lib.hid (HBZ.out.trans (bu.mono hBs))
        have hBu : w.heap.size ≤ U.heap.size := HBU.out.size
        clear hk hU hub bu hG HBL HG HPZ HOZ HSZ HBZ hil
        go_wp2_with (first | (refine wpList_store_rowTo rfl 45 (.tmp 12) (.tmp 51) rfl rfl V.heap.size (pkA .u8 r m) rfl rfl 45 #[.int .i64 0, .bool false, .bool false, .int .i64 0, .int .i64 0, .string ⟨#[]⟩, .string ⟨#[]⟩, .int .u8 0, .slice none 0 0, .slice none 0 0, .string ⟨#[]⟩, .bool false, .int .i64 0, .bool false, .string ⟨#[]⟩, .string ⟨#[]⟩, .int .i64 0, .bool false, .slice none 0 0, .bool false, .bool false, .string ⟨#[]⟩, .string ⟨#[]⟩, .bool false, .slice none 0 0, .slice none 0 0] HY.out gpk_size rfl (pkA_one _ _) ?_) | (refine wpList_load_row rfl 45 (.tmp 12) rfl V.heap.size rfl 45 (pkA .u8 r m) (0, 0) _ HZ.out Tryd.underlying45 rfl gpk_size ?_) | (refine wpList_load_row rfl 45 (.tmp 12) rfl V.heap.size rfl 45 (pkA .u8 r m) (0, 0) _ HW.out Tryd.underlying45 rfl gpk_size ?_) | (refine wpList_spkS (.tmp 57) (pkA .u8 r m) rfl rfl rfl rfl U HU.out ?_) | (refine wpList_spks (.tmp 56) (.tmp 58) w.heap.size _ (getsP (l.take i)).1 r m Z.heap.size rfl rfl rfl rfl HPU.out HOU.out HUB.out hBu hlen ?_; intro ov' wf hpf hgf hof) | (fail))
        have hsf := HSU.out.grown hgf (fun k hk hk2 => by
          obtain ⟨cu1, e1⟩ := HSU.out.obj k _ hk (Array.getElem?_eq_getElem (HSU.out.lt k hk).2)
          obtain ⟨cu2, e2⟩ := (hof k hk2).2 _ (Array.getElem?_eq_getElem (HSU.out.lt k hk).2)
          rw [e1] at e2
          injection e2 with _ e3 _
          exact absurd e3 (by decide))
        have hbf : Below w.heap.size w wf := HBU.out.grown hgf hBu (fun k hk => (hof k hk).1)
        have HPF : Hid (PksAt w.heap.size wf ov' (getsP (l.take (i + 1))).1) := Lib.hid (by rw [HK.out.1]; exact hpf)
        have HGF : Hid ((getsP (l.take (i + 1))).2 = 0) := Lib.hid HK.out.2
        have HSF := Lib.hid hsf
        have HBF := Lib.hid hbf
        clear hsf hbf hpf hgf hof HU HUB HPU HOU HSU HBU hBu HY HZ HW HK
        go_wp2
        go_roundw
        case rel => exact ⟨i + 1, by go_num, rfl, by omega, HPF, HGF, HSF, HBF⟩
        case measure => simp [intOf]; omega
      · have hbad := gets_take_bad HBL.out hG.out HG.out hc
        have HBAD := Lib.hid hbad
        have z0 : (c == 0) = false := beq_eq_false_iff_ne.2 hc
        have z1 : (c != 0) = true := by rw [bne, z0]; rfl
        have HC0 := Lib.hid hc
        clear hbad hc hG HBL HG
        have hRl := HB.out.lt
        have hbx := HB.out.of_below HBZ.out
        obtain ⟨X1, hX1⟩ : ∃ X1, Z.setCell ⟨R, 1, none⟩ (.string rest) = X1 := ⟨_, rfl⟩
        have hb1 : Blk X1 R (srA most rest 0) 72 := by rw [← hX1]; exact hbx.set 1 _
        have hm1 : Mod (· = R) w X1 := by rw [← hX1]; exact (Mod.of_below HBZ.out : Mod (· = R) w Z).setCell (p := ⟨R, 1, none⟩) (.inl rfl) _
        have hp1 := HPZ.out.setR hRl 1 (.string rest)
        rw [hX1] at hp1
        obtain ⟨X2, hX2⟩ : ∃ X2, X1.setCell ⟨R, 2, none⟩ (.int .u8 c) = X2 := ⟨_, rfl⟩
        have hb2 : Blk X2 R (srA most rest c) 72 := by rw [← hX2]; exact hb1.set 2 _
        have hm2 : Mod (· = R) w X2 := by rw [← hX2]; exact hm1.setCell (p := ⟨R, 2, none⟩) (.inl rfl) _
        have hp2 := hp1.setR hRl 2 (.int .u8 c)
        rw [hX2] at hp2
        have x1 : Z.cell? ⟨R, 1, none⟩ = some (.string left) := hbx.cell 1
        have y1 := hbx.frozen 1
        have x2 : X1.cell? ⟨R, 2, none⟩ = some (.int .u8 0) := hb1.cell 2
        have y2 := hb1.frozen 2
        obtain ⟨X3, hX3⟩ : ∃ X3, X2.setCell ⟨R, 1, none⟩ (.string ⟨#[]⟩) = X3 := ⟨_, rfl⟩
        have hb3 : Blk X3 R (srA most ⟨#[]⟩ c) 72 := by rw [← hX3]; exact hb2.set 1 _
        have hm3 : Mod (· = R) w X3 := by rw [← hX3]; exact hm2.setCell (p := ⟨R, 1, none⟩) (.inl rfl) _
        have hp3 := hp2.setR hRl 1 (.string ⟨#[]⟩)
        rw [hX3] at hp3
        have x3 : X2.cell? ⟨R, 1, none⟩ = some (.string rest) := hb2.cell 1
        have y3 := hb2.frozen 1
        have H3 := Lib.hid (And.intro hb3 (And.intro hm3 hp3))
        clear hb3 hm3 hp3
        clear hbx hb1 hm1 hp1 hb2 hm2 hp2 hRl
        go_wp2_with (first | (refine wpList_store_rowTo rfl 45 (.tmp 12) (.tmp 51) rfl rfl V.heap.size (pkA .u8 r m) rfl rfl 45 #[.int .i64 0, .bool false, .bool false, .int .i64 0, .int .i64 0, .string ⟨#[]⟩, .string ⟨#[]⟩, .int .u8 0, .slice none 0 0, .slice none 0 0, .string ⟨#[]⟩, .bool false, .int .i64 0, .bool false, .string ⟨#[]⟩, .string ⟨#[]⟩, .int .i64 0, .bool false, .slice none 0 0, .bool false, .bool false, .string ⟨#[]⟩, .string ⟨#[]⟩, .bool false, .slice none 0 0, .slice none 0 0] HY.out gpk_size rfl (pkA_one _ _) ?_) | (fail))
        go_ret2
        have ec : feedC most x = c := by unfold feedC; rw [HSP.out]; simp only; rw [HBAD.out.2, if_pos HC0.out]
        have el : feedL most x = (getsP (l.take i)).1 := by unfold feedL; rw [HSP.out]; exact HBAD.out.1
        have er : feedR most x = ⟨#[]⟩ := by unfold feedR; rw [ec, if_pos HC0.out]
        exact ⟨_, by rw [ec]; rfl, by rw [el]; exact H3.out.2.2, by rw [ec, er]; exact H3.out.1, H3.out.2.1⟩
    · obtain rfl : i = l.length := by omega
      have hnn : ¬ ((l.length : Int) < (l.length : Int)) := by omega
      by_cases hc0 : c0 = 0
      · subst hc0
        have hRl := HB.out.lt
        have hbx := HB.out.of_below hBw.out
        obtain ⟨X1, hX1⟩ : ∃ X1, wr.setCell ⟨R, 1, none⟩ (.string rest) = X1 := ⟨_, rfl⟩
        have hb1 : Blk X1 R (srA most rest 0) 72 := by rw [← hX1]; exact hbx.set 1 _
        have hm1 : Mod (· = R) w X1 := by rw [← hX1]; exact (Mod.of_below hBw.out : Mod (· = R) w wr).setCell (p := ⟨R, 1, none⟩) (.inl rfl) _
        have hp1 := hP.out.setR hRl 1 (.string rest)
        rw [hX1] at hp1
        obtain ⟨X2, hX2⟩ : ∃ X2, X1.setCell ⟨R, 2, none⟩ (.int .u8 0) = X2 := ⟨_, rfl⟩
        have hb2 : Blk X2 R (srA most rest 0) 72 := by rw [← hX2]; exact hb1.set 2 _
        have hm2 : Mod (· = R) w X2 := by rw [← hX2]; exact hm1.setCell (p := ⟨R, 2, none⟩) (.inl rfl) _
        have hp2 := hp1.setR hRl 2 (.int .u8 0)
        rw [hX2] at hp2
        have x1 : wr.cell? ⟨R, 1, none⟩ = some (.string left) := hbx.cell 1
        have y1 := hbx.frozen 1
        have x2 : X1.cell? ⟨R, 2, none⟩ = some (.int .u8 0) := hb1.cell 2
        have y2 := hb1.frozen 2
        have H3 := Lib.hid (And.intro hb2 (And.intro hm2 hp2))
        clear hbx hb1 hm1 hp1 hb2 hm2 hp2 hRl
        go_wp2
        go_ret2
        have hg0 := hG.out
        rw [List.take_length] at hg0
        have ec : feedC most x = 0 := by unfold feedC; rw [HSP.out]; simp only; rw [hg0]; rfl
        have el : feedL most x = (getsP (l.take l.length)).1 := by unfold feedL; rw [HSP.out, List.take_length]
        have er : feedR most x = rest := by unfold feedR; rw [ec, HSP.out]; rfl
        exact ⟨_, by rw [ec]; rfl, by rw [el]; exact H3.out.2.2, by rw [ec, er]; exact H3.out.1, H3.out.2.1⟩
      · have z0 : (c0 == 0) = false := beq_eq_false_iff_ne.2 hc0
        have z1 : (c0 != 0) = true := by rw [bne, z0]; rfl
        have HC0 := Lib.hid hc0
        clear hc0
        have hRl := HB.out.lt
        have hbx := HB.out.of_below hBw.out
        obtain ⟨X1, hX1⟩ : ∃ X1, wr.setCell ⟨R, 1, none⟩ (.string rest) = X1 := ⟨_, rfl⟩
        have hb1 : Blk X1 R (srA most rest 0) 72 := by rw [← hX1]; exact hbx.set 1 _
        have hm1 : Mod (· = R) w X1 := by rw [← hX1]; exact (Mod.of_below hBw.out : Mod (· = R) w wr).setCell (p := ⟨R, 1, none⟩) (.inl rfl) _
        have hp1 := hP.out.setR hRl 1 (.string rest)
        rw [hX1] at hp1
        obtain ⟨X2, hX2⟩ : ∃ X2, X1.setCell ⟨R, 2, none⟩ (.int .u8 c0) = X2 := ⟨_, rfl⟩
        have hb2 : Blk X2 R (srA most rest c0) 72 := by rw [← hX2]; exact hb1.set 2 _
        have hm2 : Mod (· = R) w X2 := by rw [← hX2]; exact hm1.setCell (p := ⟨R, 2, none⟩) (.inl rfl) _
        have hp2 := hp1.setR hRl 2 (.int .u8 c0)
        rw [hX2] at hp2
        have x1 : wr.cell? ⟨R, 1, none⟩ = some (.string left) := hbx.cell 1
        have y1 := hbx.frozen 1
        have x2 : X1.cell? ⟨R, 2, none⟩ = some (.int .u8 0) := hb1.cell 2
        have y2 := hb1.frozen 2
        obtain ⟨X3, hX3⟩ : ∃ X3, X2.setCell ⟨R, 1, none⟩ (.string ⟨#[]⟩) = X3 := ⟨_, rfl⟩
        have hb3 : Blk X3 R (srA most ⟨#[]⟩ c0) 72 := by rw [← hX3]; exact hb2.set 1 _
        have hm3 : Mod (· = R) w X3 := by rw [← hX3]; exact hm2.setCell (p := ⟨R, 1, none⟩) (.inl rfl) _
        have hp3 := hp2.setR hRl 1 (.string ⟨#[]⟩)
        rw [hX3] at hp3
        have x3 : X2.cell? ⟨R, 1, none⟩ = some (.string rest) := hb2.cell 1
        have y3 := hb2.frozen 1
        have H3 := Lib.hid (And.intro hb3 (And.intro hm3 hp3))
        clear hb3 hm3 hp3
        clear hbx hb1 hm1 hp1 hb2 hm2 hp2 hRl
        go_wp2
        go_ret2
        have hg0 := hG.out
        rw [List.take_length] at hg0
        have ec : feedC most x = c0 := by unfold feedC; rw [HSP.out]; simp only; rw [hg0]; rfl
        have el : feedL most x = (getsP (l.take l.length)).1 := by unfold feedL; rw [HSP.out, List.take_length]
        have er : feedR most x = ⟨#[]⟩ := by unfold feedR; rw [ec, if_pos HC0.out]
        exact ⟨_, by rw [ec]; rfl, by rw [el]; exact H3.out.2.2, by rw [ec, er]; exact H3.out.1, H3.out.2.1⟩
end Go.Proofs.YtedapgeabpadaaaDoor
