/- The walk of the document's under. -/
import Derived.Test.YtichhppfdjkgkaaDoorOverFrom
namespace Go.Proofs.YtichhppfdjkgkaaDoor
set_option linter.unusedVariables false
open Go.RowKit Pl Go.Shelf

def unA (A B : List Bs) (i : Nat) : Bool := und (yyR A B) i (A.drop i) (B.drop i)
theorem unA_both {A B : List Bs} {i : Nat} {x y : Bs} (h1 : A[i]? = some x) (h2 : B[i]? = some y) :
    unA A B i = if x = [35] then (decide (0 < i) || (y == [35] || !dl y)) else if y = [35] then yyR A B i else ((x == y || (x == [43] && !(decide (i = 0) && dl y))) && unA A B (i + 1)) := by
  unfold unA
  rw [drop_at2 h1, drop_at2 h2]
  simp only [und]
theorem unA_left {A B : List Bs} {i : Nat} {x : Bs} (h1 : A[i]? = some x) (h2 : B.length ≤ i) : unA A B i = if x = [35] then true else false := by
  unfold unA
  rw [drop_at2 h1, drop_past h2]
  simp only [und]
theorem unA_right {A B : List Bs} {i : Nat} {y : Bs} (h1 : A.length ≤ i) (h2 : B[i]? = some y) : unA A B i = if y = [35] then yyR A B i else false := by
  unfold unA
  rw [drop_past h1, drop_at2 h2]
  simp only [und]
theorem unA_none {A B : List Bs} {i : Nat} (h1 : A.length ≤ i) (h2 : B.length ≤ i) : unA A B i = true := by
  unfold unA
  rw [drop_past h1, drop_past h2]
  simp only [und]
theorem two_list {A : List Bs} : A = [[43], [35]] ↔ A.length = 2 ∧ A[0]? = some [43] ∧ A[1]? = some [35] := by
  constructor
  · rintro rfl; exact ⟨rfl, rfl, rfl⟩
  · rintro ⟨h1, h2, h3⟩
    match A, h1 with
    | [a, b], _ =>
      simp at h2 h3
      rw [h2, h3]
/-- The answer where the second one ends open. -/
theorem yy_at0 {A B : List Bs} : yyR A B 0 = decide (A.length = 2 ∧ A[0]? = some [43] ∧ A[1]? = some [35]) := by
  unfold yyR
  rw [if_pos rfl, Bool.eq_iff_iff, decide_eq_true_eq, decide_eq_true_eq]
  exact two_list
theorem getD_eq {L : List Bs} {k : Nat} {x y : Bs} (h : L[k]? = some x) : (L.getD k [] = y) ↔ x = y := by
  rw [List.getD_eq_getElem?_getD, h]; rfl
theorem getD_dec {L : List Bs} {k : Nat} {x : Bs} (h : L[k]? = some x) (y : Bs) : decide (L.getD k [] = y) = decide (x = y) := by
  rw [List.getD_eq_getElem?_getD, h]; rfl
theorem yy_at1 {A B : List Bs} : yyR A B 1 = (decide (B.getD 0 [] = []) && (decide (A.length = 3) && (decide (A.getD 1 [] = [43]) && decide (A.getD 2 [] = [35])))) := by
  unfold yyR
  rw [if_neg (by omega), if_pos rfl]
theorem yy_more {A B : List Bs} {i : Nat} (h : 2 ≤ i) : yyR A B i = false := by
  unfold yyR
  rw [if_neg (by omega), if_neg (by omega)]
set_option maxRecDepth 100000 in
set_option maxHeartbeats 4000000 in
theorem under_openL (A B : List Bs) (g g' n m c c' i : Nat) (w : World) (hn : A.length = n) (hm : B.length = m) (hnb : n ≤ 1048576) (hmb : m ≤ 1048576) (hi : i ≤ 1048576) (hA : Lv w g A) (hB : Lv w g' B) (hn1 : 1 ≤ n) (x : Bs) (hx : A[i]? = some x) (hx35 : x ≠ [35]) (hy : B[i]? = some [35]) :
    Calls Tryd.prog 38 #[.slice (some ⟨g, 0, none⟩) n c, .slice (some ⟨g', 0, none⟩) m c', .int .i64 i] w fun e w' => e = .returned (.bool (yyR A B i)) ∧ Below w.heap.size w w' := by
  have ey : w.cell? ⟨g', i, none⟩ = some (.string ⟨#[35]⟩) := hB.2 i _ hy
  have h2 : i < m := by rw [← hm]; exact (List.getElem?_eq_some_iff.1 hy).1
  have him : (i : Int) < (m : Int) := by omega
  have ex := hA.2 i x hx
  unfold strV at ex
  have h1 : i < n := by rw [← hn]; exact (List.getElem?_eq_some_iff.1 hx).1
  have hin : (i : Int) < (n : Int) := by omega
  have f0 : (x == [35]) = false := beq_eq_false_iff_ne.2 hx35
  clear hx35
  by_cases hi0 : i = 0
  · subst hi0
    rw [yy_at0, hn]
    by_cases hn2 : n = 2
    · obtain ⟨a1, h1⟩ : ∃ a1, A[1]? = some a1 := ⟨_, List.getElem?_eq_getElem (by rw [hn]; omega)⟩
      have e1 := hA.2 1 a1 h1
      unfold strV at e1
      rw [hx, h1]
      have q1 : ((n : Int) == 2) = true := by rw [hn2]; rfl
      have q2 : (1 : Int) < (n : Int) := by omega
      by_cases hx43 : x = [43]
      · subst hx43
        have ex2 : w.cell? ⟨g, 0, none⟩ = some (.string ⟨#[43]⟩) := ex
        clear ex
        by_cases ha35 : a1 = [35]
        · subst ha35
          have ea2 : w.cell? ⟨g, 1, none⟩ = some (.string ⟨#[35]⟩) := e1
          have er : decide (n = 2 ∧ some ([43] : Bs) = some [43] ∧ some ([35] : Bs) = some [35]) = true := by simp [hn2]
          rw [er]
          clear e1 er hA hB hn hm h1 hx hy hn2
          go_enter Tryd.func38, Tryd.ntmps38
          go_wp2
          all_goals go_ret
          all_goals exact ⟨by first | rfl | exact rb (decide_eq_false (by omega)) | exact rb (decide_eq_true (by omega)), Below.refl _ _⟩
        · have er : decide (n = 2 ∧ some ([43] : Bs) = some [43] ∧ some a1 = some [35]) = false := by simp [ha35]
          have f2 : (a1 == [35]) = false := beq_eq_false_iff_ne.2 ha35
          rw [er]
          clear er hA hB hn hm h1 hx hy hn2 ha35
          go_enter Tryd.func38, Tryd.ntmps38
          go_wp2
          all_goals go_ret
          all_goals exact ⟨by first | rfl | exact rb (decide_eq_false (by omega)) | exact rb (decide_eq_true (by omega)), Below.refl _ _⟩
      · have er : decide (n = 2 ∧ some x = some [43] ∧ some a1 = some [35]) = false := by simp [hx43]
        have f2 : (x == [43]) = false := beq_eq_false_iff_ne.2 hx43
        rw [er]
        clear er hA hB hn hm h1 hx hy hn2 hx43
        go_enter Tryd.func38, Tryd.ntmps38
        go_wp2
        all_goals go_ret
        all_goals exact ⟨by first | rfl | exact rb (decide_eq_false (by omega)) | exact rb (decide_eq_true (by omega)), Below.refl _ _⟩
    · have er : decide (n = 2 ∧ A[0]? = some [43] ∧ A[1]? = some [35]) = false := by simp [hn2]
      have q1 : ((n : Int) == 2) = false := by rw [beq_eq_false_iff_ne]; omega
      rw [er]
      clear er hA hB hn hm hx hy hn2
      go_enter Tryd.func38, Tryd.ntmps38
      go_wp2
      all_goals go_ret
      all_goals exact ⟨by first | rfl | exact rb (decide_eq_false (by omega)) | exact rb (decide_eq_true (by omega)), Below.refl _ _⟩
  by_cases hi1 : i = 1
  · have hyy : yyR A B i = (decide (B.getD 0 [] = []) && (decide (A.length = 3) && (decide (A.getD 1 [] = [43]) && decide (A.getD 2 [] = [35])))) := by rw [hi1]; exact yy_at1
    rw [hyy, hn]
    have q00 : ((i : Int) == 0) = false := by rw [beq_eq_false_iff_ne]; omega
    have q01 : ((i : Int) == 1) = true := by rw [beq_iff_eq]; omega
    obtain ⟨b0, h0⟩ : ∃ b0, B[0]? = some b0 := ⟨_, List.getElem?_eq_getElem (by rw [hm]; omega)⟩
    have e0 := hB.2 0 b0 h0
    unfold strV at e0
    have hpos : (0 : Int) < (m : Int) := by omega
    rw [getD_dec h0]
    have hsz := sz_pos b0
    obtain ⟨X0, hX0⟩ : ∃ X0 : ByteArray, (⟨b0.toArray⟩ : ByteArray) = X0 := ⟨_, rfl⟩
    rw [hX0] at e0 hsz
    by_cases hb0 : b0 = []
    · have hz0 : ¬ ((X0.size : Int) > 0) := fun h => hsz.1 h hb0
      have hz1 : ((X0.size : Int) == 0) = true := by rw [beq_iff_eq]; omega
      by_cases hn3 : n = 3
      · obtain ⟨a2, h2a⟩ : ∃ a2, A[2]? = some a2 := ⟨_, List.getElem?_eq_getElem (by rw [hn]; omega)⟩
        have e2 := hA.2 2 a2 h2a
        unfold strV at e2
        have hx1 : A[1]? = some x := by rw [← hi1]; exact hx
        have e1 := hA.2 1 x hx1
        unfold strV at e1
        rw [getD_dec hx1, getD_dec h2a]
        have q1 : ((n : Int) == 3) = true := by rw [hn3]; rfl
        have q2 : (1 : Int) < (n : Int) := by omega
        have q3 : (2 : Int) < (n : Int) := by omega
        by_cases hx43 : x = [43]
        · subst hx43
          have ex2 : w.cell? ⟨g, 1, none⟩ = some (.string ⟨#[43]⟩) := e1
          clear e1
          by_cases ha35 : a2 = [35]
          · subst ha35
            have ea2 : w.cell? ⟨g, 2, none⟩ = some (.string ⟨#[35]⟩) := e2
            have er : (decide (b0 = []) && (decide (n = 3) && (decide (([43] : Bs) = [43]) && decide (([35] : Bs) = [35])))) = true := by rw [hb0, hn3]; rfl
            rw [er]
            clear e2 er hA hB hn hm h0 h2a hx hx1 hyy hi1 hi0 hy hn3 hX0 hsz hb0
            go_enter Tryd.func38, Tryd.ntmps38
            go_wp2
            all_goals go_ret
            all_goals exact ⟨by first | rfl | exact rb (decide_eq_false (by omega)) | exact rb (decide_eq_true (by omega)), Below.refl _ _⟩
          · have er : (decide (b0 = []) && (decide (n = 3) && (decide (([43] : Bs) = [43]) && decide (a2 = [35])))) = false := by simp [ha35]
            have f2 : (a2 == [35]) = false := beq_eq_false_iff_ne.2 ha35
            rw [er]
            clear er hA hB hn hm h0 h2a hx hx1 hyy hi1 hi0 hy hn3 hX0 hsz hb0 ha35
            go_enter Tryd.func38, Tryd.ntmps38
            go_wp2
            all_goals go_ret
            all_goals exact ⟨by first | rfl | exact rb (decide_eq_false (by omega)) | exact rb (decide_eq_true (by omega)), Below.refl _ _⟩
        · have er : (decide (b0 = []) && (decide (n = 3) && (decide (x = [43]) && decide (a2 = [35])))) = false := by simp [hx43]
          have f2 : (x == [43]) = false := beq_eq_false_iff_ne.2 hx43
          rw [er]
          clear er hA hB hn hm h0 h2a hx hx1 hyy hi1 hi0 hy hn3 hX0 hsz hb0 hx43
          go_enter Tryd.func38, Tryd.ntmps38
          go_wp2
          all_goals go_ret
          all_goals exact ⟨by first | rfl | exact rb (decide_eq_false (by omega)) | exact rb (decide_eq_true (by omega)), Below.refl _ _⟩
      · have er : (decide (b0 = []) && (decide (n = 3) && (decide (A.getD 1 [] = [43]) && decide (A.getD 2 [] = [35])))) = false := by simp [hn3]
        have q1 : ((n : Int) == 3) = false := by rw [beq_eq_false_iff_ne]; omega
        rw [er]
        clear er hA hB hn hm h0 hx hyy hi1 hi0 hy hn3 hX0 hsz hb0
        go_enter Tryd.func38, Tryd.ntmps38
        go_wp2
        all_goals go_ret
        all_goals exact ⟨by first | rfl | exact rb (decide_eq_false (by omega)) | exact rb (decide_eq_true (by omega)), Below.refl _ _⟩
    · have hz0 : (X0.size : Int) > 0 := hsz.2 hb0
      have hz1 : ((X0.size : Int) == 0) = false := by rw [beq_eq_false_iff_ne]; omega
      have er : (decide (b0 = []) && (decide (n = 3) && (decide (A.getD 1 [] = [43]) && decide (A.getD 2 [] = [35])))) = false := by simp [hb0]
      rw [er]
      clear er hA hB hn hm h0 hx hy hX0 hsz hb0 hyy hi1 hi0
      go_enter Tryd.func38, Tryd.ntmps38
      go_wp2
      all_goals go_ret
      all_goals exact ⟨by first | rfl | exact rb (decide_eq_false (by omega)) | exact rb (decide_eq_true (by omega)), Below.refl _ _⟩
  · rw [yy_more (by omega)]
    have q0 : ((i : Int) == 0) = false := by rw [beq_eq_false_iff_ne]; omega
    have q1 : ((i : Int) == 1) = false := by rw [beq_eq_false_iff_ne]; omega
    clear hA hB hn hm hx hy
    go_enter Tryd.func38, Tryd.ntmps38
    go_wp2
    all_goals go_ret
    all_goals exact ⟨by first | rfl | exact rb (decide_eq_false (by omega)) | exact rb (decide_eq_true (by omega)), Below.refl _ _⟩
set_option maxRecDepth 100000 in
set_option maxHeartbeats 4000000 in
theorem under_openR (A B : List Bs) (g g' n m c c' i : Nat) (w : World) (hn : A.length = n) (hm : B.length = m) (hnb : n ≤ 1048576) (hmb : m ≤ 1048576) (hi : i ≤ 1048576) (hA : Lv w g A) (hB : Lv w g' B) (hn1 : 1 ≤ n) (h1 : ¬ i < n) (hy : B[i]? = some [35]) :
    Calls Tryd.prog 38 #[.slice (some ⟨g, 0, none⟩) n c, .slice (some ⟨g', 0, none⟩) m c', .int .i64 i] w fun e w' => e = .returned (.bool (yyR A B i)) ∧ Below w.heap.size w w' := by
  have ey : w.cell? ⟨g', i, none⟩ = some (.string ⟨#[35]⟩) := hB.2 i _ hy
  have h2 : i < m := by rw [← hm]; exact (List.getElem?_eq_some_iff.1 hy).1
  have him : (i : Int) < (m : Int) := by omega
  have hin : ¬ (i : Int) < (n : Int) := by omega
  by_cases hi0 : i = 0
  · omega
  by_cases hi1 : i = 1
  · have hyy : yyR A B i = (decide (B.getD 0 [] = []) && (decide (A.length = 3) && (decide (A.getD 1 [] = [43]) && decide (A.getD 2 [] = [35])))) := by rw [hi1]; exact yy_at1
    rw [hyy, hn]
    have q00 : ((i : Int) == 0) = false := by rw [beq_eq_false_iff_ne]; omega
    have q01 : ((i : Int) == 1) = true := by rw [beq_iff_eq]; omega
    obtain ⟨b0, h0⟩ : ∃ b0, B[0]? = some b0 := ⟨_, List.getElem?_eq_getElem (by rw [hm]; omega)⟩
    have e0 := hB.2 0 b0 h0
    unfold strV at e0
    have hpos : (0 : Int) < (m : Int) := by omega
    rw [getD_dec h0]
    have hsz := sz_pos b0
    obtain ⟨X0, hX0⟩ : ∃ X0 : ByteArray, (⟨b0.toArray⟩ : ByteArray) = X0 := ⟨_, rfl⟩
    rw [hX0] at e0 hsz
    by_cases hb0 : b0 = []
    · have hz0 : ¬ ((X0.size : Int) > 0) := fun h => hsz.1 h hb0
      have hz1 : ((X0.size : Int) == 0) = true := by rw [beq_iff_eq]; omega
      have hn3 : ¬ n = 3 := by omega
      have er : (decide (b0 = []) && (decide (n = 3) && (decide (A.getD 1 [] = [43]) && decide (A.getD 2 [] = [35])))) = false := by simp [hn3]
      have q1 : ((n : Int) == 3) = false := by rw [beq_eq_false_iff_ne]; omega
      rw [er]
      clear er hA hB hn hm h0 hyy hi1 hi0 hy hn3 hX0 hsz hb0
      go_enter Tryd.func38, Tryd.ntmps38
      go_wp2
      all_goals go_ret
      all_goals exact ⟨by first | rfl | exact rb (decide_eq_false (by omega)) | exact rb (decide_eq_true (by omega)), Below.refl _ _⟩
    · have hz0 : (X0.size : Int) > 0 := hsz.2 hb0
      have hz1 : ((X0.size : Int) == 0) = false := by rw [beq_eq_false_iff_ne]; omega
      have er : (decide (b0 = []) && (decide (n = 3) && (decide (A.getD 1 [] = [43]) && decide (A.getD 2 [] = [35])))) = false := by simp [hb0]
      rw [er]
      clear er hA hB hn hm h0 hy hX0 hsz hb0 hyy hi1 hi0
      go_enter Tryd.func38, Tryd.ntmps38
      go_wp2
      all_goals go_ret
      all_goals exact ⟨by first | rfl | exact rb (decide_eq_false (by omega)) | exact rb (decide_eq_true (by omega)), Below.refl _ _⟩
  · rw [yy_more (by omega)]
    have q0 : ((i : Int) == 0) = false := by rw [beq_eq_false_iff_ne]; omega
    have q1 : ((i : Int) == 1) = false := by rw [beq_eq_false_iff_ne]; omega
    clear hA hB hn hm hy
    go_enter Tryd.func38, Tryd.ntmps38
    go_wp2
    all_goals go_ret
    all_goals exact ⟨by first | rfl | exact rb (decide_eq_false (by omega)) | exact rb (decide_eq_true (by omega)), Below.refl _ _⟩
set_option maxRecDepth 100000 in
set_option maxHeartbeats 4000000 in
theorem under_step (A B : List Bs) (g g' n m c c' i : Nat) (w : World) (hn : A.length = n) (hm : B.length = m) (hnb : n ≤ 1048576) (hmb : m ≤ 1048576) (hi : i ≤ 1048576) (hA : Lv w g A) (hB : Lv w g' B) (hn1 : 1 ≤ n) (hm1 : 1 ≤ m)
    (ih : i < n → ∀ W, Below w.heap.size w W → Calls Tryd.prog 38 #[.slice (some ⟨g, 0, none⟩) n c, .slice (some ⟨g', 0, none⟩) m c', .int .i64 (i + 1 : Nat)] W fun e w' => e = .returned (.bool (unA A B (i + 1))) ∧ Below W.heap.size W w') :
    Calls Tryd.prog 38 #[.slice (some ⟨g, 0, none⟩) n c, .slice (some ⟨g', 0, none⟩) m c', .int .i64 i] w fun e w' => e = .returned (.bool (unA A B i)) ∧ Below w.heap.size w w' := by
  by_cases h1 : i < n
  · obtain ⟨x, hx⟩ : ∃ x, A[i]? = some x := ⟨_, List.getElem?_eq_getElem (by rw [hn]; exact h1)⟩
    have ex := hA.2 i x hx
    unfold strV at ex
    have hin : (i : Int) < (n : Int) := by omega
    by_cases h2 : i < m
    · obtain ⟨y, hy⟩ : ∃ y, B[i]? = some y := ⟨_, List.getElem?_eq_getElem (by rw [hm]; exact h2)⟩
      have ey := hB.2 i y hy
      unfold strV at ey
      have him : (i : Int) < (m : Int) := by omega
      rw [unA_both hx hy]
      by_cases hx35 : x = [35]
      · subst hx35
        have c1 : w.cell? ⟨g, i, none⟩ = some (.string ⟨#[35]⟩) := ex
        clear ex
        rw [if_pos rfl]
        by_cases hi0 : 0 < i
        · rw [decide_eq_true hi0, Bool.true_or]
          have q0 : (i : Int) > 0 := by omega
          clear hA hB ih hn hm hx hy
          by_cases hy35 : (y == [35]) = true
          · go_enter Tryd.func38, Tryd.ntmps38
            go_wp2
            all_goals go_ret
            all_goals exact ⟨by first | rfl | exact rb (decide_eq_false (by omega)) | exact rb (decide_eq_true (by omega)), Below.refl _ _⟩
          · have f1 : (y == [35]) = false := by simpa using hy35
            go_enter Tryd.func38, Tryd.ntmps38
            go_wp2
            all_goals go_ret
            all_goals exact ⟨by first | rfl | exact rb (decide_eq_false (by omega)) | exact rb (decide_eq_true (by omega)), Below.refl _ _⟩
        · obtain rfl : i = 0 := by omega
          rw [decide_eq_false (by omega), Bool.false_or]
          by_cases hy35 : y = [35]
          · subst hy35
            have c2 : w.cell? ⟨g', 0, none⟩ = some (.string ⟨#[35]⟩) := ey
            clear ey hA hB ih hn hm hx hy
            go_enter Tryd.func38, Tryd.ntmps38
            go_wp2
            all_goals go_ret
            all_goals exact ⟨by first | rfl | exact rb (decide_eq_false (by omega)) | exact rb (decide_eq_true (by omega)), Below.refl _ _⟩
          · have f1 : (y == [35]) = false := beq_eq_false_iff_ne.2 hy35
            rw [f1, Bool.false_or]
            obtain ⟨Y, hY⟩ : ∃ Y : ByteArray, (⟨y.toArray⟩ : ByteArray) = Y := ⟨_, rfl⟩
            have hy2 : y = Y.data.toList := by rw [← hY]
            have f2 : (Y.toList == [35]) = false := by rw [ByteArray.toList_eq, ← hy2]; exact f1
            have f3 : (Y.data.toList == [35]) = false := by rw [← hy2]; exact f1
            rw [hY] at ey
            rw [hy2]
            clear hy2 hY hA hB ih hn hm hx hy hy35 f1
            by_cases hz : Y.size = 0
            · have ez : ((Y.size : Int) == 0) = true := by rw [beq_iff_eq]; omega
              rw [dl_nil Y hz]
              go_enter Tryd.func38, Tryd.ntmps38
              go_wp2
              all_goals go_ret
              all_goals exact ⟨by first | rfl | exact rb (decide_eq_false (by omega)) | exact rb (decide_eq_true (by omega)), Below.refl _ _⟩
            · have hp : 0 < Y.size := by omega
              have ez : ((Y.size : Int) == 0) = false := by rw [beq_eq_false_iff_ne]; omega
              rw [dl_at Y hp]
              go_enter Tryd.func38, Tryd.ntmps38
              go_wp2
              all_goals go_ret
              all_goals exact ⟨by first | rfl | exact rb (decide_eq_false (by omega)) | exact rb (decide_eq_true (by omega)), Below.refl _ _⟩
      · rw [if_neg hx35]
        by_cases hy35 : y = [35]
        · subst hy35
          rw [if_pos rfl]
          exact under_openL A B g g' n m c c' i w hn hm hnb hmb hi hA hB hn1 x hx hx35 hy
        · rw [if_neg hy35]
          have f0 : (x == [35]) = false := beq_eq_false_iff_ne.2 hx35
          have f1 : (y == [35]) = false := beq_eq_false_iff_ne.2 hy35
          have IH := Lib.hid (ih h1)
          obtain ⟨nx, hnx⟩ : ∃ nx, unA A B (i + 1) = nx := ⟨_, rfl⟩
          rw [hnx] at IH ⊢
          clear hx35 hy35 ih hnx
          by_cases hxy : x = y
          · have f2 : (x == y) = true := by rw [hxy]; simp
            have f3 : (x != y) = false := by unfold bne; rw [f2]; rfl
            rw [f2, Bool.true_or, Bool.true_and]
            clear hA hB hn hm hx hy hxy
            go_enter Tryd.func38, Tryd.ntmps38
            go_wp2_with fail
            go_quiet (fail)
            go_wp2_with fail
            refine (IH.out _ (drewN_belowF _ _)).mono ?_
            rintro e w1 ⟨rfl, b1⟩
            go_wp2
            go_ret
            exact ⟨rfl, (drewN_belowF _ _).trans (b1.mono (drewN_belowF _ _).size)⟩
          · have f2 : (x == y) = false := beq_eq_false_iff_ne.2 hxy
            have f3 : (x != y) = true := by unfold bne; rw [f2]; rfl
            rw [f2, Bool.false_or]
            by_cases hx43 : x = [43]
            · subst hx43
              have c1 : w.cell? ⟨g, i, none⟩ = some (.string ⟨#[43]⟩) := ex
              have e43 : (([43] : Bs) == [43]) = true := rfl
              rw [e43, Bool.true_and]
              have f4 : (([43] : Bs) == y) = false := f2
              by_cases hi0 : i = 0
              · subst hi0
                rw [decide_eq_true rfl, Bool.true_and]
                obtain ⟨Y, hY⟩ : ∃ Y : ByteArray, (⟨y.toArray⟩ : ByteArray) = Y := ⟨_, rfl⟩
                have hy2 : y = Y.data.toList := by rw [← hY]
                rw [hY] at ey
                rw [hy2] at f1 f2 f3 f4 ⊢
                have g1 : (Y.toList == [35]) = false := by rw [ByteArray.toList_eq]; exact f1
                have g2 : (([43] : Bs) == Y.toList) = false := by rw [ByteArray.toList_eq]; exact f4
                have g3 : (([43] : Bs) != Y.toList) = true := by rw [ByteArray.toList_eq]; exact f3
                clear hy2 hY hA hB hn hm hx hy ex hxy
                by_cases hz : Y.size = 0
                · have ez : ¬ ((Y.size : Int) > 0) := by omega
                  rw [dl_nil Y hz]
                  rw [show (!false && nx) = nx from by simp]
                  go_enter Tryd.func38, Tryd.ntmps38
                  go_wp2_with fail
                  go_quiet (fail)
                  go_wp2_with fail
                  refine (IH.out _ (drewN_belowF _ _)).mono ?_
                  rintro e w1 ⟨rfl, b1⟩
                  go_wp2
                  go_ret
                  exact ⟨rfl, (drewN_belowF _ _).trans (b1.mono (drewN_belowF _ _).size)⟩
                · have hp : 0 < Y.size := by omega
                  have ez : (Y.size : Int) > 0 := by omega
                  rw [dl_at Y hp]
                  cases hd : ((Y[0].toNat : Int) == 36)
                  · rw [show (!false && nx) = nx from by simp]
                    go_enter Tryd.func38, Tryd.ntmps38
                    go_wp2_with fail
                    go_quiet (fail)
                    go_wp2_with fail
                    refine (IH.out _ (drewN_belowF _ _)).mono ?_
                    rintro e w1 ⟨rfl, b1⟩
                    go_wp2
                    go_ret
                    exact ⟨rfl, (drewN_belowF _ _).trans (b1.mono (drewN_belowF _ _).size)⟩
                  · rw [show (!true && nx) = false from rfl]
                    go_enter Tryd.func38, Tryd.ntmps38
                    go_wp2_with fail
                    go_quiet (fail)
                    go_wp2
                    all_goals go_ret
                    all_goals exact ⟨rfl, drewN_belowF _ _⟩
              · have q0 : ((i : Int) == 0) = false := by rw [beq_eq_false_iff_ne]; omega
                rw [decide_eq_false hi0]
                rw [show (!(false && dl y) && nx) = nx from by simp]
                clear hA hB hn hm hx hy ex hxy
                go_enter Tryd.func38, Tryd.ntmps38
                go_wp2_with fail
                go_quiet (fail)
                go_wp2_with fail
                refine (IH.out _ (drewN_belowF _ _)).mono ?_
                rintro e w1 ⟨rfl, b1⟩
                go_wp2
                go_ret
                exact ⟨rfl, (drewN_belowF _ _).trans (b1.mono (drewN_belowF _ _).size)⟩
            · have f4 : (x == [43]) = false := beq_eq_false_iff_ne.2 hx43
              have f5 : (x != [43]) = true := by unfold bne; rw [f4]; rfl
              rw [f4, Bool.false_and, Bool.false_and]
              clear hA hB hn hm hx hy hxy hx43
              go_enter Tryd.func38, Tryd.ntmps38
              go_wp2_with fail
              go_quiet (fail)
              go_wp2
              all_goals go_ret
              all_goals exact ⟨rfl, drewN_belowF _ _⟩
    · rw [unA_left hx (by rw [hm]; omega)]
      have him : ¬ (i : Int) < (m : Int) := by omega
      have q0 : (i : Int) > 0 := by omega
      by_cases hx35 : x = [35]
      · subst hx35
        have c1 : w.cell? ⟨g, i, none⟩ = some (.string ⟨#[35]⟩) := ex
        rw [if_pos rfl]
        clear ex hA hB ih hn hm hx
        go_enter Tryd.func38, Tryd.ntmps38
        go_wp2
        all_goals go_ret
        all_goals exact ⟨by first | rfl | exact rb (decide_eq_false (by omega)) | exact rb (decide_eq_true (by omega)), Below.refl _ _⟩
      · rw [if_neg hx35]
        have f0 : (x == [35]) = false := beq_eq_false_iff_ne.2 hx35
        clear hA hB ih hn hm hx hx35
        go_enter Tryd.func38, Tryd.ntmps38
        go_wp2
        all_goals go_ret
        all_goals exact ⟨by first | rfl | exact rb (decide_eq_false (by omega)) | exact rb (decide_eq_true (by omega)), Below.refl _ _⟩
  · have hin : ¬ (i : Int) < (n : Int) := by omega
    by_cases h2 : i < m
    · obtain ⟨y, hy⟩ : ∃ y, B[i]? = some y := ⟨_, List.getElem?_eq_getElem (by rw [hm]; exact h2)⟩
      have ey := hB.2 i y hy
      unfold strV at ey
      have him : (i : Int) < (m : Int) := by omega
      rw [unA_right (by rw [hn]; omega) hy]
      by_cases hy35 : y = [35]
      · subst hy35
        rw [if_pos rfl]
        exact under_openR A B g g' n m c c' i w hn hm hnb hmb hi hA hB hn1 h1 hy
      · rw [if_neg hy35]
        have f1 : (y == [35]) = false := beq_eq_false_iff_ne.2 hy35
        clear hA hB ih hn hm hy hy35
        go_enter Tryd.func38, Tryd.ntmps38
        go_wp2
        all_goals go_ret
        all_goals exact ⟨by first | rfl | exact rb (decide_eq_false (by omega)) | exact rb (decide_eq_true (by omega)), Below.refl _ _⟩
    · have him : ¬ (i : Int) < (m : Int) := by omega
      rw [unA_none (by rw [hn]; omega) (by rw [hm]; omega)]
      clear hA hB ih hn hm
      go_enter Tryd.func38, Tryd.ntmps38
      go_wp2
      all_goals go_ret
      all_goals exact ⟨by first | rfl | exact rb (decide_eq_false (by omega)) | exact rb (decide_eq_true (by omega)), Below.refl _ _⟩
theorem under_any (A B : List Bs) (g g' n m c c' : Nat) (hn : A.length = n) (hm : B.length = m) (hnb : n ≤ 1048575) (hmb : m ≤ 1048576) (h11 : 1 ≤ n ∧ 1 ≤ m) :
    ∀ (f i : Nat) (w : World), n ≤ i + f → i ≤ n → Lv w g A → Lv w g' B →
    Calls Tryd.prog 38 #[.slice (some ⟨g, 0, none⟩) n c, .slice (some ⟨g', 0, none⟩) m c', .int .i64 i] w fun e w' => e = .returned (.bool (unA A B i)) ∧ Below w.heap.size w w' := by
  intro f
  induction f with
  | zero => exact fun i w h hi hA hB => under_step A B g g' n m c c' i w hn hm (by omega) hmb (by omega) hA hB h11.1 h11.2 (fun h2 => absurd h2 (by omega))
  | succ f ih => exact fun i w h hi hA hB => under_step A B g g' n m c c' i w hn hm (by omega) hmb (by omega) hA hB h11.1 h11.2 (fun h2 W hb => ih (i + 1) W (by omega) (by omega) (hA.below hb) (hB.below hb))
end Go.Proofs.YtichhppfdjkgkaaDoor
