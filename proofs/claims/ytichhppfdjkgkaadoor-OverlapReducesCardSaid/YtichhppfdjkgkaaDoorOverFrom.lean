/- The walk of the document's from. -/
import Derived.Test.YtichhppfdjkgkaaDoorOverLevel
import Derived.BigQuiet
import Derived.Deep.QuietTactic
namespace Go.Proofs.YtichhppfdjkgkaaDoor
set_option linter.unusedVariables false
open Go.RowKit Pl Go.Shelf

theorem level_bs (x y : Bs) (b : Bool) (w : World) :
    Calls Tryd.prog 48 #[.string ⟨x.toArray⟩, .string ⟨y.toArray⟩, .bool b] w fun e w' => e = .returned (.bool (lvl x y b)) ∧ w' = w := by
  have h := level_any ⟨x.toArray⟩ ⟨y.toArray⟩ b w
  simpa using h
def frP (A B : List Bs) : Bool := !(decide (B.length = 1)) || !(decide (A.getD 0 [] = []))
def frA (A B : List Bs) (i : Nat) : Bool := frm (frP A B) (frP B A) (decide (i = 0)) (A.drop i) (B.drop i)
theorem drop_at2 {L : List Bs} {i : Nat} {x : Bs} (h : L[i]? = some x) : L.drop i = x :: L.drop (i + 1) := by
  obtain ⟨hi, e⟩ := List.getElem?_eq_some_iff.1 h
  rw [← e]; exact List.drop_eq_getElem_cons hi
theorem drop_past {L : List Bs} {i : Nat} (h : L.length ≤ i) : L.drop i = [] := List.drop_eq_nil_of_le h
theorem frA_both {A B : List Bs} {i : Nat} {x y : Bs} (h1 : A[i]? = some x) (h2 : B[i]? = some y) :
    frA A B i = if x = [35] then (if y = [35] then true else lvl [43] y (decide (i = 0))) else if y = [35] then lvl [43] x (decide (i = 0)) else (lvl x y (decide (i = 0)) && frA A B (i + 1)) := by
  unfold frA
  rw [drop_at2 h1, drop_at2 h2]
  simp only [frm]
  rw [show decide (i + 1 = 0) = false from decide_eq_false (by omega)]
theorem frA_left {A B : List Bs} {i : Nat} {x : Bs} (h1 : A[i]? = some x) (h2 : B.length ≤ i) : frA A B i = if x = [35] then frP A B else false := by
  unfold frA
  rw [drop_at2 h1, drop_past h2]
  simp only [frm]
theorem frA_right {A B : List Bs} {i : Nat} {y : Bs} (h1 : A.length ≤ i) (h2 : B[i]? = some y) : frA A B i = if y = [35] then frP B A else false := by
  unfold frA
  rw [drop_past h1, drop_at2 h2]
  simp only [frm]
theorem frA_none {A B : List Bs} {i : Nat} (h1 : A.length ≤ i) (h2 : B.length ≤ i) : frA A B i = true := by
  unfold frA
  rw [drop_past h1, drop_past h2]
  simp only [frm]
/-- A row of levels. -/
def Lv (w : World) (g : Nat) (A : List Bs) : Prop := g < w.heap.size ∧ ∀ k x, A[k]? = some x → w.cell? ⟨g, k, none⟩ = some (strV x)
theorem Lv.below {w w' : World} {g : Nat} {A : List Bs} (h : Lv w g A) (hb : Below w.heap.size w w') : Lv w' g A :=
  ⟨Nat.lt_of_lt_of_le h.1 hb.size, fun k x hx => (hb.cell (p := ⟨g, k, none⟩) h.1).trans (h.2 k x hx)⟩
theorem rb {p : Prop} [Decidable p] {b : Bool} (h : decide p = b) : Ending.returned (.bool (decide p)) = Ending.returned (.bool b) := by rw [h]
theorem sz_pos (x : Bs) : ((⟨x.toArray⟩ : ByteArray).size : Int) > 0 ↔ x ≠ [] := by
  cases x with
  | nil => simp [ByteArray.size]
  | cons a r => simp [ByteArray.size]

theorem drewN_belowF (X : World) (m : Nat) : Below X.heap.size X (X.drewN m) := by
  induction m with
  | zero => exact Below.refl _ _
  | succ m ih => exact ih.drew
set_option maxRecDepth 100000 in
set_option maxHeartbeats 4000000 in
theorem from_step (A B : List Bs) (g g' n m c c' i : Nat) (w : World) (hn : A.length = n) (hm : B.length = m) (hnb : n ≤ 1048576) (hmb : m ≤ 1048576) (hi : i ≤ 1048576) (hA : Lv w g A) (hB : Lv w g' B)
    (ih : i < n → ∀ W, Below w.heap.size w W → Calls Tryd.prog 25 #[.slice (some ⟨g, 0, none⟩) n c, .slice (some ⟨g', 0, none⟩) m c', .int .i64 (i + 1 : Nat)] W fun e w' => e = .returned (.bool (frA A B (i + 1))) ∧ Below W.heap.size W w') :
    Calls Tryd.prog 25 #[.slice (some ⟨g, 0, none⟩) n c, .slice (some ⟨g', 0, none⟩) m c', .int .i64 i] w fun e w' => e = .returned (.bool (frA A B i)) ∧ Below w.heap.size w w' := by
  obtain ⟨z, hz⟩ : ∃ z, ((i : Int) == 0) = z := ⟨_, rfl⟩
  have hz2 : decide (i = 0) = z := by rw [← hz, Bool.eq_iff_iff]; simp
  by_cases h1 : i < n
  · obtain ⟨x, hx⟩ : ∃ x, A[i]? = some x := ⟨_, List.getElem?_eq_getElem (by rw [hn]; exact h1)⟩
    have ex := hA.2 i x hx
    unfold strV at ex
    have hin : (i : Int) < (n : Int) := by omega
    by_cases h2 : i < m
    · obtain ⟨y, hy⟩ : ∃ y, B[i]? = some y := ⟨_, List.getElem?_eq_getElem (by rw [hm]; exact h2)⟩
      have ey := hB.2 i y hy
      unfold strV at ey
      have him : (i : Int) < (m : Int) := by omega
      have IH := Lib.hid (ih h1)
      obtain ⟨nx, hnx⟩ : ∃ nx, frA A B (i + 1) = nx := ⟨_, rfl⟩
      rw [hnx] at IH
      rw [frA_both hx hy, hnx, hz2]
      have l1 := level_bs [43] y z
      have l2 := level_bs [43] x z
      have l3 := level_bs x y z
      obtain ⟨v1, hv1⟩ : ∃ v, lvl [43] y z = v := ⟨_, rfl⟩
      obtain ⟨v2, hv2⟩ : ∃ v, lvl [43] x z = v := ⟨_, rfl⟩
      obtain ⟨v3, hv3⟩ : ∃ v, lvl x y z = v := ⟨_, rfl⟩
      rw [hv1] at l1 ⊢
      rw [hv2] at l2 ⊢
      rw [hv3] at l3 ⊢
      have L1 := Lib.hid l1
      have L2 := Lib.hid l2
      have L3 := Lib.hid l3
      clear l1 l2 l3 hv1 hv2 hv3 hx hy hA hB ih hnx hz2 hn hm
      by_cases hx35 : x = [35]
      · subst hx35
        have c1 : w.cell? ⟨g, i, none⟩ = some (.string ⟨#[35]⟩) := ex
        clear ex
        rw [if_pos rfl]
        by_cases hy35 : y = [35]
        · subst hy35
          have c2 : w.cell? ⟨g', i, none⟩ = some (.string ⟨#[35]⟩) := ey
          clear ey
          rw [if_pos rfl]
          go_enter Tryd.func25, Tryd.ntmps25
          go_wp2
          go_ret
          exact ⟨by first | rfl | exact rb (decide_eq_false (by omega)) | exact rb (decide_eq_true (by omega)), Below.refl _ _⟩
        · rw [if_neg hy35]
          have f1 : (y == [35]) = false := beq_eq_false_iff_ne.2 hy35
          clear hy35
          go_enter Tryd.func25, Tryd.ntmps25
          go_wp2_with fail
          refine (L1.out _).mono ?_
          rintro e w1 ⟨rfl, rfl⟩
          go_wp2
          go_ret
          exact ⟨by first | rfl | exact rb (decide_eq_false (by omega)) | exact rb (decide_eq_true (by omega)), Below.refl _ _⟩
      · rw [if_neg hx35]
        have f0 : (x == [35]) = false := beq_eq_false_iff_ne.2 hx35
        clear hx35
        by_cases hy35 : y = [35]
        · subst hy35
          have c2 : w.cell? ⟨g', i, none⟩ = some (.string ⟨#[35]⟩) := ey
          clear ey
          rw [if_pos rfl]
          go_enter Tryd.func25, Tryd.ntmps25
          go_wp2_with fail
          refine (L2.out _).mono ?_
          rintro e w1 ⟨rfl, rfl⟩
          go_wp2
          go_ret
          exact ⟨by first | rfl | exact rb (decide_eq_false (by omega)) | exact rb (decide_eq_true (by omega)), Below.refl _ _⟩
        · rw [if_neg hy35]
          have f1 : (y == [35]) = false := beq_eq_false_iff_ne.2 hy35
          clear hy35
          cases v3
          · go_enter Tryd.func25, Tryd.ntmps25
            go_wp2_with fail
            go_quiet ((go_at_call 48; refine Calls.quiet_of_same (L3.out _)))
            go_wp2
            go_ret
            exact ⟨rfl, drewN_belowF _ _⟩
          · rw [Bool.true_and]
            go_enter Tryd.func25, Tryd.ntmps25
            go_wp2_with fail
            go_quiet ((go_at_call 48; refine Calls.quiet_of_same (L3.out _)))
            go_wp2_with fail
            refine (IH.out _ (drewN_belowF _ _)).mono ?_
            rintro e w1 ⟨rfl, b1⟩
            go_wp2
            go_ret
            exact ⟨rfl, (drewN_belowF _ _).trans (b1.mono (drewN_belowF _ _).size)⟩
    · rw [frA_left hx (by rw [hm]; omega)]
      have him : ¬ (i : Int) < (m : Int) := by omega
      by_cases x35 : x = [35]
      · subst x35
        have c1 : w.cell? ⟨g, i, none⟩ = some (.string ⟨#[35]⟩) := ex
        rw [if_pos rfl]
        obtain ⟨a0, h0⟩ : ∃ a0, A[0]? = some a0 := ⟨_, List.getElem?_eq_getElem (by rw [hn]; omega)⟩
        have e0 := hA.2 0 a0 h0
        unfold strV at e0
        have hpos : (0 : Int) < (n : Int) := by omega
        have hfr : frP A B = (!(decide (m = 1)) || !(decide (a0 = []))) := by unfold frP; rw [hm, List.getD_eq_getElem?_getD, h0]; rfl
        rw [hfr]
        have hsz := sz_pos a0
        obtain ⟨X0, hX0⟩ : ∃ X0 : ByteArray, (⟨a0.toArray⟩ : ByteArray) = X0 := ⟨_, rfl⟩
        rw [hX0] at e0 hsz
        by_cases hm1 : m = 1
        · have q1 : ((m : Int) != 1) = false := by rw [hm1]; rfl
          have q2 : ((m : Int) == 1) = true := by rw [hm1]; rfl
          by_cases ha0 : a0 = []
          · have hz0 : ¬ ((X0.size : Int) > 0) := fun h => hsz.1 h ha0
            have er : (!(decide (m = 1)) || !(decide (a0 = []))) = false := by rw [hm1, ha0]; rfl
            rw [er]
            clear hfr hsz hX0 h0 hA hB ih hz2 hn hm er ha0 hm1 ex hx
            go_enter Tryd.func25, Tryd.ntmps25
            go_wp2
            go_ret
            exact ⟨by first | rfl | exact rb (decide_eq_false (by omega)) | exact rb (decide_eq_true (by omega)), Below.refl _ _⟩
          · have hz0 : (X0.size : Int) > 0 := hsz.2 ha0
            have er : (!(decide (m = 1)) || !(decide (a0 = []))) = true := by rw [decide_eq_false ha0]; simp
            rw [er]
            clear hfr hsz hX0 h0 hA hB ih hz2 hn hm er ha0 hm1 ex hx
            go_enter Tryd.func25, Tryd.ntmps25
            go_wp2
            go_ret
            exact ⟨by first | rfl | exact rb (decide_eq_false (by omega)) | exact rb (decide_eq_true (by omega)), Below.refl _ _⟩
        · have q1 : ((m : Int) != 1) = true := by rw [bne_iff_ne]; omega
          have q2 : ((m : Int) == 1) = false := by rw [beq_eq_false_iff_ne]; omega
          have er : (!(decide (m = 1)) || !(decide (a0 = []))) = true := by rw [decide_eq_false hm1]; rfl
          rw [er]
          clear hfr hsz hX0 h0 hA hB ih hz2 hn hm er hm1 ex hx
          go_enter Tryd.func25, Tryd.ntmps25
          go_wp2
          go_ret
          exact ⟨by first | rfl | exact rb (decide_eq_false (by omega)) | exact rb (decide_eq_true (by omega)), Below.refl _ _⟩
      · rw [if_neg x35]
        have f0 : (x == [35]) = false := beq_eq_false_iff_ne.2 x35
        clear x35 hA hB ih hz2 hn hm hx
        go_enter Tryd.func25, Tryd.ntmps25
        go_wp2
        go_ret
        exact ⟨by first | rfl | exact rb (decide_eq_false (by omega)) | exact rb (decide_eq_true (by omega)), Below.refl _ _⟩
  · have hin : ¬ (i : Int) < (n : Int) := by omega
    by_cases h2 : i < m
    · obtain ⟨y, hx⟩ : ∃ y, B[i]? = some y := ⟨_, List.getElem?_eq_getElem (by rw [hm]; exact h2)⟩
      have ey := hB.2 i y hx
      unfold strV at ey
      have him : (i : Int) < (m : Int) := by omega
      rw [frA_right (by rw [hn]; omega) hx]
      by_cases y35 : y = [35]
      · subst y35
        have c1 : w.cell? ⟨g', i, none⟩ = some (.string ⟨#[35]⟩) := ey
        rw [if_pos rfl]
        obtain ⟨a0, h0⟩ : ∃ a0, B[0]? = some a0 := ⟨_, List.getElem?_eq_getElem (by rw [hm]; omega)⟩
        have e0 := hB.2 0 a0 h0
        unfold strV at e0
        have hpos : (0 : Int) < (m : Int) := by omega
        have hfr : frP B A = (!(decide (n = 1)) || !(decide (a0 = []))) := by unfold frP; rw [hn, List.getD_eq_getElem?_getD, h0]; rfl
        rw [hfr]
        have hsz := sz_pos a0
        obtain ⟨X0, hX0⟩ : ∃ X0 : ByteArray, (⟨a0.toArray⟩ : ByteArray) = X0 := ⟨_, rfl⟩
        rw [hX0] at e0 hsz
        by_cases hm1 : n = 1
        · have q1 : ((n : Int) != 1) = false := by rw [hm1]; rfl
          have q2 : ((n : Int) == 1) = true := by rw [hm1]; rfl
          by_cases ha0 : a0 = []
          · have hz0 : ¬ ((X0.size : Int) > 0) := fun h => hsz.1 h ha0
            have er : (!(decide (n = 1)) || !(decide (a0 = []))) = false := by rw [hm1, ha0]; rfl
            rw [er]
            clear hfr hsz hX0 h0 hA hB ih hz2 hn hm er ha0 hm1 ey hx
            go_enter Tryd.func25, Tryd.ntmps25
            go_wp2
            go_ret
            exact ⟨by first | rfl | exact rb (decide_eq_false (by omega)) | exact rb (decide_eq_true (by omega)), Below.refl _ _⟩
          · have hz0 : (X0.size : Int) > 0 := hsz.2 ha0
            have er : (!(decide (n = 1)) || !(decide (a0 = []))) = true := by rw [decide_eq_false ha0]; simp
            rw [er]
            clear hfr hsz hX0 h0 hA hB ih hz2 hn hm er ha0 hm1 ey hx
            go_enter Tryd.func25, Tryd.ntmps25
            go_wp2
            go_ret
            exact ⟨by first | rfl | exact rb (decide_eq_false (by omega)) | exact rb (decide_eq_true (by omega)), Below.refl _ _⟩
        · have q1 : ((n : Int) != 1) = true := by rw [bne_iff_ne]; omega
          have q2 : ((n : Int) == 1) = false := by rw [beq_eq_false_iff_ne]; omega
          have er : (!(decide (n = 1)) || !(decide (a0 = []))) = true := by rw [decide_eq_false hm1]; rfl
          rw [er]
          clear hfr hsz hX0 h0 hA hB ih hz2 hn hm er hm1 ey hx
          go_enter Tryd.func25, Tryd.ntmps25
          go_wp2
          go_ret
          exact ⟨by first | rfl | exact rb (decide_eq_false (by omega)) | exact rb (decide_eq_true (by omega)), Below.refl _ _⟩
      · rw [if_neg y35]
        have f0 : (y == [35]) = false := beq_eq_false_iff_ne.2 y35
        clear y35 hA hB ih hz2 hn hm hx
        go_enter Tryd.func25, Tryd.ntmps25
        go_wp2
        go_ret
        exact ⟨by first | rfl | exact rb (decide_eq_false (by omega)) | exact rb (decide_eq_true (by omega)), Below.refl _ _⟩
    · rw [frA_none (by rw [hn]; omega) (by rw [hm]; omega)]
      have him : ¬ (i : Int) < (m : Int) := by omega
      clear hA hB ih hz2 hn hm
      go_enter Tryd.func25, Tryd.ntmps25
      go_wp2
      go_ret
      exact ⟨by first | rfl | exact rb (decide_eq_false (by omega)) | exact rb (decide_eq_true (by omega)), Below.refl _ _⟩
theorem from_any (A B : List Bs) (g g' n m c c' : Nat) (hn : A.length = n) (hm : B.length = m) (hnb : n ≤ 1048575) (hmb : m ≤ 1048576) :
    ∀ (f i : Nat) (w : World), n ≤ i + f → i ≤ n → Lv w g A → Lv w g' B →
    Calls Tryd.prog 25 #[.slice (some ⟨g, 0, none⟩) n c, .slice (some ⟨g', 0, none⟩) m c', .int .i64 i] w fun e w' => e = .returned (.bool (frA A B i)) ∧ Below w.heap.size w w' := by
  intro f
  induction f with
  | zero => exact fun i w h hi hA hB => from_step A B g g' n m c c' i w hn hm (by omega) hmb (by omega) hA hB (fun h2 => absurd h2 (by omega))
  | succ f ih => exact fun i w h hi hA hB => from_step A B g g' n m c c' i w hn hm (by omega) hmb (by omega) hA hB (fun h2 W hb => ih (i + 1) W (by omega) (by omega) (hA.below hb) (hB.below hb))
end Go.Proofs.YtichhppfdjkgkaaDoor
