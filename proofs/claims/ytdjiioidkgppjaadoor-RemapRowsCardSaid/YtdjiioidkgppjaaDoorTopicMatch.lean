/- The walk of slices.EqualFunc as package topic's Match calls it. -/
import Derived.Test.YtdjiioidkgppjaaDoorCheckFilter
import Derived.WalkSpells
namespace Go.Proofs.YtdjiioidkgppjaaDoor
set_option linter.unusedVariables false
open Go.RowKit Pl Go.Shelf

theorem eqone_any (x y : ByteArray) (w : World) :
    Calls Tryd.prog 48 #[.string x, .string y] w fun e w' => e = .returned (.bool (one x.data.toList y.data.toList)) ∧ w = w' := by
  cases h : x.data.toList == [43]
  · have e1 : (x.toList == [43]) = false := by rw [ByteArray.toList_eq]; exact h
    obtain ⟨b, hb⟩ : ∃ b, (x.data.toList == y.data.toList) = b := ⟨_, rfl⟩
    have e2 : (x.toList == y.toList) = b := by rw [ByteArray.toList_eq, ByteArray.toList_eq]; exact hb
    have hr := Lib.hid (show one x.data.toList y.data.toList = b by unfold one; rw [h, hb]; rfl)
    clear h hb
    cases b
    all_goals
      go_enter Tryd.func48, Tryd.ntmps48
      go_wp2
      go_ret
      exact ⟨ret_bool hr.out.symm, rfl⟩
  · have e1 : (x.toList == [43]) = true := by rw [ByteArray.toList_eq]; exact h
    have hr := Lib.hid (show one x.data.toList y.data.toList = true by unfold one; rw [h]; rfl)
    clear h
    go_enter Tryd.func48, Tryd.ntmps48
    go_wp2
    go_ret
    exact ⟨ret_bool hr.out.symm, rfl⟩

theorem Pl.eqB_at {F N : List Bs} {k : Nat} {x y : Bs} (h1 : F[k]? = some x) (h2 : N[k]? = some y) : eqB (F.drop k) (N.drop k) = (one x y && eqB (F.drop (k + 1)) (N.drop (k + 1))) := by
  obtain ⟨hk, hx⟩ := List.getElem?_eq_some_iff.1 h1
  obtain ⟨hk2, hx2⟩ := List.getElem?_eq_some_iff.1 h2
  rw [List.drop_eq_getElem_cons hk, hx, List.drop_eq_getElem_cons hk2, hx2]
  rfl
theorem Pl.eqB_end {F N : List Bs} {k : Nat} (h : F.length ≤ k) : eqB (F.drop k) (N.drop k) = true := by
  rw [List.drop_eq_nil_of_le h]; rfl

set_option maxHeartbeats 400000 in
theorem equalfunc_any (n g1 g2 c1 c2 : Nat) (F N : List Bs) (w : World) (hF : F.length = n) (hN : N.length = n) (hn : n ≤ 140737488351232)
    (h1 : ∀ (k : Nat) x, F[k]? = some x → w.cell? ⟨g1, k, none⟩ = some (strV x)) (h2 : ∀ (k : Nat) x, N[k]? = some x → w.cell? ⟨g2, k, none⟩ = some (strV x)) :
    Calls Tryd.prog 47 #[.slice (some ⟨g1, 0, none⟩) n c1, .slice (some ⟨g2, 0, none⟩) n c2, .func (.func 48) #[] #[]] w fun e w' => e = .returned (.bool (eqB F N)) ∧ w = w' := by
  have HF := Lib.hid hF
  have HN := Lib.hid hN
  have H1 := Lib.hid h1
  have H2 := Lib.hid h2
  clear hF hN h1 h2
  go_enter Tryd.func47, Tryd.ntmps47
  go_wp2
  go_loop [7, 8, 9, 17] (fun _ _ _ i => ∃ k : Nat, i = .int .i64 k ∧ k ≤ n ∧ Hid (eqB F N = eqB (F.drop k) (N.drop k))) (fun _ _ _ i => n - (intOf i).toNat)
  case atStart => exact ⟨0, rfl, by omega, Lib.hid (by rw [List.drop_zero, List.drop_zero])⟩
  case round =>
    obtain ⟨k, rfl, hk, hv⟩ := hrel
    by_cases hlt : k < n
    · obtain ⟨x, hx⟩ : ∃ x, F[k]? = some x := ⟨_, List.getElem?_eq_getElem (by rw [HF.out]; exact hlt)⟩
      obtain ⟨y, hy⟩ : ∃ y, N[k]? = some y := ⟨_, List.getElem?_eq_getElem (by rw [HN.out]; exact hlt)⟩
      have hc1 := H1.out k x hx
      have hc2 := H2.out k y hy
      have hf := hv.out.trans (eqB_at hx hy)
      clear hx hy
      obtain ⟨y1, hy1⟩ : ∃ y1 : ByteArray, (⟨x.toArray⟩ : ByteArray) = y1 := ⟨_, rfl⟩
      obtain ⟨y2, hy2⟩ : ∃ y2 : ByteArray, (⟨y.toArray⟩ : ByteArray) = y2 := ⟨_, rfl⟩
      have e1 : x = y1.data.toList := by rw [← hy1]
      have e2 : y = y2.data.toList := by rw [← hy2]
      have hd1 : w.cell? ⟨g1, k, none⟩ = some (.string y1) := by rw [hc1, ← hy1]; rfl
      have hd2 : w.cell? ⟨g2, k, none⟩ = some (.string y2) := by rw [hc2, ← hy2]; rfl
      rw [e1, e2] at hf
      clear hc1 hc2 hy1 hy2 e1 e2
      obtain ⟨b, hb⟩ : ∃ b, Pl.one y1.data.toList y2.data.toList = b := ⟨_, rfl⟩
      rw [hb] at hf
      have Hb := Lib.hid hb
      have Hf := Lib.hid hf
      clear hb hf
      cases b
      · go_wp2_with fail
        refine (eqone_any y1 y2 _).mono ?_
        rintro e w1 ⟨rfl, rfl⟩
        rw [Hb.out]
        go_wp2
        go_ret
        exact ⟨ret_bool (by rw [Hf.out]; rfl), rfl⟩
      · go_wp2_with fail
        refine (eqone_any y1 y2 _).mono ?_
        rintro e w1 ⟨rfl, rfl⟩
        rw [Hb.out]
        go_wp2
        go_round
        case rel => exact ⟨k + 1, by go_num, by omega, Lib.hid (by rw [Hf.out]; rfl)⟩
        case measure => simp [intOf]; omega
    · have hf := hv.out.trans (eqB_end (by rw [HF.out]; omega))
      have Hf := Lib.hid hf
      clear hf
      go_wp2
      go_ret
      exact ⟨ret_bool Hf.out.symm, rfl⟩
end Go.Proofs.YtdjiioidkgppjaaDoor
