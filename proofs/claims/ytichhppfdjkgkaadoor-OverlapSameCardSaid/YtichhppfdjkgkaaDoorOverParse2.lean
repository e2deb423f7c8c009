/- The walk of overlap's parse, of a valid filter (under way). -/
import Derived.Test.YtichhppfdjkgkaaDoorOverParse
namespace Go.Proofs.YtichhppfdjkgkaaDoor
set_option linter.unusedVariables false
open Go.RowKit Pl Go.Shelf

theorem row_cells (w : World) (L : List Bs) : ∀ i x, L[i]? = some x → (w.alloc (.cells (L.map strV).toArray 9)).cell? ⟨w.heap.size, i, none⟩ = some (strV x) := by
  intro i x h
  rw [World.cell?_alloc_at _ _ _ _ rfl]
  simp [h]
theorem drop_at {L : List Bs} {i : Nat} {y : Bs} (h : L.dropLast[i]? = some y) : L[i]? = some y := by
  obtain ⟨hi, e⟩ := List.getElem?_eq_some_iff.1 h
  have hi2 : i < L.length := by simp at hi; omega
  rw [List.getElem?_eq_getElem hi2, ← e, List.getElem_dropLast]
theorem sh_end {W : World} {B a n k : Nat} {u1 u2 : Value} {o : Obj} {L : List Bs} {op : Bool} (hb : a ≠ B) (hB : B < W.heap.size) (hn : L.length = n) (hm : k + 1 ≤ maxLen) (hc : ∀ i y, L[i]? = some y → W.cell? ⟨B, i, none⟩ = some (strV y)) (hk : n ≤ k + 1 := by omega) :
    ShA (((W.setCell ⟨a, 0, none⟩ u1).setCell ⟨a, 1, none⟩ u2).alloc o) (.agg #[.slice (some ⟨B, 0, none⟩) n (k + 1), .bool op]) ⟨L, op⟩ := by
  have hs : ((W.setCell ⟨a, 0, none⟩ u1).setCell ⟨a, 1, none⟩ u2).heap.size = W.heap.size := by simp [World.setCell]
  refine ⟨_, k + 1, by rw [hn], by rw [hn]; exact hk, hm, fun _ => ⟨B, rfl, by simp only [World.alloc, Array.size_push]; omega, fun i y hy => ?_⟩⟩
  rw [World.cell?_alloc_past _ _ _ (by omega), World.cell?_setCell_other _ _ _ _ (fun q => hb (by injection q)), World.cell?_setCell_other _ _ _ _ (fun q => hb (by injection q))]
  exact hc i y hy
set_option maxHeartbeats 1000000 in
theorem parse_good (F : ByteArray) (w : World) (hT : Tabs w) (h : filtB F = true) :
    Calls Tryd.prog 42 #[.string F] w fun e w' => ∃ v, e = .returned (.tuple #[v, .bool (filtB F)]) ∧ ShA w' v (shp F) ∧ Below w.heap.size w w' := by
  have H1 := Lib.hid (filtC_ok h)
  have hsz : F.size ≤ 256 := (szd_size (filt_szd2 h).1).2.1
  have hlen : (lev F.data.toList).length ≤ 32 := by
    have := (filt_szd2 h).1
    unfold szd at this
    simp only [Bool.and_eq_true, decide_eq_true_eq] at this
    exact this.2.2.2
  have hsh := shp_ok h
  rw [hsh, h]
  obtain ⟨L, hL⟩ : ∃ L, lev F.data.toList = L := ⟨_, rfl⟩
  have hne : L ≠ [] := by rw [← hL]; exact lev_ne _
  obtain ⟨k, hk⟩ : ∃ k, L.length = k + 1 := ⟨L.length - 1, by have := List.length_pos_iff.2 hne; omega⟩
  have HL := Lib.hid hL
  have b0 : Below w.heap.size w (w.alloc (.cells #[.slice none 0 0, .bool false] 37)) := (Below.refl _ _).alloc (Nat.le_refl _) _
  have HT := Lib.hid (hT.below b0)
  rw [hL] at hlen
  rw [hL]
  have hw : wrap64 (k : Int) = (k : Int) := by unfold wrap64; omega
  clear hT h hsh hne hL
  go_enter Tryd.func42, Tryd.ntmps42
  go_wp2_with fail
  refine (checkfilter_any F _ (by omega) HT.out).mono ?_
  rintro e w1 ⟨rfl, b1⟩
  rw [H1.out]
  have z1 := b1.size
  simp at z1
  go_wp2_with fail
  refine (levels_any F _ (by omega)).mono ?_
  rintro e w' ⟨rfl, rfl⟩
  rw [HL.out]
  obtain ⟨B, hB⟩ : ∃ B, w1.heap.size = B := ⟨_, rfl⟩
  have hc := row_cells w1 L
  have d2 : Below w1.heap.size w1 (w1.alloc (.cells (L.map strV).toArray 9)) := (Below.refl _ _).alloc (Nat.le_refl _) _
  have g2 : B < (w1.alloc (.cells (L.map strV).toArray 9)).heap.size := by rw [← hB]; simp
  have e2 : Below w.heap.size w (w1.alloc (.cells (L.map strV).toArray 9)) := (b0.trans (b1.mono b0.size)).trans (d2.mono (Nat.le_trans b0.size b1.size))
  have d3 := (b1.trans (d2.mono b1.size))
  have m1 : ∀ i, (w1.alloc (.cells (L.map strV).toArray 9)).cell? ⟨w.heap.size, i, none⟩ = (#[Value.slice none 0 0, Value.bool false] : Array Value)[i]? := fun i => (d3.cell (p := ⟨w.heap.size, i, none⟩) (by simp)).trans (World.cell?_alloc_at _ _ _ _ rfl)
  have m2 : ∀ i, (w1.alloc (.cells (L.map strV).toArray 9)).frozen? ⟨w.heap.size, i, none⟩ = (w.alloc (.cells #[.slice none 0 0, .bool false] 37)).frozen? ⟨w.heap.size, i, none⟩ := fun i => d3.frozen (p := ⟨w.heap.size, i, none⟩) (by simp)
  obtain ⟨W2, hW2⟩ : ∃ W2, w1.alloc (.cells (L.map strV).toArray 9) = W2 := ⟨_, rfl⟩
  rw [hW2] at hc g2 e2 m1 m2 ⊢
  have m3 := m1 0
  have m4 := m1 1
  simp only [List.getElem?_toArray, List.getElem?_cons_zero, List.getElem?_cons_succ] at m3 m4
  clear m1
  have m5 : W2.frozen? ⟨w.heap.size, 0, none⟩ = false := (m2 0).trans (by simp [go_sem])
  have m6 : W2.frozen? ⟨w.heap.size, 1, none⟩ = false := (m2 1).trans (by simp [go_sem])
  clear m2
  rw [hB] at hc z1 ⊢
  have g3 : w.heap.size < W2.heap.size := by omega
  have HC := Lib.hid hc
  have ck : W2.cell? ⟨B, k, none⟩ = some (strV (atL L k)) := hc k _ (atL_lt (by omega))
  obtain ⟨x, hx⟩ : ∃ x, atL L k = x := ⟨_, rfl⟩
  have hk2 : (L.length : Int) - 1 = (k : Int) := by omega
  rw [hx] at ck
  unfold strV at ck
  have hk3 : k < L.length := by omega
  clear hc hW2 hB d2 b0 b1 HT
  have hall : allB L = (x == [35]) := last_at hk (by rw [atL_lt (by omega), hx])
  have hbw : w.heap.size ≠ B := by omega
  cases ha : (x == [35])
  · rw [ha] at hall
    go_wp2
    refine bodyPost_ret (v := .tuple #[.agg #[.slice (some ⟨B, 0, none⟩) (k + 1) (k + 1), .bool false], .bool true]) (by simp [results, Tryd.results42, go_sem, m3, m4, g3]) rfl ⟨_, rfl, ?_, ?_⟩
    · rw [cutL_not hall, hall]
      exact sh_end (W := W2) hbw g2 (by rw [hk]) (by unfold maxLen; omega) (fun i y hy => HC.out i y hy)
    · exact ((e2.setCell (Nat.le_refl _) _).setCell (Nat.le_refl _) _).alloc (by simpa [World.setCell] using e2.size) _
  · rw [ha] at hall
    go_wp2
    refine bodyPost_ret (v := .tuple #[.agg #[.slice (some ⟨B, 0, none⟩) k (k + 1), .bool true], .bool true]) (by simp [results, Tryd.results42, go_sem, m3, m4, g3]) rfl ⟨_, rfl, ?_, ?_⟩
    · rw [cutL_all hall, hall]
      exact sh_end (W := W2) hbw g2 (by rw [List.length_dropLast, hk]; rfl) (by unfold maxLen; omega) (fun i y hy => HC.out i y (drop_at hy))
    · exact ((e2.setCell (Nat.le_refl _) _).setCell (Nat.le_refl _) _).alloc (by simpa [World.setCell] using e2.size) _
theorem parse_any (F : ByteArray) (w : World) (hs : F.size ≤ 281474976710656) (hT : Tabs w) :
    Calls Tryd.prog 42 #[.string F] w fun e w' => ∃ v, e = .returned (.tuple #[v, .bool (filtB F)]) ∧ ShA w' v (shp F) ∧ Below w.heap.size w w' := by
  cases h : filtB F
  · rw [← h]; exact parse_bad F w hs hT h
  · rw [← h]; exact parse_good F w hT h
end Go.Proofs.YtichhppfdjkgkaaDoor
