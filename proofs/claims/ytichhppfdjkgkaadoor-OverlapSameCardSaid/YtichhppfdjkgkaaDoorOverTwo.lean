/- The walk of overlap's two. -/
import Derived.Test.YtichhppfdjkgkaaDoorOverParse2
import Derived.BigRegion
namespace Go.Proofs.YtichhppfdjkgkaaDoor
set_option linter.unusedVariables false
open Go.RowKit Pl Go.Shelf

theorem sh_set4 {W : World} {v u1 u2 u3 u4 : Value} {s : Sh} {P Q nP nQ cP cQ : Nat} {aP aQ : Option Addr} (h : ShA W v s) (hP : W.cell? ⟨P, 0, none⟩ = some (.slice aP nP cP)) (hQ : W.cell? ⟨Q, 0, none⟩ = some (.slice aQ nQ cQ)) :
    ShA ((((W.setCell ⟨P, 0, none⟩ u1).setCell ⟨P, 1, none⟩ u2).setCell ⟨Q, 0, none⟩ u3).setCell ⟨Q, 1, none⟩ u4).drew v s := by
  obtain ⟨A, cap, rfl, h1, h2, h3⟩ := h
  refine ⟨A, cap, rfl, h1, h2, fun hp => ?_⟩
  obtain ⟨b, rfl, hl, hc⟩ := h3 hp
  have c0 := hc 0 _ (List.getElem?_eq_getElem hp)
  have nP : P ≠ b := fun e => by rw [← e, hP] at c0; cases c0
  have nQ : Q ≠ b := fun e => by rw [← e, hQ] at c0; cases c0
  refine ⟨b, rfl, by simpa [World.setCell, World.drew] using hl, fun i x hx => ?_⟩
  show ((((W.setCell ⟨P, 0, none⟩ u1).setCell ⟨P, 1, none⟩ u2).setCell ⟨Q, 0, none⟩ u3).setCell ⟨Q, 1, none⟩ u4).cell? _ = _
  rw [World.cell?_setCell_other _ _ _ _ (fun q => nQ (by injection q)), World.cell?_setCell_other _ _ _ _ (fun q => nQ (by injection q)), World.cell?_setCell_other _ _ _ _ (fun q => nP (by injection q)), World.cell?_setCell_other _ _ _ _ (fun q => nP (by injection q))]
  exact hc i x hx
set_option maxHeartbeats 1000000 in
theorem two_any (F G : ByteArray) (w : World) (hF : F.size ≤ 281474976710656) (hG : G.size ≤ 281474976710656) (hT : Tabs w) :
    Calls Tryd.prog 26 #[.string F, .string G] w fun e w' => ∃ u v, e = .returned (.tuple #[u, v, .bool (filtB F && filtB G)]) ∧ ShA w' u (shp F) ∧ ShA w' v (shp G) ∧ Below w.heap.size w w' := by
  have b0 : Below w.heap.size w ((w.alloc (.cells #[.slice none 0 0, .bool false] 37)).alloc (.cells #[.slice none 0 0, .bool false] 37)) := ((Below.refl _ _).alloc (Nat.le_refl _) _).alloc (by simp) _
  have HT := Lib.hid (hT.below b0)
  obtain ⟨x, hx⟩ : ∃ x, filtB F = x := ⟨_, rfl⟩
  obtain ⟨y, hy⟩ : ∃ y, filtB G = y := ⟨_, rfl⟩
  have HX := Lib.hid hx
  have HY := Lib.hid hy
  rw [hx, hy]
  clear hT hx hy
  go_enter Tryd.func26, Tryd.ntmps26
  go_wp2_with fail
  refine (parse_any F _ hF HT.out).mono ?_
  rintro e w1 ⟨u, rfl, hu, b1⟩
  rw [HX.out]
  obtain ⟨A, cap, rfl, hu'⟩ := hu
  have HU := Lib.hid hu'
  clear hu'
  obtain ⟨n, hn⟩ : ∃ n, (shp F).lv.length = n := ⟨_, rfl⟩
  have HN := Lib.hid hn
  obtain ⟨p, hp⟩ : ∃ p, (shp F).op = p := ⟨_, rfl⟩
  have HP := Lib.hid hp
  rw [hn, hp]
  have sh1 : Hid (ShA w1 (.agg #[.slice A n cap, .bool p]) (shp F)) := Lib.hid ⟨A, cap, by rw [hn, hp], HU.out⟩
  clear hn hp HN HP HU
  have B1 := Lib.hid b1
  clear b1
  go_wp2_with fail
  have HT1 := Lib.hid ((HT.out.below B1.out).below ((Below.refl w1.heap.size w1).alloc (Nat.le_refl _) (.cells #[.slice A n cap, .bool p] 37)))
  refine (parse_any G _ hG HT1.out).mono ?_
  rintro e w2 ⟨v, rfl, hv, b2⟩
  rw [HY.out]
  obtain ⟨A', cap', rfl, hv'⟩ := hv
  have HV := Lib.hid hv'
  clear hv'
  obtain ⟨n', hn⟩ : ∃ n, (shp G).lv.length = n := ⟨_, rfl⟩
  have HN' := Lib.hid hn
  obtain ⟨p', hp⟩ : ∃ p, (shp G).op = p := ⟨_, rfl⟩
  have HP' := Lib.hid hp
  rw [hn, hp]
  have sh2 : Hid (ShA w2 (.agg #[.slice A' n' cap', .bool p']) (shp G)) := Lib.hid ⟨A', cap', by rw [hn, hp], HV.out⟩
  clear hn hp HN' HP' HV
  have z0 : w.heap.size + 2 ≤ w1.heap.size := by have := B1.out.size; simpa using this
  have z1 : w1.heap.size + 1 ≤ w2.heap.size := by have := b2.size; simpa using this
  have b3 : Below w2.heap.size w2 (w2.alloc (.cells #[.slice A' n' cap', .bool p'] 37)) := (Below.refl _ _).alloc (Nat.le_refl _) _
  have m3 : ∀ i, (w2.alloc (.cells #[.slice A' n' cap', .bool p'] 37)).cell? ⟨w2.heap.size, i, none⟩ = (#[.slice A' n' cap', .bool p'] : Array Value)[i]? := fun i => World.cell?_alloc_at _ _ _ _ rfl
  have z3 : w2.heap.size < (w2.alloc (.cells #[.slice A' n' cap', .bool p'] 37)).heap.size := by simp
  obtain ⟨W, hW⟩ : ∃ W, w2.alloc (.cells #[.slice A' n' cap', .bool p'] 37) = W := ⟨_, rfl⟩
  rw [hW] at b3 m3 z3
  have d2 : Below (w1.heap.size + 1) (w1.alloc (.cells #[.slice A n cap, .bool p] 37)) W := by
    have := b2
    simp at this
    exact this.trans (b3.mono z1)
  have d1 : Below w1.heap.size w1 W := ((Below.refl w1.heap.size w1).alloc (Nat.le_refl _) _).trans (d2.mono (by simp))
  have d0 : Below (w.heap.size + 2) ((w.alloc (.cells #[.slice none 0 0, .bool false] 37)).alloc (.cells #[.slice none 0 0, .bool false] 37)) W := by
    have := B1.out
    simp at this
    exact this.trans (d1.mono z0)
  have m0 : ∀ i, W.cell? ⟨w.heap.size, i, none⟩ = (#[Value.slice none 0 0, Value.bool false] : Array Value)[i]? := fun i => (d0.cell (p := ⟨w.heap.size, i, none⟩) (by simp)).trans (by rw [World.cell?_alloc_past _ _ _ (by simp), World.cell?_alloc_at _ _ _ _ rfl])
  have m1 : ∀ i, W.cell? ⟨w.heap.size + 1, i, none⟩ = (#[Value.slice none 0 0, Value.bool false] : Array Value)[i]? := fun i => (d0.cell (p := ⟨w.heap.size + 1, i, none⟩) (by simp)).trans (World.cell?_alloc_at _ _ _ _ (by simp))
  have m2 : ∀ i, W.cell? ⟨w1.heap.size, i, none⟩ = (#[Value.slice A n cap, Value.bool p] : Array Value)[i]? := fun i => (d2.cell (p := ⟨w1.heap.size, i, none⟩) (by simp)).trans (World.cell?_alloc_at _ _ _ _ rfl)
  have f0 : ∀ i, W.frozen? ⟨w.heap.size, i, none⟩ = false := fun i => (d0.frozen (p := ⟨w.heap.size, i, none⟩) (by simp)).trans (by simp [go_sem])
  have f1 : ∀ i, W.frozen? ⟨w.heap.size + 1, i, none⟩ = false := fun i => (d0.frozen (p := ⟨w.heap.size + 1, i, none⟩) (by simp)).trans (by simp [go_sem])
  have m30 := m3 0
  have m31 := m3 1
  have m00 := m0 0
  have m01 := m0 1
  have m10 := m1 0
  have m11 := m1 1
  have m20 := m2 0
  have m21 := m2 1
  simp only [List.getElem?_toArray, List.getElem?_cons_zero, List.getElem?_cons_succ] at m00 m01 m10 m11 m20 m21 m30 m31
  have f00 := f0 0
  have f01 := f0 1
  have f10 := f1 0
  have f11 := f1 1
  have D := Lib.hid (b0.trans (d0.mono (by omega)))
  have D1 := Lib.hid d1
  have D3 := Lib.hid b3
  clear m0 m1 m2 m3 f0 f1 d0 d1 d2 b2 b3 b0 HT HT1
  go_wp2_with fail
  (try rw [hW])
  clear hW
  have y0 : w.heap.size < W.heap.size := by omega
  have y1 : w.heap.size + 1 < W.heap.size := by omega
  have y2 : w1.heap.size < W.heap.size := by omega
  have g1 : ¬ w1.heap.size = w.heap.size := by omega
  have g2 : ¬ w1.heap.size = w.heap.size + 1 := by omega
  have g3 : ¬ w2.heap.size = w.heap.size := by omega
  have g4 : ¬ w2.heap.size = w.heap.size + 1 := by omega
  have g5 : ¬ w.heap.size = w1.heap.size := by omega
  have g6 : ¬ w.heap.size + 1 = w1.heap.size := by omega
  have g7 : ¬ w.heap.size = w2.heap.size := by omega
  have g8 : ¬ w.heap.size + 1 = w2.heap.size := by omega
  cases x
  all_goals go_region
  all_goals
    go_wp2
    refine bodyPost_ret (v := .tuple #[.agg #[.slice A n cap, .bool p], .agg #[.slice A' n' cap', .bool p'], _]) (by simp [results, Tryd.results26, go_sem, m00, m01, m10, m11]) rfl ⟨_, _, rfl, ?_, ?_, ?_⟩
    · exact sh_set4 (sh1.out.below D1.out) m00 m10
    · exact sh_set4 (sh2.out.below D3.out) m00 m10
    · exact ((((D.out.setCell (Nat.le_refl _) _).setCell (Nat.le_refl _) _).setCell (by simp) _).setCell (by simp) _).drew
end Go.Proofs.YtichhppfdjkgkaaDoor
