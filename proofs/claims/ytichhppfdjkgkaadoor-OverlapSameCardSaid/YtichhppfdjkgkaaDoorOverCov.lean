/- The walk of overlap's Covers. -/
import Derived.Test.YtichhppfdjkgkaaDoorOverGap
namespace Go.Proofs.YtichhppfdjkgkaaDoor
set_option linter.unusedVariables false
open Go.RowKit Pl Go.Shelf

theorem cvB_gp (F G : ByteArray) : cvB F G = ((filtB F && filtB G) && !gpB F G) := by
  unfold cvB gpB
  cases filtB F <;> cases filtB G <;> simp
set_option maxHeartbeats 1000000 in
theorem covers_any (F G : ByteArray) (w : World) (hF : F.size ≤ 281474976710656) (hG : G.size ≤ 281474976710656) (hT : Tabs w) :
    Calls Tryd.prog 17 #[.string F, .string G] w fun e w' => e = .returned (.bool (cvB F G)) ∧ Below w.heap.size w w' := by
  have C2 := Lib.hid (two_any F G w hF hG hT)
  have CG : ∀ X, Below w.heap.size w X → _ := fun X hb => gap_any F G X hF hG (hT.below hb)
  obtain ⟨gp, hgp⟩ : ∃ gp, gpB F G = gp := ⟨_, rfl⟩
  obtain ⟨ok, hok⟩ : ∃ ok, (filtB F && filtB G) = ok := ⟨_, rfl⟩
  obtain ⟨gs, hgs⟩ : ∃ gs, (if gp then gapS F G else (⟨#[]⟩ : ByteArray)) = gs := ⟨_, rfl⟩
  rw [hgp, hgs] at CG
  rw [hok] at C2
  rw [cvB_gp, hgp, hok]
  have CG := Lib.hid CG
  clear hgp hok hgs hT
  cases ok
  · go_enter Tryd.func17, Tryd.ntmps17
    go_wp2_with fail
    refine C2.out.mono ?_
    rintro e w1 ⟨u, v, rfl, hu, hv, b1⟩
    obtain ⟨A, n, c, p, rfl⟩ : ∃ A n c p, u = .agg #[.slice A n c, .bool p] := by
      obtain ⟨A, c, rfl, _⟩ := hu
      exact ⟨_, _, _, _, rfl⟩
    obtain ⟨A', n', c', p', rfl⟩ : ∃ A n c p, v = .agg #[.slice A n c, .bool p] := by
      obtain ⟨A, c, rfl, _⟩ := hv
      exact ⟨_, _, _, _, rfl⟩
    clear hu hv
    go_wp2_with fail
    have b2 : Below w.heap.size w ((w1.alloc (.cells #[.slice A n c, .bool p] 37)).alloc (.cells #[.slice A' n' c', .bool p'] 37)) := (b1.alloc b1.size _).alloc (Nat.le_trans b1.size (by simp)) _
    refine (CG.out _ b2).mono ?_
    rintro e w2 ⟨rfl, b3⟩
    have b4 := b2.trans (b3.mono b2.size)
    clear b1 b2 b3
    go_wp2
    go_ret
    exact ⟨rfl, b4⟩
  · cases gp
    all_goals
      go_enter Tryd.func17, Tryd.ntmps17
      go_wp2_with fail
      refine C2.out.mono ?_
      rintro e w1 ⟨u, v, rfl, hu, hv, b1⟩
      obtain ⟨A, n, c, p, rfl⟩ : ∃ A n c p, u = .agg #[.slice A n c, .bool p] := by
        obtain ⟨A, c, rfl, _⟩ := hu
        exact ⟨_, _, _, _, rfl⟩
      obtain ⟨A', n', c', p', rfl⟩ : ∃ A n c p, v = .agg #[.slice A n c, .bool p] := by
        obtain ⟨A, c, rfl, _⟩ := hv
        exact ⟨_, _, _, _, rfl⟩
      clear hu hv
      go_wp2_with fail
      have b2 : Below w.heap.size w ((w1.alloc (.cells #[.slice A n c, .bool p] 37)).alloc (.cells #[.slice A' n' c', .bool p'] 37)) := (b1.alloc b1.size _).alloc (Nat.le_trans b1.size (by simp)) _
      refine (CG.out _ b2).mono ?_
      rintro e w2 ⟨rfl, b3⟩
      have b4 := b2.trans (b3.mono b2.size)
      clear b1 b2 b3
      go_wp2
      go_ret
      exact ⟨rfl, b4⟩
end Go.Proofs.YtichhppfdjkgkaaDoor
