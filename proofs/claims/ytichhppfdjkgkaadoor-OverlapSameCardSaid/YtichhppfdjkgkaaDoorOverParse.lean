/- The walk of overlap's parse. -/
import Derived.Test.YtichhppfdjkgkaaDoorOverShape2
import Derived.Test.YtichhppfdjkgkaaDoorCheckFilter
namespace Go.Proofs.YtichhppfdjkgkaaDoor
set_option linter.unusedVariables false
open Go.RowKit Pl Go.Shelf

set_option maxHeartbeats 1000000 in
theorem parse_bad (F : ByteArray) (w : World) (hs : F.size ≤ 281474976710656) (hT : Tabs w) (h : filtB F = false) :
    Calls Tryd.prog 42 #[.string F] w fun e w' => ∃ v, e = .returned (.tuple #[v, .bool (filtB F)]) ∧ ShA w' v (shp F) ∧ Below w.heap.size w w' := by
  have H1 := Lib.hid (filtC_bad h)
  have hsh : shp F = ⟨[], false⟩ := by unfold shp; rw [if_neg (by rw [h]; simp)]
  rw [hsh, h]
  have b0 : Below w.heap.size w (w.alloc (.cells #[.slice none 0 0, .bool false] 37)) := (Below.refl _ _).alloc (Nat.le_refl _) _
  have HT := Lib.hid (hT.below b0)
  clear hT h hsh
  go_enter Tryd.func42, Tryd.ntmps42
  go_wp2_with fail
  refine (checkfilter_any F _ hs HT.out).mono ?_
  rintro e w1 ⟨rfl, b1⟩
  rw [H1.out]
  have z1 := b1.size
  simp at z1
  obtain ⟨k1, k2⟩ := (⟨fun b o h => b1.cell (p := ⟨b, o, none⟩) h, fun b o h => b1.frozen (p := ⟨b, o, none⟩) h⟩ : (∀ b o, b < _ → w1.cell? ⟨b, o, none⟩ = _) ∧ (∀ b o, b < _ → w1.frozen? ⟨b, o, none⟩ = _))
  go_wp2
  refine bodyPost_ret (v := .tuple #[.agg #[.slice none 0 0, .bool false], .bool false]) (by simp [results, Tryd.results42, go_sem, k1]) rfl ⟨_, rfl, ⟨none, 0, rfl, by simp, by decide, fun h => absurd h (by simp)⟩, ?_⟩
  exact ((b0.trans (b1.mono b0.size)).setCell (Nat.le_refl _) _).setCell (Nat.le_refl _) _
end Go.Proofs.YtichhppfdjkgkaaDoor
