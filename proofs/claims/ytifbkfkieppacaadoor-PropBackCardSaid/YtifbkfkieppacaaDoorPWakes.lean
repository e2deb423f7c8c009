/- What the document fixes of properties: the walk of wakes. -/
import Derived.Test.YtifbkfkieppacaaDoorPutW
namespace Go.Proofs.YtifbkfkieppacaaDoor
set_option linter.unusedVariables false
open Go.RowKit Pl Go.Shelf

def p33 : Pp := ⟨33, 20, ⟨#[]⟩, ⟨#[]⟩⟩
theorem ppC33 : ppC [p33] = 0 := by decide +kernel
theorem ppS33 : ppS [p33] = ⟨#[3, 33, 0, 20]⟩ := by decide +kernel
theorem fits33 : ∀ p ∈ [p33], p.fits := fun p hp => by
  obtain rfl : p = p33 := by simpa using hp
  exact ⟨by decide, by decide, by decide, by decide, by decide, by decide⟩
theorem one_row' (w : World) (e : TypeId) (p : Pp) : PRow (w.alloc (.cells (ppA p) e)) (some ⟨w.heap.size, 0, none⟩) [p] := fun _ => by
  refine ⟨_, _, rfl, by simp, fun i q hq => ?_⟩
  match i, hq with
  | 0, hq =>
    obtain rfl : p = q := by simpa using hq
    exact ⟨World.cell?_alloc_at _ _ _ _ rfl, World.cell?_alloc_at _ _ _ _ rfl, World.cell?_alloc_at _ _ _ _ rfl, World.cell?_alloc_at _ _ _ _ rfl⟩
  | i + 1, hq => simp at hq
theorem pwakes_any (w : World) (hT : Tabs w) :
    Calls Tryd.prog 10 #[] w fun e w' => e = .returned (.bool true) ∧ Below w.heap.size w w' := by
  have b0 : Below w.heap.size w (w.alloc (.cells (ppA p33) 39)) := (Below.refl _ _).alloc (Nat.le_refl _) _
  have CP := pput_any (some ⟨w.heap.size, 0, none⟩) 1 1 [p33] (w.alloc (.cells (ppA p33) 39)) rfl (by decide) (by decide) (one_row' w _ p33) fits33 (hT.below b0)
  rw [ppC33, ppS33] at CP
  have CP := Lib.hid CP
  have B0 := Lib.hid b0
  clear hT b0
  go_enter Tryd.func10, Tryd.ntmps10
  go_wp2_with fail
  refine CP.out.mono ?_
  rintro e w1 ⟨rfl, b1⟩
  go_wp2
  go_ret
  exact ⟨rfl, B0.out.trans (b1.mono B0.out.size)⟩
end Go.Proofs.YtifbkfkieppacaaDoor
