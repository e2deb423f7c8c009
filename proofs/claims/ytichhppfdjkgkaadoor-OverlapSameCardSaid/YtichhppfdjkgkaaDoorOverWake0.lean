/- Overlap: what the document fixes (walk). -/
import Derived.Test.YtichhppfdjkgkaaDoorOverCov
import Derived.Test.YtichhppfdjkgkaaDoorOverOv
namespace Go.Proofs.YtichhppfdjkgkaaDoor
set_option linter.unusedVariables false
open Go.RowKit Pl Go.Shelf

/-- The tables lie as at the start. -/
def Tb (w X : World) : Prop := Tabs X ∧ Below w.heap.size w X
theorem tb {w X Y : World} (h : Hid (Tb w X)) (hb : Below X.heap.size X Y) : Hid (Tb w Y) := Lib.hid ⟨h.out.1.below hb, h.out.2.trans (hb.mono h.out.2.size)⟩
theorem tb_new {w : World} (h : Tabs w) : Hid (Tb w w) := Lib.hid ⟨h, Below.refl _ _⟩
theorem owakes_any (w : World) (hT : Tabs w) :
    Calls Tryd.prog 18 #[] w fun e w' => e = .returned (.bool true) ∧ Below w.heap.size w w' := by
  have K0 := tb_new hT
  have C1 : ∀ X, Hid (Tb w X) → Calls Tryd.prog 11 #[.string ⟨#[97, 47, 43]⟩, .string ⟨#[43, 47, 98]⟩] X fun e w' => e = .returned (.bool true) ∧ Below X.heap.size X w' := fun X h => by have h2 := overlap_any ⟨#[97, 47, 43]⟩ ⟨#[43, 47, 98]⟩ X (by decide) (by decide) h.out.1; rw [show ovB ⟨#[97, 47, 43]⟩ ⟨#[43, 47, 98]⟩ = true from by decide +kernel] at h2; exact h2
  have C1 := Lib.hid C1
  have C2 : ∀ X, Hid (Tb w X) → Calls Tryd.prog 17 #[.string ⟨#[43, 47, 35]⟩, .string ⟨#[35]⟩] X fun e w' => e = .returned (.bool true) ∧ Below X.heap.size X w' := fun X h => by have h2 := covers_any ⟨#[43, 47, 35]⟩ ⟨#[35]⟩ X (by decide) (by decide) h.out.1; rw [show cvB ⟨#[43, 47, 35]⟩ ⟨#[35]⟩ = true from by decide +kernel] at h2; exact h2
  have C2 := Lib.hid C2
  have C3 : ∀ X, Hid (Tb w X) → Calls Tryd.prog 17 #[.string ⟨#[97, 47, 43, 47, 35]⟩, .string ⟨#[97, 47, 35]⟩] X fun e w' => e = .returned (.bool false) ∧ Below X.heap.size X w' := fun X h => by have h2 := covers_any ⟨#[97, 47, 43, 47, 35]⟩ ⟨#[97, 47, 35]⟩ X (by decide) (by decide) h.out.1; rw [show cvB ⟨#[97, 47, 43, 47, 35]⟩ ⟨#[97, 47, 35]⟩ = false from by decide +kernel] at h2; exact h2
  have C3 := Lib.hid C3
  have C4 : ∀ X, Hid (Tb w X) → Calls Tryd.prog 17 #[.string ⟨#[35]⟩, .string ⟨#[36, 120]⟩] X fun e w' => e = .returned (.bool false) ∧ Below X.heap.size X w' := fun X h => by have h2 := covers_any ⟨#[35]⟩ ⟨#[36, 120]⟩ X (by decide) (by decide) h.out.1; rw [show cvB ⟨#[35]⟩ ⟨#[36, 120]⟩ = false from by decide +kernel] at h2; exact h2
  have C4 := Lib.hid C4
  clear hT
  go_enter Tryd.func18, Tryd.ntmps18
  go_wp2_with (first | (go_at_call 11; (with_reducible refine (C1.out _ (by with_reducible assumption)).mono ?_); rintro e x ⟨rfl, y⟩; have k1 := tb (by with_reducible assumption) y; clear y) | (go_at_call 17; (with_reducible refine (C2.out _ (by with_reducible assumption)).mono ?_); rintro e x ⟨rfl, y⟩; have k2 := tb (by with_reducible assumption) y; clear y) | (go_at_call 17; (with_reducible refine (C3.out _ (by with_reducible assumption)).mono ?_); rintro e x ⟨rfl, y⟩; have k3 := tb (by with_reducible assumption) y; clear y) | (go_at_call 17; (with_reducible refine (C4.out _ (by with_reducible assumption)).mono ?_); rintro e x ⟨rfl, y⟩; have k4 := tb (by with_reducible assumption) y; clear y))
  all_goals go_ret
  all_goals exact ⟨rfl, by first | (exact Below.refl _ _) | (exact kw.out.2) | (exact k9.out.2) | (exact k8.out.2) | (exact k7.out.2) | (exact k6.out.2) | (exact k5.out.2) | (exact k4.out.2) | (exact k3.out.2) | (exact k2.out.2) | (exact k1.out.2)⟩
end Go.Proofs.YtichhppfdjkgkaaDoor
