/- The walk of overlap's Overlap. -/
import Derived.Test.YtichhppfdjkgkaaDoorOverWit2
namespace Go.Proofs.YtichhppfdjkgkaaDoor
set_option linter.unusedVariables false
open Go.RowKit Pl Go.Shelf

theorem overlap_any (F G : ByteArray) (w : World) (hF : F.size ≤ 281474976710656) (hG : G.size ≤ 281474976710656) (hT : Tabs w) :
    Calls Tryd.prog 11 #[.string F, .string G] w fun e w' => e = .returned (.bool (ovB F G)) ∧ Below w.heap.size w w' := by
  have C := Lib.hid (witness_any F G w hF hG hT)
  clear hT
  go_enter Tryd.func11, Tryd.ntmps11
  go_wp2_with fail
  refine C.out.mono ?_
  rintro e w1 ⟨rfl, b1⟩
  go_wp2
  all_goals go_ret
  all_goals exact ⟨rfl, b1⟩
end Go.Proofs.YtichhppfdjkgkaaDoor
