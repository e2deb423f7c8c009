/- VarintSizes: the law's walk. -/
import Derived.Test.YtoojgcblgmipeaaVarSize
namespace Go.Proofs.Ytoojgcblgmipeaa
open Go.RowKit Pl
theorem varintSizes_walk (n : Int) (_hn : (Lit.int .i64 n).wf = true) (w : World) :
    Calls Try.prog 5 #[.int .i64 n] w fun e w' => e = .returned (.bool true) ∧ Below w.heap.size w w' := by
  have h1 : sz 321 = 2 := by decide
  go_enter Try.func5, Try.ntmps5
  go_wp2_with fail
  refine (size_any 321 _).mono ?_
  rintro e w' ⟨rfl, rfl⟩
  go_wp2_with fail
  refine (size_any n _).mono ?_
  rintro e w' ⟨rfl, rfl⟩
  go_wp2_with fail
  refine (refsize_any n _).mono ?_
  rintro e w' ⟨rfl, rfl⟩
  go_wp2
  go_ret
  exact ⟨rfl, Below.refl _ _⟩
end Go.Proofs.Ytoojgcblgmipeaa
