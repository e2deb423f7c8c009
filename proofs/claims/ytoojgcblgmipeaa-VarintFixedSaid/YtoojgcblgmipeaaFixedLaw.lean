/- VarintFixed: the law's walk. -/
import Derived.Test.YtoojgcblgmipeaaFix
namespace Go.Proofs.Ytoojgcblgmipeaa
open Go.RowKit Pl
theorem varintFixed_walk (d : Int) (_hd : (Lit.int .i64 d).wf = true) (n : Int) (_hn : (Lit.int .i64 n).wf = true) (w : World) :
    Calls Try.prog 3 #[.int .i64 d, .int .i64 n] w fun e w' => e = .returned (.bool true) ∧ Below w.heap.size w w' := by
  have h1 := fixC_bd d n
  have hone : (⟨(fixS 2 258).toArray⟩ : ByteArray) = { data := #[1, 2] } := by decide
  go_enter Try.func3, Try.ntmps3
  go_wp2_with fail
  refine (fixed_all d n _).mono ?_
  rintro e w1 ⟨rfl, b1⟩
  go_wp2_with fail
  refine (reffixed_all d n _).mono ?_
  rintro e w2 ⟨rfl, b2⟩
  go_wp2_with fail
  refine (fixed_all 2 258 _).mono ?_
  rintro e w3 ⟨rfl, b3⟩
  go_wp2
  go_ret
  exact ⟨rfl, (b1.trans (b2.mono b1.size)).trans (b3.mono (Nat.le_trans b1.size b2.size))⟩
end Go.Proofs.Ytoojgcblgmipeaa
