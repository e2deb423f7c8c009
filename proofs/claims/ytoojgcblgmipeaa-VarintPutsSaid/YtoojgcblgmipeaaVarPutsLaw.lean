/- VarintPuts: the law's walk. -/
import Derived.Test.YtoojgcblgmipeaaVarPut
namespace Go.Proofs.Ytoojgcblgmipeaa
open Go.RowKit Pl
theorem varintPuts_walk (n : Int) (_hn : (Lit.int .i64 n).wf = true) (w : World) :
    Calls Try.prog 6 #[.int .i64 n] w fun e w' => e = .returned (.bool true) ∧ Below w.heap.size w w' := by
  have h1 := putC_bd n
  have hone : (⟨(enc 321).toArray⟩ : ByteArray) = { data := #[193, 2] } := by decide
  go_enter Try.func6, Try.ntmps6
  go_wp2_with fail
  refine (put_all n _).mono ?_
  rintro e w1 ⟨rfl, b1⟩
  go_wp2_with fail
  refine (refput_all n _).mono ?_
  rintro e w2 ⟨rfl, b2⟩
  go_wp2_with fail
  refine (put_all 321 _).mono ?_
  rintro e w3 ⟨rfl, b3⟩
  go_wp2
  go_ret
  exact ⟨rfl, (b1.trans (b2.mono b1.size)).trans (b3.mono (Nat.le_trans b1.size b2.size))⟩
end Go.Proofs.Ytoojgcblgmipeaa
