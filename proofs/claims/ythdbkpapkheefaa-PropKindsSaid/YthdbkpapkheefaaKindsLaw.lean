/- PropKinds: the law's walk. -/
import Derived.Test.YthdbkpapkheefaaKind
namespace Go.Proofs.Ythdbkpapkheefaa
open Go.RowKit Pl
theorem propKinds_walk (n : Int) (_hn : (Lit.int .i64 n).wf = true) (w : World) :
    Calls Try.prog 3 #[.int .i64 n] w fun e w' => e = .returned (.bool true) ∧ Below w.heap.size w w' := by
  have hone : kindOf 38 = 7 := by decide
  go_enter Try.func3, Try.ntmps3
  go_wp2_with fail
  refine (kind_any 38 _).mono ?_
  rintro e w1 ⟨rfl, rfl⟩
  rw [hone]
  clear hone
  go_wp2_with fail
  refine (kind_any _ _).mono ?_
  rintro e w1 ⟨rfl, rfl⟩
  go_wp2_with fail
  refine (refkind_any _ _).mono ?_
  rintro e w1 ⟨rfl, b1⟩
  go_wp2_with fail
  refine (kind_any _ _).mono ?_
  rintro e w2 ⟨rfl, rfl⟩
  go_wp2_with fail
  refine (refkind_any _ _).mono ?_
  rintro e w2 ⟨rfl, b2⟩
  go_wp2
  go_ret
  exact ⟨rfl, b1.trans (b2.mono b1.size)⟩
end Go.Proofs.Ythdbkpapkheefaa
