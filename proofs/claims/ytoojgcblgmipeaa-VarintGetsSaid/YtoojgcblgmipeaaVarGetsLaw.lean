/- VarintGets: the law's walk. -/
import Derived.Test.YtoojgcblgmipeaaVarGet
namespace Go.Proofs.Ytoojgcblgmipeaa
open Go.RowKit Pl
open Go.PlainAid (bt bt_nonneg bt_le get_bt bt_end)
theorem varintGets_walk (s : ByteArray) (hs : s.size ≤ 140737488351232) (n : Int) (hn : (Lit.int .i64 n).wf = true) (w : World) :
    Calls Try.prog 8 #[.string s, .int .i64 n] w fun e w' => e = .returned (.bool true) ∧ Below w.heap.size w w' := by
  have hb := i64_bd hn
  have hc := getV_code s n
  have hone : getV { data := #[193, 2] } 0 = (321, 2, 0) := by decide
  go_enter Try.func8, Try.ntmps8
  go_wp2_with fail
  refine (get_all s n _ hs hb.1 hb.2).mono ?_
  rintro e w1 ⟨rfl, rfl⟩
  go_wp2_with fail
  refine (refget_all s n _ hs hb.1 hb.2).mono ?_
  rintro e w2 ⟨rfl, rfl⟩
  go_wp2_with fail
  refine (get_all _ 0 _ (by decide) (by omega) (by omega)).mono ?_
  rintro e w3 ⟨rfl, rfl⟩
  rw [hone]
  go_wp2
  go_ret
  exact ⟨rfl, Below.refl _ _⟩
end Go.Proofs.Ytoojgcblgmipeaa
