/- VarintReads: the law's walk. -/
import Derived.Test.YtoojgcblgmipeaaGetFix
namespace Go.Proofs.Ytoojgcblgmipeaa
open Go.RowKit Pl
open Go.PlainAid (bt bt_nonneg bt_le get_bt bt_end)
theorem varintReads_walk (s : ByteArray) (hs : s.size ≤ 140737488351232) (n : Int) (hn : (Lit.int .i64 n).wf = true) (d : Int) (_hd : (Lit.int .i64 d).wf = true) (w : World) :
    Calls Try.prog 4 #[.string s, .int .i64 n, .int .i64 d] w fun e w' => e = .returned (.bool true) ∧ Below w.heap.size w w' := by
  have hb := i64_bd hn
  have hc := getF_code s n d
  have hone : getF { data := #[1, 2] } 0 2 = (258, 2, 0) := by decide
  go_enter Try.func4, Try.ntmps4
  go_wp2_with fail
  refine (getfixed_all s n d _ hs hb.1 hb.2).mono ?_
  rintro e w1 ⟨rfl, rfl⟩
  go_wp2_with fail
  refine (refgetfixed_all s n d _ hs hb.1 hb.2).mono ?_
  rintro e w2 ⟨rfl, rfl⟩
  go_wp2_with fail
  refine (getfixed_all _ 0 2 _ (by decide) (by omega) (by omega)).mono ?_
  rintro e w3 ⟨rfl, rfl⟩
  rw [hone]
  go_wp2
  go_ret
  exact ⟨rfl, Below.refl _ _⟩
end Go.Proofs.Ytoojgcblgmipeaa
