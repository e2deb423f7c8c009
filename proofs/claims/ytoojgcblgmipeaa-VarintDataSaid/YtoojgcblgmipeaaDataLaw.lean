/- VarintData: the law's walk. -/
import Derived.Test.YtoojgcblgmipeaaData
namespace Go.Proofs.Ytoojgcblgmipeaa
open Go.RowKit Pl
theorem varintData_walk (s : ByteArray) (hs : s.size ≤ 140737488351232) (t : ByteArray) (ht : t.size ≤ 140737488351232) (n : Int) (hn : (Lit.int .i64 n).wf = true) (w : World) :
    Calls Try.prog 9 #[.string s, .string t, .int .i64 n] w fun e w' => e = .returned (.bool true) ∧ Below w.heap.size w w' := by
  have hb := i64_bd hn
  have hc := getD_codes t n
  have hd := dataC_bd s
  have hone : dataS { data := #[120] } = { data := #[0, 1, 120] } := by decide
  go_enter Try.func9, Try.ntmps9
  go_wp2_with fail
  refine (data_all s _ hs).mono ?_
  rintro e w1 ⟨rfl, b1⟩
  go_wp2_with fail
  refine (refdata_all s _ hs).mono ?_
  rintro e w2 ⟨rfl, b2⟩
  go_wp2_with fail
  refine (getdata_all t n _ ht hb.1 hb.2).mono ?_
  rintro e w3 ⟨rfl, rfl⟩
  go_wp2_with fail
  refine (refgetdata_all t n _ ht hb.1 hb.2).mono ?_
  rintro e w4 ⟨rfl, rfl⟩
  go_wp2_with fail
  refine (data_all _ _ (by decide)).mono ?_
  rintro e w5 ⟨rfl, b5⟩
  go_wp2
  go_ret
  exact ⟨rfl, (b1.trans (b2.mono b1.size)).trans (b5.mono (Nat.le_trans b1.size b2.size))⟩
end Go.Proofs.Ytoojgcblgmipeaa
