/- TextPuts, TextGets: the laws' walks. -/
import Derived.Test.YtoojgcblgmipeaaDoorTextPut
namespace Go.Proofs.YtoojgcblgmipeaaDoor
open Go.RowKit Pl Go.Shelf

theorem textPuts_walk (s : ByteArray) (hs : s.size ≤ 140737488351232) (w : World) (hT : Tabs w) :
    Calls Tryd.prog 7 #[.string s] w fun e w' => e = .returned (.bool true) ∧ Below w.heap.size w w' := by
  have hone : tputS { data := #[120] } = { data := #[0, 1, 120] } := by decide
  have hc := tputC_bd s
  go_enter Tryd.func7, Tryd.ntmps7
  go_wp2_with fail
  refine (tput_any s _ hs hT).mono ?_
  rintro e w1 ⟨rfl, b1⟩
  have hT1 := Lib.hid (hT.below b1)
  go_wp2_with fail
  refine (reftput_any s _ hs).mono ?_
  rintro e w2 ⟨rfl, b2⟩
  have hT2 := Lib.hid (hT1.out.below b2)
  go_wp2_with fail
  refine (tput_any _ _ (by decide) hT2.out).mono ?_
  rintro e w3 ⟨rfl, b3⟩
  rw [hone]
  go_wp2
  go_ret
  exact ⟨rfl, (b1.trans (b2.mono b1.size)).trans (b3.mono (Nat.le_trans b1.size b2.size))⟩

theorem textGets_walk (s : ByteArray) (hs : s.size ≤ 140737488351232) (n : Int) (hn : (Lit.int .i64 n).wf = true) (w : World) (hT : Tabs w) :
    Calls Tryd.prog 8 #[.string s, .int .i64 n] w fun e w' => e = .returned (.bool true) ∧ Below w.heap.size w w' := by
  have hb := i64_bd hn
  have hc := tget_codes s n
  have hone : tget { data := #[0, 1, 120] } 0 = ({ data := #[120] }, 3, 0) := by decide
  go_enter Tryd.func8, Tryd.ntmps8
  go_wp2_with fail
  refine (tget_any s n _ hs hb.1 hb.2 hT).mono ?_
  rintro e w1 ⟨rfl, b1⟩
  have hT1 := Lib.hid (hT.below b1)
  go_wp2_with fail
  refine (reftget_any s n _ hs hb.1 hb.2).mono ?_
  rintro e w2 ⟨rfl, rfl⟩
  go_wp2_with fail
  refine (tget_any _ 0 _ (by decide) (by omega) (by omega) hT1.out).mono ?_
  rintro e w3 ⟨rfl, b3⟩
  rw [hone]
  go_wp2
  go_ret
  exact ⟨rfl, b1.trans (b3.mono b1.size)⟩
end Go.Proofs.YtoojgcblgmipeaaDoor
