/- TextFaults, TextCuts: the laws' walks. -/
import Derived.Test.YtoojgcblgmipeaaDoorTextRef
namespace Go.Proofs.YtoojgcblgmipeaaDoor
open Go.RowKit Pl Go.Shelf

theorem textFaults_walk (s : ByteArray) (hs : s.size ≤ 140737488351232) (w : World) (hT : Tabs w) :
    Calls Tryd.prog 5 #[.string s] w fun e w' => e = .returned (.bool true) ∧ Below w.heap.size w w' := by
  have hone : flt { data := #[97, 195] } ({ data := #[97, 195] } : ByteArray).size 0 = (1, true) := by decide
  go_enter Tryd.func5, Tryd.ntmps5
  go_wp2_with fail
  refine (fault_any s _ hs hT).mono ?_
  rintro e w1 ⟨rfl, b1⟩
  have hT1 := Lib.hid (hT.below b1)
  go_wp2_with fail
  refine (reffault_any s _ hs).mono ?_
  rintro e w2 ⟨rfl, rfl⟩
  go_wp2_with fail
  refine (fault_any _ _ (by decide) hT1.out).mono ?_
  rintro e w3 ⟨rfl, b3⟩
  rw [hone]
  have hT3 := Lib.hid (hT1.out.below b3)
  go_wp2_with fail
  refine (runes_any s _ hs hT3.out).mono ?_
  rintro e w4 ⟨rfl, b4⟩
  go_wp2_with fail
  refine (refrunes_any s _ hs).mono ?_
  rintro e w5 ⟨rfl, rfl⟩
  go_wp2
  go_ret
  exact ⟨rfl, (b1.trans (b3.mono b1.size)).trans (b4.mono (Nat.le_trans b1.size b3.size))⟩

theorem textCuts_walk (s : ByteArray) (hs : s.size ≤ 140737488351232) (n : Int) (hn : (Lit.int .i64 n).wf = true) (w : World) (hT : Tabs w) :
    Calls Tryd.prog 3 #[.string s, .int .i64 n] w fun e w' => e = .returned (.bool true) ∧ Below w.heap.size w w' := by
  have hb := i64_bd hn
  have hone : cutS { data := #[97, 98] } 1 = { data := #[97] } := by decide
  go_enter Tryd.func3, Tryd.ntmps3
  go_wp2_with fail
  refine (cut_any _ 1 _ (by decide) (by omega) (by omega) hT).mono ?_
  rintro e w1 ⟨rfl, b1⟩
  rw [hone]
  have hT1 := Lib.hid (hT.below b1)
  go_wp2_with fail
  refine (cut_any s n _ hs hb.1 hb.2 hT1.out).mono ?_
  rintro e w2 ⟨rfl, b2⟩
  go_wp2_with fail
  refine (refcut_any s n _ hs).mono ?_
  rintro e w3 ⟨rfl, rfl⟩
  go_wp2
  go_ret
  exact ⟨rfl, b1.trans (b2.mono b1.size)⟩
end Go.Proofs.YtoojgcblgmipeaaDoor
