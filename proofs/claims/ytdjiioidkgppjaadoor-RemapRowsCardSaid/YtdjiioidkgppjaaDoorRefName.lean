/- The walk of the document's CheckName (layer 7). -/
import Derived.Test.YtdjiioidkgppjaaDoorTopicRef
namespace Go.Proofs.YtdjiioidkgppjaaDoor
set_option linter.unusedVariables false
open Go.RowKit Pl Go.Shelf

theorem refcheckname_any (s : ByteArray) (w : World) (hs : s.size ≤ 281474976710656) :
    Calls Tryd.prog 28 #[.string s] w fun e w' => e = .returned (.int .i64 (nameC s)) ∧ Below w.heap.size w w' := by
  obtain ⟨a, ha⟩ : ∃ a, szd s = a := ⟨_, rfl⟩
  obtain ⟨b, hb⟩ : ∃ b, has 43 s.data.toList = b := ⟨_, rfl⟩
  obtain ⟨c, hc⟩ : ∃ c, has 35 s.data.toList = c := ⟨_, rfl⟩
  have hz : nameC s = if a && (!b && !c) then 0 else 144 := by unfold nameC nameB; rw [ha, hb, hc]
  have Ha := Lib.hid ha
  have Hb := Lib.hid hb
  have Hc := Lib.hid hc
  have Hz := Lib.hid hz
  clear ha hb hc hz
  cases a <;> cases b <;> cases c
  all_goals
    go_enter Tryd.func28, Tryd.ntmps28
    go_wp2_with fail
    refine (refsized_any s _ hs).mono ?_
    rintro e w1 ⟨rfl, b1⟩
    rw [Ha.out]
    go_wp2_with fail
    refine (refhas_any s 43 43 rfl _ hs).mono ?_
    rintro e w2 ⟨rfl, rfl⟩
    rw [Hb.out]
    go_wp2_with fail
    refine (refhas_any s 35 35 rfl _ hs).mono ?_
    rintro e w2 ⟨rfl, rfl⟩
    rw [Hc.out]
    go_wp2
    go_ret
    exact ⟨ret_int (by rw [Hz.out]; rfl), b1⟩
end Go.Proofs.YtdjiioidkgppjaaDoor
