/- The walk of the document's tail: is there a byte of a range at a place? -/
import Derived.Test.YtifbkfkieppacaaDoorChecked
import Derived.Test.YtifbkfkieppacaaDoorTextPlain
import Derived.WalkLawsBesides
import Derived.WalkSpells
import Derived.Handy
namespace Go.Proofs.YtifbkfkieppacaaDoor
open Go.RowKit Pl Go.Shelf
open Go.PlainAid (bt bt_nonneg bt_le get_bt bt_end)

theorem tail_any (s : ByteArray) (a : Nat) (lo hi : Int) (w : World) :
    Calls Tryd.prog 61 #[.string s, .int .i64 a, .int .i64 lo, .int .i64 hi] w fun e w' => e = .returned (.bool (tl s a lo hi)) ∧ w = w' := by
  have hbt := get_bt s
  have hb0 := bt_nonneg s a
  have hb1 := bt_le s a
  by_cases h : a < s.size
  · by_cases h2 : lo ≤ bt s a
    · by_cases h3 : bt s a ≤ hi
      · have ht := Lib.hid (tl_iff.2 ⟨h, h2, h3⟩)
        go_enter Tryd.func61, Tryd.ntmps61
        go_wp2
        go_ret
        exact ⟨ret_bool ht.out.symm, rfl⟩
      · have ht := Lib.hid (tl_not.2 (fun hc : a < s.size ∧ lo ≤ bt s a ∧ bt s a ≤ hi => h3 hc.2.2))
        go_enter Tryd.func61, Tryd.ntmps61
        go_wp2
        go_ret
        exact ⟨ret_bool ht.out.symm, rfl⟩
    · have ht := Lib.hid (tl_not.2 (fun hc : a < s.size ∧ lo ≤ bt s a ∧ bt s a ≤ hi => h2 hc.2.1))
      go_enter Tryd.func61, Tryd.ntmps61
      go_wp2
      go_ret
      exact ⟨ret_bool ht.out.symm, rfl⟩
  · have ht := Lib.hid (tl_not.2 (fun hc : a < s.size ∧ lo ≤ bt s a ∧ bt s a ≤ hi => h hc.1))
    go_enter Tryd.func61, Tryd.ntmps61
    go_wp2
    go_ret
    exact ⟨ret_bool ht.out.symm, rfl⟩
end Go.Proofs.YtifbkfkieppacaaDoor
