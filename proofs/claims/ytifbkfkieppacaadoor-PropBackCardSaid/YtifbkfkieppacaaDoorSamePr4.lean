/- The walk of sameProps: a row of properties against the same. -/
import Derived.Test.YtifbkfkieppacaaDoorPropP
import Derived.Test.YtifbkfkieppacaaDoorProg
import Derived.WalkKit
import Derived.BigQuiet
import Derived.Deep.QuietTactic
namespace Go.Proofs.YtifbkfkieppacaaDoor
set_option linter.unusedVariables false
open Go.RowKit

set_option maxHeartbeats 2000000 in
theorem sameprops_any (A1 A2 : Option Addr) (n c1 c2 : Nat) (L : List Pp) (w : World) (hn : L.length = n) (hm : n ≤ 1048576) (h1 : PRow w A1 L) (h2 : PRow w A2 L) :
    Calls Tryd.prog 13 #[.slice A1 n c1, .slice A2 n c2] w fun e w' => e = .returned (.bool true) ∧ Below w.heap.size w w' := by
  have H1 := Lib.hid h1
  have H2 := Lib.hid h2
  have HN := Lib.hid hn
  clear h1 h2 hn
  go_enter Tryd.func13, Tryd.ntmps13
  go_wp2
  go_loopw [13] (fun i wr => ∃ k : Nat, i = .int .i64 k ∧ k ≤ n ∧ Hid (Below w.heap.size w wr)) (fun i _ => n - (intOf i).toNat)
  case atStart => exact ⟨0, rfl, by omega, Lib.hid (Below.refl _ _)⟩
  case round =>
    obtain ⟨k, rfl, hk, hb⟩ := hrel
    by_cases hlt : k < n
    · obtain ⟨b1, o1, rfl, hl1, hc1⟩ := (H1.out.below hb.out) (by rw [HN.out]; omega)
      obtain ⟨b2, o2, rfl, hl2, hc2⟩ := (H2.out.below hb.out) (by rw [HN.out]; omega)
      obtain ⟨p, hp⟩ : ∃ p, L[k]? = some p := ⟨_, List.getElem?_eq_getElem (by rw [HN.out]; omega)⟩
      obtain ⟨x0, x1, x2, x3⟩ := hc1 k p hp
      obtain ⟨y0, y1, y2, y3⟩ := hc2 k p hp
      have f1 : (p.s.toList == p.s.toList) = true := by simp
      have f2 : (p.t.toList == p.t.toList) = true := by simp
      have hkI : (k : Int) < (n : Int) := by omega
      clear hc1 hc2 hp
      go_wp2
      go_quiet (fail)
      go_wp2
      go_roundw
      case rel => exact ⟨k + 1, by go_num, by omega, Lib.hid ⟨hb.out.os, hb.out.tape, hb.out.output, hb.out.size, hb.out.block⟩⟩
      case measure => simp [intOf]; omega
    · go_wp2
      go_ret
      exact ⟨rfl, hb.out⟩
end Go.Proofs.YtifbkfkieppacaaDoor
