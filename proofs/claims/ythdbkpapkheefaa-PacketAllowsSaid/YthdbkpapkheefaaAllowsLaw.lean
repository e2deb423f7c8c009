/- PacketAllows: the law's walk. -/
import Derived.Test.YthdbkpapkheefaaAllow
namespace Go.Proofs.Ythdbkpapkheefaa
open Go.RowKit Pl
theorem packetAllows_walk (k : Int) (_hk : (Lit.int .i64 k).wf = true) (n : Int) (_hn : (Lit.int .i64 n).wf = true) (w : World) :
    Calls Try.prog 5 #[.int .i64 k, .int .i64 n] w fun e w' => e = .returned (.bool true) ∧ Below w.heap.size w w' := by
  have hone : alw 10 38 = true := by decide
  go_enter Try.func5, Try.ntmps5
  go_wp2_with fail
  go_loopw [6] (fun i wr => ∃ j : Nat, i = .int .i64 j ∧ j ≤ 64 ∧ Below w.heap.size w wr) (fun i _ => 64 - (intOf i).toNat)
  case atStart => exact ⟨0, rfl, by omega, Below.refl _ _⟩
  case round =>
    obtain ⟨j, rfl, hj, hbel⟩ := hrel
    by_cases hlt : j < 64
    · go_wp2_with fail
      refine (allowed_any _ _ _).mono ?_
      rintro e w1 ⟨rfl, b1⟩
      go_wp2_with fail
      refine (refallowed_any _ _ _).mono ?_
      rintro e w2 ⟨rfl, b2⟩
      go_wp2
      go_roundw
      case rel => exact ⟨j + 1, by go_num, by omega, (hbel.trans (b1.mono hbel.size)).trans (b2.mono (Nat.le_trans hbel.size b1.size))⟩
      case measure => simp [intOf]; omega
    · go_wp2_with fail
      refine (allowed_any _ _ _).mono ?_
      rintro e w1 ⟨rfl, b1⟩
      rw [hone]
      go_wp2_with fail
      refine (allowed_any _ _ _).mono ?_
      rintro e w2 ⟨rfl, b2⟩
      go_wp2_with fail
      refine (refallowed_any _ _ _).mono ?_
      rintro e w3 ⟨rfl, b3⟩
      go_wp2
      go_ret
      exact ⟨rfl, ((hbel.trans (b1.mono hbel.size)).trans (b2.mono (Nat.le_trans hbel.size b1.size))).trans (b3.mono (Nat.le_trans (Nat.le_trans hbel.size b1.size) b2.size))⟩
end Go.Proofs.Ythdbkpapkheefaa
