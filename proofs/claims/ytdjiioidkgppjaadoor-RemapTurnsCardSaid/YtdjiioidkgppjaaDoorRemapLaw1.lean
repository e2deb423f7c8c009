/- RemapChecks: the law's walk. -/
import Derived.Test.YtdjiioidkgppjaaDoorRemap3
import Derived.Test.YtdjiioidkgppjaaDoorRuleArg
import Derived.Deep.RegionWith
import Derived.Deep.DrawnRows
import Derived.IntWalk
namespace Go.Proofs.YtdjiioidkgppjaaDoor
set_option linter.unusedVariables false
open Go.RowKit Pl Go.Shelf
attribute [local go_sem ↓] Go.wp_at_zero Go.wp_at_succ

theorem Tabs.drew {w : World} (h : Tabs w) : Tabs w.drew := h.below ⟨rfl, rfl, rfl, Nat.le_refl _, fun _ _ => rfl⟩
theorem RuAt.drew {W : World} {g : Nat} {r : Rl} (h : RuAt W g r) : RuAt W.drew g r := h
theorem RuAt.new2 (w : World) (r : Rl) (T U : TypeId) : RuAt ((w.alloc (.cells (ruC r) T)).alloc (.cells (ruC r) U)) w.heap.size r ∧ RuAt ((w.alloc (.cells (ruC r) T)).alloc (.cells (ruC r) U)) (w.heap.size + 1) r := by
  have h1 := (RuAt.new w r T).below (W' := (w.alloc (.cells (ruC r) T)).alloc (.cells (ruC r) U)) ((Below.refl _ _).alloc (Nat.le_refl _) _)
  have h2 := RuAt.new (w.alloc (.cells (ruC r) T)) r U
  have e : (w.alloc (.cells (ruC r) T)).heap.size = w.heap.size + 1 := by simp
  rw [e] at h2
  exact ⟨h1, h2⟩

set_option maxHeartbeats 1000000 in
theorem remapChecks_core (r : Rl) (hr : r.fits) (w : World) (hT : Tabs w) :
    Calls Tryd.prog 3 #[ruV r] w fun e w' => e = .returned (.bool true) ∧ Below w.heap.size w w' := by
  have HF := Lib.hid hr
  have hck := ckR_bd r
  obtain ⟨c, hc⟩ : ∃ c, ckR r = c := ⟨_, rfl⟩
  rw [hc] at hck
  have hck0 := hck.1
  have hck1 := hck.2
  have hwr : IntKind.i64.wrap c = c := IntWalk.i64_in _ (by omega)
  have hcc : (c == c) = true := by simp
  have Hc := Lib.hid hc
  have b0 : Below w.heap.size w (w.alloc (.cells (ruC r) 23)) := (Below.refl _ _).alloc (Nat.le_refl _) _
  have HT := Lib.hid (hT.below b0)
  obtain ⟨W0, hW0⟩ : ∃ W0, w.alloc (.cells (ruC r) 23) = W0 := ⟨_, rfl⟩
  have HW := Lib.hid hW0
  rw [hW0] at b0 HT
  clear hT hW0 hr hc hck
  unfold ruV
  unfold ruC at HW
  go_enter Tryd.func3, Tryd.ntmps3
  go_wp2_with fail
  rw [HW.out]
  refine (rule_any r _ HF.out).mono ?_
  rintro e w1 ⟨rfl, b1⟩
  have c1 := b0.trans (b1.mono b0.size)
  have HT1 := Lib.hid (HT.out.below b1)
  obtain ⟨W2, hW2⟩ : ∃ W2, (w1.alloc (.cells (ruC r) 26)).alloc (.cells (ruC r) 27) = W2 := ⟨_, rfl⟩
  have HW2 := Lib.hid hW2
  have hn := RuAt.new2 w1 r 26 27
  have e2 : Below w1.heap.size w1 W2 := by rw [← hW2]; exact ((Below.refl _ _).alloc (Nat.le_refl _) _).alloc (by simp) _
  rw [hW2] at hn
  have HA := Lib.hid hn.1
  have HB := Lib.hid hn.2
  have HT2 := Lib.hid (HT1.out.below e2)
  have c2 := c1.trans (e2.mono c1.size)
  clear hW2 hn
  unfold ruC at HW2
  unfold ruV
  go_wp2
  rw [HW2.out]
  go_region_with (first | (go_at_call 10; refine (rwakes_any _ HT2.out.drew).mono ?_; rintro e w3 ⟨rfl, b3⟩; have HT3 := Lib.hid (HT2.out.drew.below b3); have HA3 := Lib.hid (HA.out.drew.below b3); have HB3 := Lib.hid (HB.out.drew.below b3); obtain ⟨g3, q0, q1, q2, q3, q4⟩ := HA3.out; obtain ⟨g4, r0, r1, r2, r3, r4⟩ := HB3.out) | (go_at_call 11; refine (rcheck_any r _ HF.out HT3.out).mono ?_; rintro e w4 ⟨rfl, b4⟩; rw [Hc.out]; have HB4 := Lib.hid (HB3.out.below b4); obtain ⟨g5, s0, s1, s2, s3, s4⟩ := HB4.out) | (go_at_call 12; refine (refrcheck_any r _ HF.out).mono ?_; rintro e w5 ⟨rfl, b5⟩; rw [Hc.out]))
  all_goals
    go_wp2
    go_ret
    have c3 := c2.drew.trans (b3.mono c2.drew.size)
    have c4 := c3.trans (b4.mono c3.size)
    exact ⟨rfl, c4.trans (b5.mono c4.size)⟩

theorem remapChecks_walk (v : Value) (r : Rl) (w : World) (h : v = ruV r ∧ r.fits) (hT : Tabs w) :
    Calls Tryd.prog 3 #[v] w fun e w' => e = .returned (.bool true) ∧ Below w.heap.size w w' := by
  rw [h.1]
  exact remapChecks_core r h.2 w hT
end Go.Proofs.YtdjiioidkgppjaaDoor
