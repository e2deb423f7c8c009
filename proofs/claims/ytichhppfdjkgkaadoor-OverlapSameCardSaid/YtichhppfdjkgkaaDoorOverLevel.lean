/- The document's level: walk. -/
import Derived.Test.YtichhppfdjkgkaaDoorOverLaws
import Derived.Test.YtichhppfdjkgkaaDoorTopicRef2
namespace Go.Proofs.YtichhppfdjkgkaaDoor
set_option linter.unusedVariables false
open Go.RowKit Pl Go.Shelf

theorem dl_at (y : ByteArray) (h : 0 < y.size) : dl y.data.toList = ((y[0].toNat : Int) == 36) := by
  unfold dl
  rw [head_at y h, Bool.eq_iff_iff]
  simp only [beq_iff_eq, Option.some.injEq]
  constructor
  · intro e; rw [e]; rfl
  · intro e
    apply UInt8.toNat_inj.1
    have : (y[0].toNat : Int) = 36 := e
    show y[0].toNat = 36
    omega
theorem dl_nil (y : ByteArray) (h : y.size = 0) : dl y.data.toList = false := by
  have : y.data.toList = [] := List.eq_nil_of_length_eq_zero h
  rw [this]; rfl
theorem level_any (x y : ByteArray) (b : Bool) (w : World) :
    Calls Tryd.prog 48 #[.string x, .string y, .bool b] w fun e w' => e = .returned (.bool (lvl x.data.toList y.data.toList b)) ∧ w' = w := by
  unfold lvl
  have ex : x.toList = x.data.toList := ByteArray.toList_eq _
  have ey : y.toList = y.data.toList := ByteArray.toList_eq _
  by_cases h1 : x.data.toList = y.data.toList
  · rw [if_pos h1]
    have e1 : (x.toList == y.toList) = true := by rw [ex, ey]; exact beq_iff_eq.2 h1
    clear ex ey h1
    go_enter Tryd.func48, Tryd.ntmps48
    go_wp2
    go_ret
    exact ⟨rfl, rfl⟩
  · rw [if_neg h1]
    have e1 : (x.toList == y.toList) = false := by rw [ex, ey]; exact beq_eq_false_iff_ne.2 h1
    by_cases h2 : x.data.toList = [43]
    · rw [if_pos h2]
      have e2 : (x.toList == [43]) = true := by rw [ex]; exact beq_iff_eq.2 h2
      clear ex ey h2
      cases b
      · clear h1
        go_enter Tryd.func48, Tryd.ntmps48
        go_wp2
        go_ret
        exact ⟨rfl, rfl⟩
      · by_cases h0 : y.size = 0
        · have ez : ((y.size : Int) == 0) = true := beq_iff_eq.2 (by omega)
          rw [dl_nil y h0]
          clear h1
          go_enter Tryd.func48, Tryd.ntmps48
          go_wp2
          go_ret
          exact ⟨rfl, rfl⟩
        · have ez : ((y.size : Int) == 0) = false := beq_eq_false_iff_ne.2 (by omega)
          have hp : 0 < y.size := by omega
          rw [dl_at y hp]
          clear h1
          cases hd : ((y[0].toNat : Int) == 36)
          · have hd2 : ((y[0].toNat : Int) != 36) = !((y[0].toNat : Int) == 36) := rfl
            rw [hd] at hd2
            go_enter Tryd.func48, Tryd.ntmps48
            go_wp2
            go_ret
            exact ⟨rfl, rfl⟩
          · have hd2 : ((y[0].toNat : Int) != 36) = !((y[0].toNat : Int) == 36) := rfl
            rw [hd] at hd2
            go_enter Tryd.func48, Tryd.ntmps48
            go_wp2
            go_ret
            exact ⟨rfl, rfl⟩
    · rw [if_neg h2]
      have e2 : (x.toList == [43]) = false := by rw [ex]; exact beq_eq_false_iff_ne.2 h2
      by_cases h3 : y.data.toList = [43]
      · rw [if_pos h3]
        have e3 : (y.toList == [43]) = true := by rw [ey]; exact beq_iff_eq.2 h3
        clear ex ey h2 h3
        cases b
        · clear h1
          go_enter Tryd.func48, Tryd.ntmps48
          go_wp2
          go_ret
          exact ⟨rfl, rfl⟩
        · by_cases h0 : x.size = 0
          · have ez : ((x.size : Int) == 0) = true := beq_iff_eq.2 (by omega)
            rw [dl_nil x h0]
            clear h1
            go_enter Tryd.func48, Tryd.ntmps48
            go_wp2
            go_ret
            exact ⟨rfl, rfl⟩
          · have ez : ((x.size : Int) == 0) = false := beq_eq_false_iff_ne.2 (by omega)
            have hp : 0 < x.size := by omega
            rw [dl_at x hp]
            clear h1
            cases hd : ((x[0].toNat : Int) == 36)
            · have hd2 : ((x[0].toNat : Int) != 36) = !((x[0].toNat : Int) == 36) := rfl
              rw [hd] at hd2
              go_enter Tryd.func48, Tryd.ntmps48
              go_wp2
              go_ret
              exact ⟨rfl, rfl⟩
            · have hd2 : ((x[0].toNat : Int) != 36) = !((x[0].toNat : Int) == 36) := rfl
              rw [hd] at hd2
              go_enter Tryd.func48, Tryd.ntmps48
              go_wp2
              go_ret
              exact ⟨rfl, rfl⟩
      · rw [if_neg h3]
        have e3 : (y.toList == [43]) = false := by rw [ey]; exact beq_eq_false_iff_ne.2 h3
        clear ex ey h1 h2 h3
        go_enter Tryd.func48, Tryd.ntmps48
        go_wp2
        go_ret
        exact ⟨rfl, rfl⟩
end Go.Proofs.YtichhppfdjkgkaaDoor
