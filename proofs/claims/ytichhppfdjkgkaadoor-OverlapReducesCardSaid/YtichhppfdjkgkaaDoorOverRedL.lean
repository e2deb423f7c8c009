/- OverlapReduces: the law's walk. -/
import Derived.Test.YtichhppfdjkgkaaDoorOverRefR
import Derived.Test.YtichhppfdjkgkaaDoorArgs2
import Derived.BigQuiet
namespace Go.Proofs.YtichhppfdjkgkaaDoor
set_option linter.unusedVariables false
open Go.RowKit Pl Go.Shelf

theorem own_rowo {w : World} {base m : Nat} {e : TypeId} {v : Value} {ss : List ByteArray} (h : w.ownsRow base e 1 v m (ss.map Value.string)) (hm : m = ss.length) : ∃ A cap, v = .slice A m cap ∧ m ≤ cap ∧ RowO w A ss := by
  subst hm
  rcases h.2 with ⟨rfl, h0⟩ | ⟨g, cap, cur, rfl, _, hh, hnc, _⟩
  · exact ⟨none, 0, by rw [h0], by omega, fun hp => absurd hp (by omega)⟩
  · refine ⟨_, cap, rfl, hnc, fun _ => ⟨g, 0, rfl, (h.lt g rfl).2, fun k x hx => ?_⟩⟩
    have hk := (List.getElem?_eq_some_iff.1 hx).1
    rw [Nat.zero_add, h.cellAt k (by omega), List.getElem?_map, hx]; rfl
/-- The first twenty of them. -/
theorem sstr_take {w : World} {a : Addr} {n cap : Nat} {ss : List ByteArray} (h : 0 < ss.length → ∃ b o, some a = some ⟨b, o, none⟩ ∧ b < w.heap.size ∧ ∀ i x, ss[i]? = some x → w.cell? ⟨b, o + i, none⟩ = some (.string x)) : RowO w (some a) (ss.take 20) :=
  rowo_take h

set_option maxHeartbeats 2000000 in
theorem redlaw_core (v : Value) (A : Option Addr) (n cap : Nat) (ss : List ByteArray) (w : World) (hv : v = .slice A n cap) (hn : ss.length = n) (hc : n ≤ cap) (hcm : cap ≤ maxLen) (h : RowO w A ss) (hz : ∀ x ∈ ss, x.size ≤ 140737488351232) (hA : (A = none ∧ cap = 0) ∨ ∃ a, A = some a) (hT : Tabs w) :
    Calls Tryd.prog 8 #[v] w fun e w' => e = .returned (.bool true) ∧ Below w.heap.size w w' := by
  subst hv
  obtain ⟨M, hM⟩ : ∃ M, min n 20 = M := ⟨_, rfl⟩
  have hMI : min (n : Int) 20 = (M : Int) := by omega
  have hMn : M ≤ n := by omega
  have hM20 : M ≤ 20 := by omega
  have hMc : M ≤ cap := by omega
  have hl : (ss.take 20).length = M := by rw [List.length_take, hn]; omega
  have K0 := tb_new hT
  have hr := rowo_take (k := 20) h
  have hz2 : ∀ x ∈ ss.take 20, x.size ≤ 140737488351232 := fun x hx => hz x (List.mem_of_mem_take hx)
  have C1 : ∀ X, Hid (Tb w X) → _ := fun X k => reduce_any A M cap (ss.take 20) X hl (by omega) hMc hcm (hr.below k.out.2) hz2 k.out.1
  have C2 : ∀ X, Hid (Tb w X) → _ := fun X k => refreduce_any A M cap (ss.take 20) X hl (by omega) (hr.below k.out.2) hz2
  obtain ⟨R, hR⟩ : ∃ R, red (ss.take 20) M = R := ⟨_, rfl⟩
  rw [hR] at C1 C2
  have hRm : R.length ≤ 20 := by rw [← hR]; exact Nat.le_trans (red_len _ _) hM20
  obtain ⟨m, hm⟩ : ∃ m, R.length = m := ⟨_, rfl⟩
  rw [hm] at C1 C2 hRm
  have C1 := Lib.hid C1
  have C2 := Lib.hid C2
  have HM := Lib.hid hm
  have CW : ∀ X, Hid (Tb w X) → Calls Tryd.prog 18 #[] X fun e w' => e = .returned (.bool true) ∧ Below X.heap.size X w' := fun X k => owakes_any X k.out.1
  have CW := Lib.hid CW
  unfold maxLen at hcm
  have hMcI : (M : Int) ≤ (cap : Int) := by omega
  clear h hn hz hT hM hr hz2 hR hm hl
  rcases hA with ⟨rfl, rfl⟩ | ⟨a, rfl⟩
  · obtain rfl : n = 0 := by omega
    obtain rfl : M = 0 := by omega
    have h020 : min (0 : Int) 20 = 0 := by decide
    clear hMI
    go_enter Tryd.func8, Tryd.ntmps8
    go_wp2_with fail
    refine (C1.out _ K0).mono ?_
    rintro e w1 ⟨v1, rfl, o1, b1⟩
    obtain ⟨A1, cap1, rfl, hc1, r1⟩ := own_rowo o1 HM.out.symm
    have k1 := tb K0 b1
    clear o1 b1
    go_wp2_with fail
    refine (C2.out _ k1).mono ?_
    rintro e w2 ⟨v2, rfl, o2, b2⟩
    obtain ⟨A2, cap2, rfl, hc2, r2⟩ := own_rowo o2 HM.out.symm
    have k2 := tb k1 b2
    have q1 := r1.below b2
    clear o2 b2 r1
    go_wp2_with fail
    refine (CW.out _ k2).mono ?_
    rintro e w3 ⟨rfl, b3⟩
    have k3 := tb k2 b3
    have Q1 := Lib.hid (q1.below b3)
    have Q2 := Lib.hid (r2.below b3)
    clear q1 r2 b3
    go_wp2
    go_loopw [26] (fun i wr => ∃ k : Nat, i = .int .i64 k ∧ k ≤ m ∧ Hid (Below w3.heap.size w3 wr)) (fun i _ => m - (intOf i).toNat)
    case atStart => exact ⟨0, rfl, by omega, Lib.hid (Below.refl _ _)⟩
    case round =>
      obtain ⟨k, rfl, hk, hb⟩ := hrel
      by_cases hlt : k < m
      · obtain ⟨x, hx⟩ : ∃ x, R[k]? = some x := ⟨_, List.getElem?_eq_getElem (by rw [HM.out]; exact hlt)⟩
        obtain ⟨g1, p1, rfl, hg1, e1⟩ := (Q1.out.below hb.out) (by rw [HM.out]; omega)
        obtain ⟨g2, p2, rfl, hg2, e2⟩ := (Q2.out.below hb.out) (by rw [HM.out]; omega)
        have c1 := e1 k x hx
        have c2 := e2 k x hx
        have f1 : (x.toList == x.toList) = true := by simp
        have f2 : (x.toList != x.toList) = false := by simp
        have hkm : (k : Int) < (m : Int) := by omega
        clear e1 e2 hx
        go_wp2
        go_quiet (fail)
        go_wp2
        go_roundw
        case rel => exact ⟨k + 1, by go_num, by omega, Lib.hid ⟨hb.out.os, hb.out.tape, hb.out.output, hb.out.size, hb.out.block⟩⟩
        case measure => simp [intOf]; omega
      · go_wp2
        go_ret
        exact ⟨rfl, k3.out.2.trans (hb.out.mono k3.out.2.size)⟩
  · go_enter Tryd.func8, Tryd.ntmps8
    go_wp2_with fail
    refine (C1.out _ K0).mono ?_
    rintro e w1 ⟨v1, rfl, o1, b1⟩
    obtain ⟨A1, cap1, rfl, hc1, r1⟩ := own_rowo o1 HM.out.symm
    have k1 := tb K0 b1
    clear o1 b1
    go_wp2_with fail
    refine (C2.out _ k1).mono ?_
    rintro e w2 ⟨v2, rfl, o2, b2⟩
    obtain ⟨A2, cap2, rfl, hc2, r2⟩ := own_rowo o2 HM.out.symm
    have k2 := tb k1 b2
    have q1 := r1.below b2
    clear o2 b2 r1
    go_wp2_with fail
    refine (CW.out _ k2).mono ?_
    rintro e w3 ⟨rfl, b3⟩
    have k3 := tb k2 b3
    have Q1 := Lib.hid (q1.below b3)
    have Q2 := Lib.hid (r2.below b3)
    clear q1 r2 b3
    go_wp2
    go_loopw [26] (fun i wr => ∃ k : Nat, i = .int .i64 k ∧ k ≤ m ∧ Hid (Below w3.heap.size w3 wr)) (fun i _ => m - (intOf i).toNat)
    case atStart => exact ⟨0, rfl, by omega, Lib.hid (Below.refl _ _)⟩
    case round =>
      obtain ⟨k, rfl, hk, hb⟩ := hrel
      by_cases hlt : k < m
      · obtain ⟨x, hx⟩ : ∃ x, R[k]? = some x := ⟨_, List.getElem?_eq_getElem (by rw [HM.out]; exact hlt)⟩
        obtain ⟨g1, p1, rfl, hg1, e1⟩ := (Q1.out.below hb.out) (by rw [HM.out]; omega)
        obtain ⟨g2, p2, rfl, hg2, e2⟩ := (Q2.out.below hb.out) (by rw [HM.out]; omega)
        have c1 := e1 k x hx
        have c2 := e2 k x hx
        have f1 : (x.toList == x.toList) = true := by simp
        have f2 : (x.toList != x.toList) = false := by simp
        have hkm : (k : Int) < (m : Int) := by omega
        clear e1 e2 hx
        go_wp2
        go_quiet (fail)
        go_wp2
        go_roundw
        case rel => exact ⟨k + 1, by go_num, by omega, Lib.hid ⟨hb.out.os, hb.out.tape, hb.out.output, hb.out.size, hb.out.block⟩⟩
        case measure => simp [intOf]; omega
      · go_wp2
        go_ret
        exact ⟨rfl, k3.out.2.trans (hb.out.mono k3.out.2.size)⟩
theorem overlapReduces_walk (v : Value) (ss : List ByteArray) (w : World) (h : SStr w v ss) (hT : Tabs w) :
    Calls Tryd.prog 8 #[v] w fun e w' => e = .returned (.bool true) ∧ Below w.heap.size w w' := by
  obtain ⟨⟨rfl, rfl⟩ | ⟨a, cap, rfl, h1, h2, h3⟩, hz⟩ := h
  · exact redlaw_core _ none 0 0 [] w rfl rfl (Nat.le_refl _) (by decide) (fun hp => absurd hp (by simp)) hz (.inl ⟨rfl, rfl⟩) hT
  · exact redlaw_core _ (some a) ss.length cap ss w rfl rfl h1 h2 h3 hz (.inr ⟨a, rfl⟩) hT
end Go.Proofs.YtichhppfdjkgkaaDoor
