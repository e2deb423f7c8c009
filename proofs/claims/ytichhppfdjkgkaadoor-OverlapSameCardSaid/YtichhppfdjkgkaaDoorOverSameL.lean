/- OverlapSame: the law's walk. -/
import Derived.Test.YtichhppfdjkgkaaDoorOverRed2
import Derived.Test.YtichhppfdjkgkaaDoorArgs2
import Derived.BigQuiet
import Derived.Test.YtichhppfdjkgkaaDoorMatch
namespace Go.Proofs.YtichhppfdjkgkaaDoor
set_option linter.unusedVariables false
open Go.RowKit Pl Go.Shelf

theorem red_apart_B {L : List ByteArray} {k a b : Nat} {x y : ByteArray} (hk : k ≤ L.length) (ha : (red L k)[a]? = some x) (hb : (red L k)[b]? = some y) : a = b ∨ cvB x y = false := by
  by_cases hab : a = b
  · exact .inl hab
  · exact .inr (red_apart hk ha hb hab)
theorem any_take_step {L : List ByteArray} {k : Nat} {x : ByteArray} (q : ByteArray → Bool) (hx : L[k]? = some x) : (L.take (k + 1)).any q = ((L.take k).any q || q x) := by
  rw [List.take_add_one, hx, List.any_append]
  simp

set_option maxRecDepth 100000 in
set_option maxHeartbeats 4000000 in
theorem samelaw_core (v : Value) (A : Option Addr) (n cap : Nat) (ss : List ByteArray) (N : ByteArray) (hN : N.size ≤ 140737488351232) (w : World) (hv : v = .slice A n cap) (hn : ss.length = n) (hc : n ≤ cap) (hcm : cap ≤ maxLen) (h : RowO w A ss) (hz : ∀ x ∈ ss, x.size ≤ 140737488351232) (hA : (A = none ∧ cap = 0) ∨ ∃ a, A = some a) (hT : Tabs w) :
    Calls Tryd.prog 10 #[v, .string N] w fun e w' => e = .returned (.bool true) ∧ Below w.heap.size w w' := by
  subst hv
  obtain ⟨M, hM⟩ : ∃ M, min n 20 = M := ⟨_, rfl⟩
  have hMI : min (n : Int) 20 = (M : Int) := by omega
  have hMn : M ≤ n := by omega
  have hM20 : M ≤ 20 := by omega
  have hMc : M ≤ cap := by omega
  have hl : (ss.take 20).length = M := by rw [List.length_take, hn]; omega
  have K0 := tb_new hT
  have hr := rowo_take (k := 20) h
  have hz2 : ∀ x ∈ ss.take 20, x.size ≤ 140737488351232 := fun x hx => hz x (List.mem_of_mem_take hx)
  obtain ⟨L, hL⟩ : ∃ L, ss.take 20 = L := ⟨_, rfl⟩
  rw [hL] at hl hr hz2
  have C1 : ∀ X, Hid (Tb w X) → _ := fun X k => reduce_any A M cap L X hl (by omega) hMc hcm (hr.below k.out.2) hz2 k.out.1
  have HAP : Hid (∀ {a b : Nat} {x y : ByteArray}, (red L M)[a]? = some x → (red L M)[b]? = some y → a = b ∨ cvB x y = false) := Lib.hid (fun ha hb => red_apart_B (by omega) ha hb)
  have HANY : Hid ((red L M).any (fun f => mtB f N) = L.any (fun f => mtB f N)) := Lib.hid (by rw [← hl]; exact red_any L N)
  have HRZ : Hid (∀ x ∈ red L M, x.size ≤ 140737488351232) := Lib.hid (fun x hx => by
    obtain ⟨i, hi, _, rfl⟩ := red_mem.1 hx
    exact hz2 _ (List.mem_of_getElem? (gt_lt (by omega))))
  obtain ⟨R, hR⟩ : ∃ R, red L M = R := ⟨_, rfl⟩
  rw [hR] at C1 HAP HANY HRZ
  have hRm : R.length ≤ 20 := by rw [← hR]; exact Nat.le_trans (red_len _ _) hM20
  obtain ⟨m, hm⟩ : ∃ m, R.length = m := ⟨_, rfl⟩
  rw [hm] at C1 hRm
  have C1 := Lib.hid C1
  have HM := Lib.hid hm
  have HLM := Lib.hid hl
  have HZ := Lib.hid hz2
  have HRW := Lib.hid hr
  have CM : ∀ (f : ByteArray) (X : World), f.size ≤ 140737488351232 → Hid (Tb w X) → Calls Tryd.prog 22 #[.string f, .string N] X fun e w' => e = .returned (.bool (mtB f N)) ∧ Below X.heap.size X w' := fun f X hf k => match_any f N X (by omega) (by omega) k.out.1
  have CC : ∀ (f g : ByteArray) (X : World), f.size ≤ 140737488351232 → g.size ≤ 140737488351232 → Hid (Tb w X) → Calls Tryd.prog 17 #[.string f, .string g] X fun e w' => e = .returned (.bool (cvB f g)) ∧ Below X.heap.size X w' := fun f g X hf hg k => covers_any f g X (by omega) (by omega) k.out.1
  have CW : ∀ X, Hid (Tb w X) → Calls Tryd.prog 18 #[] X fun e w' => e = .returned (.bool true) ∧ Below X.heap.size X w' := fun X k => owakes_any X k.out.1
  have CM := Lib.hid CM
  have CC := Lib.hid CC
  have CW := Lib.hid CW
  unfold maxLen at hcm
  have hMcI : (M : Int) ≤ (cap : Int) := by omega
  clear h hn hz hT hM hr hz2 hR hm hl hL
  have hMI2 : A = none → min (0 : Int) 20 = 0 := fun _ => by decide
  rcases hA with ⟨rfl, rfl⟩ | ⟨a, rfl⟩
  · obtain rfl : n = 0 := by omega
    obtain rfl : M = 0 := by omega
    have h020 : min (0 : Int) 20 = 0 := by decide
    clear hMI hMI2
    go_enter Tryd.func10, Tryd.ntmps10
    go_wp2_with fail
    refine (C1.out _ K0).mono ?_
    rintro e w1 ⟨v1, rfl, o1, b1⟩
    obtain ⟨A1, cap1, rfl, hc1, r1⟩ := own_rowo o1 HM.out.symm
    have k1 := tb K0 b1
    have Q1 := Lib.hid r1
    have Q0 := Lib.hid (HRW.out.below b1)
    clear o1 b1 r1
    go_wp2
    go_loopw [6, 23] (fun c i wr => ∃ k : Nat, i = .int .i64 k ∧ k ≤ 0 ∧ c = .bool ((L.take k).any (fun f => mtB f N)) ∧ Hid (Below w1.heap.size w1 wr)) (fun _ i _ => 0 - (intOf i).toNat)
    case atStart => exact ⟨0, rfl, by omega, rfl, Lib.hid (Below.refl _ _)⟩
    case round =>
      obtain ⟨k, rfl, hk, rfl, hb⟩ := hrel
      have kr := tb k1 hb.out
      by_cases hlt : k < 0
      · omega
      · obtain ⟨hkM⟩ : Nonempty (k = 0) := ⟨by omega⟩
        subst hkM
        rw [show ((0 : Nat) : Int) = 0 from rfl]
        rw [List.take_of_length_le (by rw [HLM.out]; exact Nat.le_refl _)]
        obtain ⟨was, hwas⟩ : ∃ was, L.any (fun f => mtB f N) = was := ⟨_, rfl⟩
        rw [hwas] at HANY ⊢
        have Q2 := Lib.hid (Q1.out.below hb.out)
        clear hwas Q1 Q0 k1
        go_wp2
        go_loopw [7, 36] (fun c iv X => ∃ i : Nat, iv = .int .i64 i ∧ i ≤ m ∧ c = .bool ((R.take i).any (fun f => mtB f N)) ∧ Hid (Below wr.heap.size wr X)) (fun _ i _ => m - (intOf i).toNat)
        case atStart => exact ⟨0, rfl, by omega, rfl, Lib.hid (Below.refl _ _)⟩
        case round =>
          obtain ⟨i, rfl, hi, rfl, hb2⟩ := hrel
          have kX := tb kr hb2.out
          by_cases hil : i < m
          · obtain ⟨x, hx⟩ : ∃ x, R[i]? = some x := ⟨_, List.getElem?_eq_getElem (by rw [HM.out]; exact hil)⟩
            obtain ⟨g1, p1, rfl, hg1, e1⟩ := (Q2.out.below hb2.out) (by rw [HM.out]; omega)
            have c1 := e1 i x hx
            have hxs := HRZ.out x (List.mem_of_getElem? hx)
            have hst := any_take_step (fun f => mtB f N) hx
            obtain ⟨t, ht⟩ : ∃ t, mtB x N = t := ⟨_, rfl⟩
            have CX := CM.out x wr hxs kX
            rw [ht] at CX hst
            have CX := Lib.hid CX
            obtain ⟨c0, hc0⟩ : ∃ c0, (R.take i).any (fun f => mtB f N) = c0 := ⟨_, rfl⟩
            rw [hc0] at hst ⊢
            have HST := Lib.hid hst
            have HX := Lib.hid hx
            have him : (i : Int) < (m : Int) := by omega
            clear e1 hx ht hc0 hst
            go_upto_region 12 with fail
            go_cut [7] (fun c X => c = .bool (c0 || t) ∧ Hid (Below wr.heap.size wr X))
            case first =>
              cases c0
              · go_wp2_with fail
                refine CX.out.mono ?_
                rintro e x1 ⟨rfl, y1⟩
                go_wp2_with fail
                go_meet
                exact ⟨by rw [Bool.false_or], Lib.hid y1⟩
              · go_wp2_with fail
                go_meet
                exact ⟨by rw [Bool.true_or], Lib.hid (Below.refl _ _)⟩
            case rest =>
              obtain ⟨rfl, hb3⟩ := hcut
              have kY := tb kX hb3.out
              have Q3 := Lib.hid ((Q2.out.below hb2.out).below hb3.out)
              have hb4 := Lib.hid (hb2.out.trans (hb3.out.mono hb2.out.size))
              clear CX c1
              go_wp2
              go_loopw [49] (fun kv X => ∃ k : Nat, kv = .int .i64 k ∧ k ≤ m ∧ Hid (Below wc.heap.size wc X)) (fun k _ => m - (intOf k).toNat)
              case atStart => exact ⟨0, rfl, by omega, Lib.hid (Below.refl _ _)⟩
              case round =>
                obtain ⟨k, rfl, hk2, hb5⟩ := hrel
                have kZ := tb kY hb5.out
                by_cases hkl : k < m
                · obtain ⟨y, hy⟩ : ∃ y, R[k]? = some y := ⟨_, List.getElem?_eq_getElem (by rw [HM.out]; exact hkl)⟩
                  obtain ⟨g3, p3, e0, hg3, e3⟩ := (Q3.out.below hb5.out) (by rw [HM.out]; omega)
                  injection e0 with e0
                  injection e0 with e01 e02
                  subst e01 e02
                  have c3 := e3 k y hy
                  have hys := HRZ.out y (List.mem_of_getElem? hy)
                  have hap := HAP.out HX.out hy
                  have CV := CC.out x y wr hxs hys kZ
                  have hkm2 : (k : Int) < (m : Int) := by omega
                  by_cases hik : i = k
                  · have z1 : ((i : Int) != (k : Int)) = false := by rw [hik]; simp
                    clear CV hap hy e3 hik
                    go_wp2
                    go_roundw
                    case rel => exact ⟨k + 1, by go_num, by omega, hb5⟩
                    case measure => simp [intOf]; omega
                  · have z1 : ((i : Int) != (k : Int)) = true := by rw [bne_iff_ne]; omega
                    rw [hap.resolve_left hik] at CV
                    have CV := Lib.hid CV
                    clear hap hy e3 hik
                    go_wp2_with fail
                    refine CV.out.mono ?_
                    rintro e x1 ⟨rfl, y1⟩
                    go_wp2
                    go_roundw
                    case rel => exact ⟨k + 1, by go_num, by omega, Lib.hid (hb5.out.trans (y1.mono hb5.out.size))⟩
                    case measure => simp [intOf]; omega
                · go_wp2
                  go_roundw
                  case rel => exact ⟨i + 1, by go_num, by omega, by rw [HST.out], Lib.hid (hb4.out.trans (hb5.out.mono hb4.out.size))⟩
                  case measure => simp [intOf]; omega
          · have him : i = m := by omega
            subst him
            rw [List.take_of_length_le (by rw [HM.out]; exact Nat.le_refl _), HANY.out]
            go_wp2_with fail
            refine (CW.out _ kX).mono ?_
            rintro e w9 ⟨rfl, b9⟩
            have k9 := tb kX b9
            cases was
            all_goals go_wp2
            all_goals go_ret
            all_goals exact ⟨rfl, k9.out.2⟩
  · clear hMI2
    go_enter Tryd.func10, Tryd.ntmps10
    go_wp2_with fail
    refine (C1.out _ K0).mono ?_
    rintro e w1 ⟨v1, rfl, o1, b1⟩
    obtain ⟨A1, cap1, rfl, hc1, r1⟩ := own_rowo o1 HM.out.symm
    have k1 := tb K0 b1
    have Q1 := Lib.hid r1
    have Q0 := Lib.hid (HRW.out.below b1)
    clear o1 b1 r1
    go_wp2
    go_loopw [6, 23] (fun c i wr => ∃ k : Nat, i = .int .i64 k ∧ k ≤ M ∧ c = .bool ((L.take k).any (fun f => mtB f N)) ∧ Hid (Below w1.heap.size w1 wr)) (fun _ i _ => M - (intOf i).toNat)
    case atStart => exact ⟨0, rfl, by omega, rfl, Lib.hid (Below.refl _ _)⟩
    case round =>
      obtain ⟨k, rfl, hk, rfl, hb⟩ := hrel
      have kr := tb k1 hb.out
      by_cases hlt : k < M
      · obtain ⟨x, hx⟩ : ∃ x, L[k]? = some x := ⟨_, List.getElem?_eq_getElem (by rw [HLM.out]; exact hlt)⟩
        obtain ⟨g1, p1, e0, hg1, e1⟩ := (Q0.out.below hb.out) (by rw [HLM.out]; omega)
        injection e0 with e0
        subst e0
        have c1 := e1 k x hx
        have hxs := HZ.out x (List.mem_of_getElem? hx)
        have hkm : (k : Int) < (M : Int) := by omega
        have hst := any_take_step (fun f => mtB f N) hx
        obtain ⟨t, ht⟩ : ∃ t, mtB x N = t := ⟨_, rfl⟩
        have CX := CM.out x wr hxs kr
        rw [ht] at CX hst
        have CX := Lib.hid CX
        obtain ⟨c0, hc0⟩ : ∃ c0, (L.take k).any (fun f => mtB f N) = c0 := ⟨_, rfl⟩
        rw [hc0] at hst ⊢
        have HST := Lib.hid hst
        clear e1 hx ht hc0 hst
        cases c0
        · go_wp2_with fail
          refine CX.out.mono ?_
          rintro e x1 ⟨rfl, y1⟩
          go_wp2
          go_roundw
          case rel => exact ⟨k + 1, by go_num, by omega, by rw [HST.out, Bool.false_or], Lib.hid (hb.out.trans (y1.mono hb.out.size))⟩
          case measure => simp [intOf]; omega
        · go_wp2
          go_roundw
          case rel => exact ⟨k + 1, by go_num, by omega, by rw [HST.out, Bool.true_or], hb⟩
          case measure => simp [intOf]; omega
      · obtain ⟨hkM⟩ : Nonempty (k = M) := ⟨by omega⟩
        subst hkM
        rw [List.take_of_length_le (by rw [HLM.out]; exact Nat.le_refl _)]
        obtain ⟨was, hwas⟩ : ∃ was, L.any (fun f => mtB f N) = was := ⟨_, rfl⟩
        rw [hwas] at HANY ⊢
        have Q2 := Lib.hid (Q1.out.below hb.out)
        clear hwas Q1 Q0 k1
        go_wp2
        go_loopw [7, 36] (fun c iv X => ∃ i : Nat, iv = .int .i64 i ∧ i ≤ m ∧ c = .bool ((R.take i).any (fun f => mtB f N)) ∧ Hid (Below wr.heap.size wr X)) (fun _ i _ => m - (intOf i).toNat)
        case atStart => exact ⟨0, rfl, by omega, rfl, Lib.hid (Below.refl _ _)⟩
        case round =>
          obtain ⟨i, rfl, hi, rfl, hb2⟩ := hrel
          have kX := tb kr hb2.out
          by_cases hil : i < m
          · obtain ⟨x, hx⟩ : ∃ x, R[i]? = some x := ⟨_, List.getElem?_eq_getElem (by rw [HM.out]; exact hil)⟩
            obtain ⟨g1, p1, rfl, hg1, e1⟩ := (Q2.out.below hb2.out) (by rw [HM.out]; omega)
            have c1 := e1 i x hx
            have hxs := HRZ.out x (List.mem_of_getElem? hx)
            have hst := any_take_step (fun f => mtB f N) hx
            obtain ⟨t, ht⟩ : ∃ t, mtB x N = t := ⟨_, rfl⟩
            have CX := CM.out x wr hxs kX
            rw [ht] at CX hst
            have CX := Lib.hid CX
            obtain ⟨c0, hc0⟩ : ∃ c0, (R.take i).any (fun f => mtB f N) = c0 := ⟨_, rfl⟩
            rw [hc0] at hst ⊢
            have HST := Lib.hid hst
            have HX := Lib.hid hx
            have him : (i : Int) < (m : Int) := by omega
            clear e1 hx ht hc0 hst
            go_upto_region 12 with fail
            go_cut [7] (fun c X => c = .bool (c0 || t) ∧ Hid (Below wr.heap.size wr X))
            case first =>
              cases c0
              · go_wp2_with fail
                refine CX.out.mono ?_
                rintro e x1 ⟨rfl, y1⟩
                go_wp2_with fail
                go_meet
                exact ⟨by rw [Bool.false_or], Lib.hid y1⟩
              · go_wp2_with fail
                go_meet
                exact ⟨by rw [Bool.true_or], Lib.hid (Below.refl _ _)⟩
            case rest =>
              obtain ⟨rfl, hb3⟩ := hcut
              have kY := tb kX hb3.out
              have Q3 := Lib.hid ((Q2.out.below hb2.out).below hb3.out)
              have hb4 := Lib.hid (hb2.out.trans (hb3.out.mono hb2.out.size))
              clear CX c1
              go_wp2
              go_loopw [49] (fun kv X => ∃ k : Nat, kv = .int .i64 k ∧ k ≤ m ∧ Hid (Below wc.heap.size wc X)) (fun k _ => m - (intOf k).toNat)
              case atStart => exact ⟨0, rfl, by omega, Lib.hid (Below.refl _ _)⟩
              case round =>
                obtain ⟨k, rfl, hk2, hb5⟩ := hrel
                have kZ := tb kY hb5.out
                by_cases hkl : k < m
                · obtain ⟨y, hy⟩ : ∃ y, R[k]? = some y := ⟨_, List.getElem?_eq_getElem (by rw [HM.out]; exact hkl)⟩
                  obtain ⟨g3, p3, e0, hg3, e3⟩ := (Q3.out.below hb5.out) (by rw [HM.out]; omega)
                  injection e0 with e0
                  injection e0 with e01 e02
                  subst e01 e02
                  have c3 := e3 k y hy
                  have hys := HRZ.out y (List.mem_of_getElem? hy)
                  have hap := HAP.out HX.out hy
                  have CV := CC.out x y wr hxs hys kZ
                  have hkm2 : (k : Int) < (m : Int) := by omega
                  by_cases hik : i = k
                  · have z1 : ((i : Int) != (k : Int)) = false := by rw [hik]; simp
                    clear CV hap hy e3 hik
                    go_wp2
                    go_roundw
                    case rel => exact ⟨k + 1, by go_num, by omega, hb5⟩
                    case measure => simp [intOf]; omega
                  · have z1 : ((i : Int) != (k : Int)) = true := by rw [bne_iff_ne]; omega
                    rw [hap.resolve_left hik] at CV
                    have CV := Lib.hid CV
                    clear hap hy e3 hik
                    go_wp2_with fail
                    refine CV.out.mono ?_
                    rintro e x1 ⟨rfl, y1⟩
                    go_wp2
                    go_roundw
                    case rel => exact ⟨k + 1, by go_num, by omega, Lib.hid (hb5.out.trans (y1.mono hb5.out.size))⟩
                    case measure => simp [intOf]; omega
                · go_wp2
                  go_roundw
                  case rel => exact ⟨i + 1, by go_num, by omega, by rw [HST.out], Lib.hid (hb4.out.trans (hb5.out.mono hb4.out.size))⟩
                  case measure => simp [intOf]; omega
          · have him : i = m := by omega
            subst him
            rw [List.take_of_length_le (by rw [HM.out]; exact Nat.le_refl _), HANY.out]
            go_wp2_with fail
            refine (CW.out _ kX).mono ?_
            rintro e w9 ⟨rfl, b9⟩
            have k9 := tb kX b9
            cases was
            all_goals go_wp2
            all_goals go_ret
            all_goals exact ⟨rfl, k9.out.2⟩
theorem overlapSame_walk (v : Value) (ss : List ByteArray) (N : ByteArray) (hN : N.size ≤ 140737488351232) (w : World) (h : SStr w v ss) (hT : Tabs w) :
    Calls Tryd.prog 10 #[v, .string N] w fun e w' => e = .returned (.bool true) ∧ Below w.heap.size w w' := by
  obtain ⟨⟨rfl, rfl⟩ | ⟨a, cap, rfl, h1, h2, h3⟩, hz⟩ := h
  · exact samelaw_core _ none 0 0 [] N hN w rfl rfl (Nat.le_refl _) (by decide) (fun hp => absurd hp (by simp)) hz (.inl ⟨rfl, rfl⟩) hT
  · exact samelaw_core _ (some a) ss.length cap ss N hN w rfl rfl h1 h2 h3 hz (.inr ⟨a, rfl⟩) hT
end Go.Proofs.YtichhppfdjkgkaaDoor
