/- RemapRoutes: the law's walk. -/
import Derived.Test.YtdjiioidkgppjaaDoorCompose
import Derived.Test.YtdjiioidkgppjaaDoorRulesArg
import Derived.BigQuiet
import Derived.Deep.QuietTactic
namespace Go.Proofs.YtdjiioidkgppjaaDoor
set_option linter.unusedVariables false
open Go.RowKit Pl Go.Shelf

theorem cmpV_form (o : Option (ByteArray × Int)) : ∃ s p ok, cmpV o = .tuple #[.string s, .int .i64 p, .bool ok] := by
  cases o with
  | none => exact ⟨_, _, _, rfl⟩
  | some x => exact ⟨_, _, _, rfl⟩
set_option maxRecDepth 100000 in
set_option maxHeartbeats 4000000 in
theorem routes_core (A : Option Addr) (n cap : Nat) (L : List Rl) (N : ByteArray) (hN : N.size ≤ 140737488351232) (q : Int) (w : World) (hn : L.length = n) (hc : n ≤ cap) (hcm : cap ≤ maxLen) (h : RRow w A L) (hz : ∀ r ∈ L, r.fits) (hA : (A = none ∧ cap = 0) ∨ ∃ a, A = some a) (hT : Tabs w) :
    Calls Tryd.prog 8 #[.slice A n cap, .string N, .int .i64 q] w fun e w' => e = .returned (.bool true) ∧ Below w.heap.size w w' := by
  obtain ⟨M, hM⟩ : ∃ M, min n 20 = M := ⟨_, rfl⟩
  have hM20 : M ≤ 20 := by omega
  have CP := Lib.hid (rules_any A n cap M L w hn hc hcm h hz hM hA)
  have hl : (L.take M).length = M := by rw [List.length_take]; omega
  have hz2 : ∀ r ∈ L.take M, r.fits := fun r hr => hz r (List.mem_of_mem_take hr)
  obtain ⟨T, hTT⟩ : ∃ T, L.take M = T := ⟨_, rfl⟩
  rw [hTT] at CP hl hz2
  have HL := Lib.hid hl
  have HT := Lib.hid hT
  have hml := rte_len T N q M
  obtain ⟨R, hR⟩ : ∃ R, rteK T N q M = R := ⟨_, rfl⟩
  rw [hR] at hml
  obtain ⟨m, hm⟩ : ∃ m, R.length = m := ⟨_, rfl⟩
  rw [hm] at hml
  obtain ⟨s, p, ok, hv⟩ := cmpV_form (cmpK T N q M)
  have CR : ∀ (A1 : Option Addr) (c1 : Nat) (X : World), RRow X A1 T → Tabs X → Calls Tryd.prog 14 #[.slice A1 M c1, .string N, .int .i64 q] X fun e w' => ∃ v, e = .returned v ∧ w'.ownsRow X.heap.size 45 3 v m (flat3 R) ∧ Below X.heap.size X w' := fun A1 c1 X hp ht => by rw [← hm, ← hR]; exact route_any A1 M c1 T N q X hl (by omega) hp hz2 hN ht
  have CS : ∀ (A1 : Option Addr) (c1 : Nat) (X : World), RRow X A1 T → Calls Tryd.prog 23 #[.slice A1 M c1, .string N, .int .i64 q] X fun e w' => ∃ v, e = .returned v ∧ w'.ownsRow X.heap.size 59 3 v m (flat3 R) ∧ Below X.heap.size X w' := fun A1 c1 X hp => by rw [← hm, ← hR]; exact refroute_any A1 M c1 T N q X hl (by omega) hp hz2 hN
  have CC : ∀ (A1 : Option Addr) (c1 : Nat) (X : World), RRow X A1 T → Tabs X → Calls Tryd.prog 16 #[.slice A1 M c1, .string N, .int .i64 q] X fun e w' => e = .returned (.tuple #[.string s, .int .i64 p, .bool ok]) ∧ Below X.heap.size X w' := fun A1 c1 X hp ht => by rw [← hv]; exact compose_any A1 M c1 T N q X hl (by omega) hp hz2 hN ht
  have CD : ∀ (A1 : Option Addr) (c1 : Nat) (X : World), RRow X A1 T → Calls Tryd.prog 24 #[.slice A1 M c1, .string N, .int .i64 q] X fun e w' => e = .returned (.tuple #[.string s, .int .i64 p, .bool ok]) ∧ Below X.heap.size X w' := fun A1 c1 X hp => by rw [← hv]; exact refcompose_any A1 M c1 T N q X hl (by omega) hp hz2 hN
  have CR := Lib.hid CR
  have CS := Lib.hid CS
  have CC := Lib.hid CC
  have CD := Lib.hid CD
  have HM := Lib.hid hm
  clear hn hc hcm h hz hA hM hl hTT hR hm hz2 hT hv
  go_enter Tryd.func8, Tryd.ntmps8
  go_wp2_with fail
  refine CP.out.mono ?_
  rintro e w1 ⟨v1, v2, rfl, own1, own2, b1⟩
  obtain ⟨A1, c1, rfl, _, r1⟩ := own_rrow own1 HL.out.symm
  obtain ⟨A2, c2, rfl, _, r2⟩ := own_rrow own2 HL.out.symm
  have B1 := Lib.hid b1
  have R1 := Lib.hid r1
  have R2 := Lib.hid r2
  clear own1 own2 b1 r1 r2
  go_wp2_with fail
  refine (CR.out _ _ _ R1.out (HT.out.below B1.out)).mono ?_
  rintro e w2 ⟨v3, rfl, o3, b2⟩
  obtain ⟨A3, c3, rfl, _, q3⟩ := own_hrow o3 HM.out.symm
  have R1 := Lib.hid (R1.out.below b2)
  have R2 := Lib.hid (R2.out.below b2)
  have Q3 := Lib.hid q3
  have B2 := Lib.hid (B1.out.trans (b2.mono B1.out.size))
  clear o3 b2 q3
  go_wp2_with fail
  refine (CS.out _ _ _ R2.out).mono ?_
  rintro e w3 ⟨v4, rfl, o4, b3⟩
  obtain ⟨A4, c4, rfl, _, q4⟩ := own_hrow o4 HM.out.symm
  have R1 := Lib.hid (R1.out.below b3)
  have R2 := Lib.hid (R2.out.below b3)
  have Q3 := Lib.hid (Q3.out.below b3)
  have Q4 := Lib.hid q4
  have B3 := Lib.hid (B2.out.trans (b3.mono B2.out.size))
  clear o4 b3 q4
  go_wp2_with fail
  refine (CC.out _ _ _ R1.out (HT.out.below B3.out)).mono ?_
  rintro e w4 ⟨rfl, b4⟩
  have R2 := Lib.hid (R2.out.below b4)
  have Q3 := Lib.hid (Q3.out.below b4)
  have Q4 := Lib.hid (Q4.out.below b4)
  have B4 := Lib.hid (B3.out.trans (b4.mono B3.out.size))
  clear b4 R1
  go_wp2_with fail
  refine (CD.out _ _ _ R2.out).mono ?_
  rintro e w5 ⟨rfl, b5⟩
  have Q3 := Lib.hid (Q3.out.below b5)
  have Q4 := Lib.hid (Q4.out.below b5)
  have B5 := Lib.hid (B4.out.trans (b5.mono B4.out.size))
  clear b5 R2
  go_wp2_with fail
  refine (rwakes_any w5 (HT.out.below B5.out)).mono ?_
  rintro e w6 ⟨rfl, b6⟩
  have Q3 := Lib.hid (Q3.out.below b6)
  have Q4 := Lib.hid (Q4.out.below b6)
  have B6 := Lib.hid (B5.out.trans (b6.mono B5.out.size))
  clear b6
  have f1 : (s.toList == s.toList) = true := by simp
  have f2 : (s.toList != s.toList) = false := by simp
  go_wp2
  go_loopw [73] (fun i wr => ∃ k : Nat, i = .int .i64 k ∧ k ≤ m ∧ Hid (Below w6.heap.size w6 wr)) (fun i _ => m - (intOf i).toNat)
  case atStart => exact ⟨0, rfl, by omega, Lib.hid (Below.refl _ _)⟩
  case round =>
    obtain ⟨k, rfl, hk, hb⟩ := hrel
    by_cases hlt : k < m
    · obtain ⟨x, hx⟩ : ∃ x, R[k]? = some x := ⟨_, List.getElem?_eq_getElem (by rw [HM.out]; exact hlt)⟩
      obtain ⟨g1, p1, rfl, hg1, e1⟩ := (Q3.out.below hb.out) (by rw [HM.out]; omega)
      obtain ⟨g2, p2, rfl, hg2, e2⟩ := (Q4.out.below hb.out) (by rw [HM.out]; omega)
      obtain ⟨x1, x2, x3⟩ := e1 k x hx
      obtain ⟨y1, y2, y3⟩ := e2 k x hx
      have f3 : (x.s.toList == x.s.toList) = true := by simp
      have hkm : (k : Int) < (m : Int) := by omega
      clear e1 e2 hx
      go_wp2
      go_quiet (fail)
      go_wp2
      go_roundw
      case rel => exact ⟨k + 1, by go_num, by omega, Lib.hid ⟨hb.out.os, hb.out.tape, hb.out.output, hb.out.size, hb.out.block⟩⟩
      case measure => simp [intOf]; omega
    · go_wp2
      go_ret
      exact ⟨rfl, B6.out.trans (hb.out.mono B6.out.size)⟩
theorem remapRoutes_walk (v : Value) (L : List Rl) (N : ByteArray) (hN : N.size ≤ 140737488351232) (q : Int) (_hq : (Lit.int .i64 q).wf = true) (w : World) (h : SRule w v L) (hT : Tabs w) :
    Calls Tryd.prog 8 #[v, .string N, .int .i64 q] w fun e w' => e = .returned (.bool true) ∧ Below w.heap.size w w' := by
  obtain ⟨⟨rfl, rfl⟩ | ⟨a, cap, rfl, h1, h2, h3⟩, hz⟩ := h
  · exact routes_core none 0 0 [] N hN q w rfl (Nat.le_refl _) (by decide) (fun hp => absurd hp (by simp)) hz (.inl ⟨rfl, rfl⟩) hT
  · exact routes_core (some a) L.length cap L N hN q w rfl h1 h2 h3 hz (.inr ⟨a, rfl⟩) hT
end Go.Proofs.YtdjiioidkgppjaaDoor
