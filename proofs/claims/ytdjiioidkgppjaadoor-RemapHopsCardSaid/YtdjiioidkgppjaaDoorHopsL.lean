/- RemapHops: the law's walk. -/
import Derived.Test.YtdjiioidkgppjaaDoorRoute
import Derived.Test.YtdjiioidkgppjaaDoorRulesArg
import Derived.BigQuiet
import Derived.Deep.QuietTactic
namespace Go.Proofs.YtdjiioidkgppjaaDoor
set_option linter.unusedVariables false
open Go.RowKit Pl Go.Shelf

set_option maxRecDepth 100000 in
set_option maxHeartbeats 4000000 in
theorem hops_core (A : Option Addr) (n cap : Nat) (L : List Rl) (N : ByteArray) (hN : N.size ≤ 140737488351232) (q : Int) (w : World) (hn : L.length = n) (hc : n ≤ cap) (hcm : cap ≤ maxLen) (h : RRow w A L) (hz : ∀ r ∈ L, r.fits) (hA : (A = none ∧ cap = 0) ∨ ∃ a, A = some a) (hT : Tabs w) :
    Calls Tryd.prog 4 #[.slice A n cap, .string N, .int .i64 q] w fun e w' => e = .returned (.bool true) ∧ Below w.heap.size w w' := by
  obtain ⟨M, hM⟩ : ∃ M, min n 20 = M := ⟨_, rfl⟩
  have hM20 : M ≤ 20 := by omega
  have CP := Lib.hid (rules_any A n cap M L w hn hc hcm h hz hM hA)
  have hl : (L.take M).length = M := by rw [List.length_take]; omega
  have hz2 : ∀ r ∈ L.take M, r.fits := fun r hr => hz r (List.mem_of_mem_take hr)
  obtain ⟨T, hTT⟩ : ∃ T, L.take M = T := ⟨_, rfl⟩
  rw [hTT] at CP hl hz2
  have HL := Lib.hid hl
  have HZ := Lib.hid hz2
  have HT := Lib.hid hT
  have hml := rte_len T N q M
  obtain ⟨R, hR⟩ : ∃ R, rteK T N q M = R := ⟨_, rfl⟩
  rw [hR] at hml
  obtain ⟨m, hm⟩ : ∃ m, R.length = m := ⟨_, rfl⟩
  rw [hm] at hml
  have CR : ∀ (A1 : Option Addr) (c1 : Nat) (X : World), RRow X A1 T → Tabs X → Calls Tryd.prog 14 #[.slice A1 M c1, .string N, .int .i64 q] X fun e w' => ∃ v, e = .returned v ∧ w'.ownsRow X.heap.size 45 3 v m (flat3 R) ∧ Below X.heap.size X w' := fun A1 c1 X hp ht => by rw [← hm, ← hR]; exact route_any A1 M c1 T N q X hl (by omega) hp hz2 hN ht
  have CR := Lib.hid CR
  have HR := Lib.hid hR
  have HM := Lib.hid hm
  clear hn hc hcm h hz hA hM hl hTT hR hm hz2 hT
  go_enter Tryd.func4, Tryd.ntmps4
  go_wp2_with fail
  refine CP.out.mono ?_
  rintro e w1 ⟨v1, v2, rfl, own1, own2, b1⟩
  obtain ⟨A1, c1, rfl, _, r1⟩ := own_rrow own1 HL.out.symm
  obtain ⟨A2, c2, rfl, _, r2⟩ := own_rrow own2 HL.out.symm
  have B1 := Lib.hid b1
  have R1 := Lib.hid r1
  clear own1 own2 b1 r1 r2
  go_wp2_with fail
  refine (CR.out _ _ _ R1.out (HT.out.below B1.out)).mono ?_
  rintro e w2 ⟨v3, rfl, o3, b2⟩
  obtain ⟨A3, c3, rfl, _, q3⟩ := own_hrow o3 HM.out.symm
  have R1 := Lib.hid (R1.out.below b2)
  have Q3 := Lib.hid q3
  have B2 := Lib.hid (B1.out.trans (b2.mono B1.out.size))
  clear o3 b2 q3
  go_wp2
  go_loopw [9, 26] (fun a i wr => ∃ k : Nat, i = .int .i64 k ∧ k ≤ M ∧ a = .int .i64 ((rteK T N q k).length : Nat) ∧ Hid (Below w2.heap.size w2 wr)) (fun _ i _ => M - (intOf i).toNat)
  case atStart => exact ⟨0, rfl, by omega, rfl, Lib.hid (Below.refl _ _)⟩
  case round =>
    obtain ⟨k, rfl, hk, rfl, hb⟩ := hrel
    have hbel := B2.out.trans (hb.out.mono B2.out.size)
    by_cases hlt : k < M
    · obtain ⟨b, o, rfl, hl, hc⟩ := (R1.out.below hb.out) (by rw [HL.out]; omega)
      obtain ⟨p, hp⟩ : ∃ x, T[k]? = some x := ⟨_, List.getElem?_eq_getElem (by rw [HL.out]; exact hlt)⟩
      obtain ⟨e1, e2, e3, e4, e5⟩ := hc k p hp
      have hpf := HZ.out p (List.mem_of_getElem? hp)
      obtain ⟨x, y, hxy⟩ : ∃ x y, toRem p N = (x, y) := ⟨_, _, rfl⟩
      have hS := rte_succ (q := q) hp hxy
      have hS5 : S5r (wr.alloc (.cells (ruC p) 26)) wr.heap.size p := s5r_new
      have hB0 : Below wr.heap.size wr (wr.alloc (.cells (ruC p) 26)) := (Below.refl _ _).alloc (Nat.le_refl _) _
      have hzY : wr.heap.size < (wr.alloc (.cells (ruC p) 26)).heap.size := by simp
      have CT := toremote_any p N (wr.alloc (.cells (ruC p) 26)) hpf hN ((HT.out.below hbel).below hB0)
      rw [hxy] at CT
      unfold ruV at CT
      obtain ⟨Y, hY⟩ : ∃ Y, wr.alloc (.cells (ruC p) 26) = Y := ⟨_, rfl⟩
      rw [hY] at hS5 hB0 CT hzY
      have CT := Lib.hid CT
      have HY := Lib.hid hY
      have HS := Lib.hid hS
      have HP := Lib.hid hp
      have HXY := Lib.hid hxy
      unfold ruC at HY
      have hkM : (k : Int) < (M : Int) := by omega
      obtain ⟨a, ha⟩ : ∃ a, (rteK T N q k).length = a := ⟨_, rfl⟩
      rw [ha]
      have HA := Lib.hid ha
      clear hc hp hxy hS hY hpf ha
      go_wp2_with fail
      rw [HY.out]
      refine CT.out.mono ?_
      rintro e w3 ⟨rfl, b3⟩
      have hb3 := Lib.hid (hb.out.trans ((hB0.trans (b3.mono hB0.size)).mono hb.out.size))
      have hc2 : w3.cell? ⟨wr.heap.size, 2, none⟩ = some (.int .i64 p.qos) := (b3.cell (p := ⟨wr.heap.size, 2, none⟩) hzY).trans hS5.2.2.1
      clear hS5 hB0 b3 e1 e2 e3 e4 e5 hzY
      cases y
      · go_wp2
        go_roundw
        case rel => exact ⟨k + 1, by go_num, by omega, by rw [show rteK T N q (k + 1) = rteK T N q k from HS.out.trans (List.append_nil _), HA.out], hb3⟩
        case measure => simp [intOf]; omega
      · have hat := rte_at (q := q) hlt HP.out HXY.out
        rw [HR.out, HA.out] at hat
        have ham : a < m := by rw [← HM.out]; exact (List.getElem?_eq_some_iff.1 hat).1
        obtain ⟨g3, p3, rfl, hg3, e3⟩ := (Q3.out.below hb3.out) (by rw [HM.out]; omega)
        obtain ⟨h1, h2, h3⟩ := e3 a _ hat
        have hamI : (a : Int) < (m : Int) := by omega
        have HAT := Lib.hid hat
        clear e3 hat
        go_wp2
        have hge3 : decide (m ≤ a) = false := decide_eq_false (by omega)
        go_quiet (fail)
        go_wp2
        go_roundw
        case rel => exact ⟨k + 1, by go_num, by omega, by rw [show rteK T N q (k + 1) = rteK T N q k ++ [⟨k, x, min q p.qos⟩] from HS.out, List.length_append, HA.out]; first | rfl | go_num, Lib.hid ⟨hb3.out.os, hb3.out.tape, hb3.out.output, hb3.out.size, hb3.out.block⟩⟩
        case measure => simp [intOf]; omega
    · have hkn : k = M := by omega
      subst hkn
      rw [HR.out, HM.out]
      go_wp2_with fail
      refine (rwakes_any wr (HT.out.below hbel)).mono ?_
      rintro e w9 ⟨rfl, b9⟩
      go_wp2
      go_ret
      exact ⟨rfl, hbel.trans (b9.mono hbel.size)⟩
theorem remapHops_walk (v : Value) (L : List Rl) (N : ByteArray) (hN : N.size ≤ 140737488351232) (q : Int) (_hq : (Lit.int .i64 q).wf = true) (w : World) (h : SRule w v L) (hT : Tabs w) :
    Calls Tryd.prog 4 #[v, .string N, .int .i64 q] w fun e w' => e = .returned (.bool true) ∧ Below w.heap.size w w' := by
  obtain ⟨⟨rfl, rfl⟩ | ⟨a, cap, rfl, h1, h2, h3⟩, hz⟩ := h
  · exact hops_core none 0 0 [] N hN q w rfl (Nat.le_refl _) (by decide) (fun hp => absurd hp (by simp)) hz (.inl ⟨rfl, rfl⟩) hT
  · exact hops_core (some a) L.length cap L N hN q w rfl h1 h2 h3 hz (.inr ⟨a, rfl⟩) hT
end Go.Proofs.YtdjiioidkgppjaaDoor
