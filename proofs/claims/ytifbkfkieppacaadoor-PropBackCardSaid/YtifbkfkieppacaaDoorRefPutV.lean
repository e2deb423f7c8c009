/- The walks of the document's value, twice. -/
import Derived.Test.YtifbkfkieppacaaDoorPutV
namespace Go.Proofs.YtifbkfkieppacaaDoor
set_option linter.unusedVariables false
open Go.RowKit Pl

set_option maxHeartbeats 1000000 in
theorem twice_any (A : Option Addr) (n cap k : Nat) (L : List Pp) (id : Int) (w : World) (hn : L.length = n) (hm : n ≤ 1048576) (hk : k ≤ n) (h : PRow w A L) :
    Calls Tryd.prog 22 #[.slice A n cap, .int .i64 k, .int .i64 id] w fun e w' => e = .returned (.bool (dup L k id)) ∧ w = w' := by
  unfold dup
  by_cases h38 : id = 38
  · subst h38
    rw [show ((38 : Int) != 38) = false from rfl, Bool.and_false]
    clear hn hm hk h
    go_enter Tryd.func22, Tryd.ntmps22
    go_wp2
    go_ret
    exact ⟨rfl, rfl⟩
  · have e1 : (id == 38) = false := by rw [beq_eq_false_iff_ne]; exact h38
    rw [show (id != 38) = true from by rw [bne, e1]; rfl, Bool.and_true]
    have H := Lib.hid h
    have HN := Lib.hid hn
    clear h hn h38
    obtain ⟨q, hq⟩ : ∃ q : Pp → Bool, (fun p => p.id == id) = q := ⟨_, rfl⟩
    have HQ : Hid (∀ p : Pp, q p = (p.id == id)) := Lib.hid fun p => by rw [← hq]
    obtain ⟨R, hR⟩ : ∃ R, (L.take k).any q = R := ⟨_, rfl⟩
    rw [show ((L.take k).any fun p => p.id == id) = R from by rw [← hR, ← hq]]
    have HR := Lib.hid hR
    clear hq hR
    go_enter Tryd.func22, Tryd.ntmps22
    go_wp2
    go_loop [7] (fun i => ∃ j : Nat, i = .int .i64 j ∧ j ≤ k ∧ Hid ((L.take j).any q = false)) (fun i => k - (intOf i).toNat)
    case atStart => exact ⟨0, rfl, by omega, Lib.hid rfl⟩
    case round =>
      obtain ⟨j, rfl, hj, hv⟩ := hrel
      by_cases hlt : j < k
      · obtain ⟨b, o, rfl, hl, hc⟩ := H.out (by rw [HN.out]; omega)
        obtain ⟨x, hx⟩ : ∃ x, L[j]? = some x := ⟨_, List.getElem?_eq_getElem (by rw [HN.out]; omega)⟩
        obtain ⟨c0, c1, c2, c3⟩ := hc j x hx
        have hjI : (j : Int) < (k : Int) := by omega
        obtain ⟨y, hy⟩ : ∃ y, (x.id == id) = y := ⟨_, rfl⟩
        have HY := Lib.hid ((HQ.out x).trans hy)
        have HX := Lib.hid hx
        clear hc c1 c2 c3 hx
        cases y
        · have Hr := Lib.hid (any_take_p HX.out hv.out HY.out)
          go_wp2
          go_round
          case rel => exact ⟨j + 1, by go_num, by omega, Hr⟩
          case measure => simp [intOf]; omega
        · have Hr : Hid (R = true) := Lib.hid (by
            rw [← HR.out, List.any_eq_true]
            exact ⟨x, List.mem_of_getElem? (i := j) (by rw [List.getElem?_take_of_lt hlt]; exact HX.out), HY.out⟩)
          go_wp2
          go_ret
          exact ⟨ret_bool Hr.out.symm, rfl⟩
      · obtain rfl : j = k := by omega
        go_wp2
        go_ret
        exact ⟨ret_bool (hv.out.symm.trans HR.out), rfl⟩
set_option maxRecDepth 100000 in
set_option maxHeartbeats 2000000 in
theorem refvalue_any (p : Pp) (w : World) (hz : p.fits) :
    Calls Tryd.prog 23 #[.agg #[.int .i64 p.id, .int .i64 p.n, .string p.s, .string p.t]] w fun e w' => ∃ v, e = .returned (.tuple #[.string v, .int .i64 (pvC p)]) ∧ (pvC p = 0 → v = pvS p) ∧ Below w.heap.size w w' := by
  obtain ⟨z1, z2, _⟩ := hz
  obtain ⟨k, hk⟩ : ∃ k, kindOf p.id = k := ⟨_, rfl⟩
  have CK : ∀ X : World, Calls Tryd.prog 21 #[.int .i64 p.id] X fun e w' => e = .returned (.int .i64 k) ∧ Below X.heap.size X w' := fun X => by rw [← hk]; exact refkind_any p.id X
  have b0 : Below w.heap.size w (w.alloc (.cells #[.int .i64 p.id, .int .i64 p.n, .string p.s, .string p.t] 47)) := (Below.refl _ _).alloc (Nat.le_refl _) _
  have hS : S4b (w.alloc (.cells #[.int .i64 p.id, .int .i64 p.n, .string p.s, .string p.t] 47)) w.heap.size p := ⟨World.cell?_alloc_at _ _ _ _ rfl, World.cell?_alloc_at _ _ _ _ rfl, World.cell?_alloc_at _ _ _ _ rfl, World.cell?_alloc_at _ _ _ _ rfl⟩
  have hl : w.heap.size < (w.alloc (.cells #[.int .i64 p.id, .int .i64 p.n, .string p.s, .string p.t] 47)).heap.size := by simp
  obtain ⟨W, hW⟩ : ∃ W, w.alloc (.cells #[.int .i64 p.id, .int .i64 p.n, .string p.s, .string p.t] 47) = W := ⟨_, rfl⟩
  rw [hW] at b0 hS hl
  have CK := Lib.hid CK
  have HW := Lib.hid hW
  have B0 := Lib.hid b0
  have HK := Lib.hid hk
  have HS0 := Lib.hid hS
  have s0 := hS.1
  obtain ⟨c, hc⟩ : ∃ c, pvC p = c := ⟨_, rfl⟩
  have hc2 := hc
  unfold pvC at hc2
  rw [hk] at hc2
  rw [hc]
  clear hc hk hW b0 hS
  by_cases h4 : k = 4
  · subst h4
    obtain rfl : putC p.n = c := hc2
    have HS : Hid ((⟨(enc p.n).toArray⟩ : ByteArray) = pvS p) := Lib.hid (by unfold pvS; rw [HK.out]; rfl)
    go_enter Tryd.func23, Tryd.ntmps23
    go_wp2_with fail
    rw [HW.out]
    refine (CK.out W).mono ?_
    rintro e w1 ⟨rfl, b1⟩
    obtain ⟨r0, r1, r2, r3⟩ := s4b_blw HS0.out hl b1
    have B1 := Lib.hid (B0.out.trans (b1.mono B0.out.size))
    clear b1
    go_wp2_with fail
    refine (refput_all p.n _).mono ?_
    rintro e w2 ⟨rfl, b2⟩
    go_wp2
    go_ret2
    exact ⟨_, rfl, fun _ => HS.out, B1.out.trans (b2.mono B1.out.size)⟩
  · by_cases h5 : k = 5
    · subst h5
      obtain rfl : dataC p.s = c := hc2
      have HS : Hid (dataS p.s = pvS p) := Lib.hid (by unfold pvS; rw [HK.out]; rfl)
      go_enter Tryd.func23, Tryd.ntmps23
      go_wp2_with fail
      rw [HW.out]
      refine (CK.out W).mono ?_
      rintro e w1 ⟨rfl, b1⟩
      obtain ⟨r0, r1, r2, r3⟩ := s4b_blw HS0.out hl b1
      have B1 := Lib.hid (B0.out.trans (b1.mono B0.out.size))
      clear b1
      go_wp2_with fail
      refine (refdata_all p.s _ z1).mono ?_
      rintro e w2 ⟨rfl, b2⟩
      go_wp2
      go_ret2
      exact ⟨_, rfl, fun _ => HS.out, B1.out.trans (b2.mono B1.out.size)⟩
    · by_cases h6 : k = 6
      · subst h6
        obtain rfl : tputC p.s = c := hc2
        have HS : Hid (tputS p.s = pvS p) := Lib.hid (by unfold pvS; rw [HK.out]; rfl)
        go_enter Tryd.func23, Tryd.ntmps23
        go_wp2_with fail
        rw [HW.out]
        refine (CK.out W).mono ?_
        rintro e w1 ⟨rfl, b1⟩
        obtain ⟨r0, r1, r2, r3⟩ := s4b_blw HS0.out hl b1
        have B1 := Lib.hid (B0.out.trans (b1.mono B0.out.size))
        clear b1
        go_wp2_with fail
        refine (reftput_any p.s _ z1).mono ?_
        rintro e w2 ⟨rfl, b2⟩
        go_wp2
        go_ret2
        exact ⟨_, rfl, fun _ => HS.out, B1.out.trans (b2.mono B1.out.size)⟩
      · by_cases h7 : k = 7
        · subst h7
          have HS : Hid (tputS p.s ++ tputS p.t = pvS p) := Lib.hid (by unfold pvS; rw [HK.out]; rfl)
          have q1 := tputS_small p.s
          have q2 := tputS_small p.t
          have hc3 : (if tputC p.s = 0 then tputC p.t else tputC p.s) = c := hc2
          have C1 : ∀ X : World, Calls Tryd.prog 39 #[.string p.s] X fun e w' => e = .returned (.tuple #[.string (tputS p.s), .int .i64 (tputC p.s)]) ∧ Below X.heap.size X w' := fun X => reftput_any p.s X z1
          have C2 : ∀ X : World, Calls Tryd.prog 39 #[.string p.t] X fun e w' => e = .returned (.tuple #[.string (tputS p.t), .int .i64 (tputC p.t)]) ∧ Below X.heap.size X w' := fun X => reftput_any p.t X z2
          obtain ⟨u1, hu1⟩ : ∃ u, tputS p.s = u := ⟨_, rfl⟩
          obtain ⟨u2, hu2⟩ : ∃ u, tputS p.t = u := ⟨_, rfl⟩
          obtain ⟨d1, hd1⟩ : ∃ u, tputC p.s = u := ⟨_, rfl⟩
          obtain ⟨d2, hd2⟩ : ∃ u, tputC p.t = u := ⟨_, rfl⟩
          rw [hu1] at HS q1 C1
          rw [hu2] at HS q2 C2
          rw [hd1] at C1 hc3
          rw [hd2] at C2 hc3
          have C1 := Lib.hid C1
          have C2 := Lib.hid C2
          clear hu1 hu2 hd1 hd2 hc2
          by_cases h0 : d1 = 0
          · subst h0
            rw [if_pos rfl] at hc3
            subst hc3
            by_cases h20 : d2 = 0
            · subst h20
              go_enter Tryd.func23, Tryd.ntmps23
              go_wp2_with fail
              rw [HW.out]
              refine (CK.out W).mono ?_
              rintro e w1 ⟨rfl, b1⟩
              obtain ⟨r0, r1, r2, r3⟩ := s4b_blw HS0.out hl b1
              have HS1 := Lib.hid (s4b_blw HS0.out hl b1)
              have hl1 := Nat.lt_of_lt_of_le hl b1.size
              have B1 := Lib.hid (B0.out.trans (b1.mono B0.out.size))
              clear b1
              go_wp2_with fail
              refine (C1.out _).mono ?_
              rintro e w2 ⟨rfl, b2⟩
              obtain ⟨t0, t1, t2, t3⟩ := s4b_blw HS1.out hl1 b2
              have B2 := Lib.hid (B1.out.trans (b2.mono B1.out.size))
              clear b2
              go_wp2_with fail
              refine (C2.out _).mono ?_
              rintro e w3 ⟨rfl, b3⟩
              go_wp2
              go_ret2
              exact ⟨_, rfl, fun _ => HS.out, B2.out.trans (b3.mono B2.out.size)⟩
            · have e0 : (d2 == 0) = false := by rw [beq_eq_false_iff_ne]; exact h20
              have e1 : (d2 != 0) = true := by rw [bne, e0]; rfl
              go_enter Tryd.func23, Tryd.ntmps23
              go_wp2_with fail
              rw [HW.out]
              refine (CK.out W).mono ?_
              rintro e w1 ⟨rfl, b1⟩
              obtain ⟨r0, r1, r2, r3⟩ := s4b_blw HS0.out hl b1
              have HS1 := Lib.hid (s4b_blw HS0.out hl b1)
              have hl1 := Nat.lt_of_lt_of_le hl b1.size
              have B1 := Lib.hid (B0.out.trans (b1.mono B0.out.size))
              clear b1
              go_wp2_with fail
              refine (C1.out _).mono ?_
              rintro e w2 ⟨rfl, b2⟩
              obtain ⟨t0, t1, t2, t3⟩ := s4b_blw HS1.out hl1 b2
              have B2 := Lib.hid (B1.out.trans (b2.mono B1.out.size))
              clear b2
              go_wp2_with fail
              refine (C2.out _).mono ?_
              rintro e w3 ⟨rfl, b3⟩
              go_wp2
              go_ret2
              exact ⟨_, rfl, fun h => absurd h h20, B2.out.trans (b3.mono B2.out.size)⟩
          · rw [if_neg h0] at hc3
            subst hc3
            have e0 : (d1 == 0) = false := by rw [beq_eq_false_iff_ne]; exact h0
            have e1 : (d1 != 0) = true := by rw [bne, e0]; rfl
            go_enter Tryd.func23, Tryd.ntmps23
            go_wp2_with fail
            rw [HW.out]
            refine (CK.out W).mono ?_
            rintro e w1 ⟨rfl, b1⟩
            obtain ⟨r0, r1, r2, r3⟩ := s4b_blw HS0.out hl b1
            have B1 := Lib.hid (B0.out.trans (b1.mono B0.out.size))
            clear b1
            go_wp2_with fail
            refine (C1.out _).mono ?_
            rintro e w2 ⟨rfl, b2⟩
            go_wp2
            go_ret2
            exact ⟨_, rfl, fun h => absurd h h0, B1.out.trans (b2.mono B1.out.size)⟩
        · have HS : Hid ((⟨(fixS (wid k) p.n).toArray⟩ : ByteArray) = pvS p) := Lib.hid (by unfold pvS; rw [HK.out, if_neg h4, if_neg h5, if_neg h6, if_neg h7])
          obtain rfl : fixC (wid k) p.n = c := by rw [← hc2, if_neg h4, if_neg h5, if_neg h6, if_neg h7]
          have e4 : (k == 4) = false := by rw [beq_eq_false_iff_ne]; exact h4
          have e5 : (k == 5) = false := by rw [beq_eq_false_iff_ne]; exact h5
          have e6 : (k == 6) = false := by rw [beq_eq_false_iff_ne]; exact h6
          have e7 : (k == 7) = false := by rw [beq_eq_false_iff_ne]; exact h7
          clear h4 h5 h6 h7
          go_enter Tryd.func23, Tryd.ntmps23
          go_wp2_with fail
          rw [HW.out]
          refine (CK.out W).mono ?_
          rintro e w1 ⟨rfl, b1⟩
          obtain ⟨r0, r1, r2, r3⟩ := s4b_blw HS0.out hl b1
          have B1 := Lib.hid (B0.out.trans (b1.mono B0.out.size))
          clear b1
          go_wp2_with fail
          refine (refwidth_any k _).mono ?_
          rintro e w2 ⟨rfl, rfl⟩
          go_wp2_with fail
          refine (reffixed_all (wid k) p.n _).mono ?_
          rintro e w3 ⟨rfl, b3⟩
          go_wp2
          go_ret2
          exact ⟨_, rfl, fun _ => HS.out, B1.out.trans (b3.mono B1.out.size)⟩
end Go.Proofs.YtifbkfkieppacaaDoor
