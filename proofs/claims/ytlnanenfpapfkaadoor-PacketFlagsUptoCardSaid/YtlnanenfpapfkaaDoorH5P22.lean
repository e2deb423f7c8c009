/- Parts of the proof, joined: Gw10, Gw11, Gw12, Gw13. -/
import Derived.Test.YtlnanenfpapfkaaDoorH5P21
import Derived.Test.YtlnanenfpapfkaaDoorH5P13
import Derived.Laws.CopyOwn
import Derived.Great.BuildSlice
import Derived.Defers
import Derived.Recover
import Derived.Laws.Pointers
/- A packet's reader walked: body of a PUBLISH; all kinds. -/
set_option linter.unusedVariables false
set_option linter.unusedSimpArgs false
namespace Go.Proofs.YtlnanenfpapfkaaDoor
open Go.RowKit Pl Go.Shelf Go.PlainAid


set_option maxHeartbeats 8000000 in
set_option maxRecDepth 100000 in
theorem body_3 {w : World} {R P : Nat} {s : ByteArray} {a : Int} {p : Pk} {m : Hs} {X : World} (h : St w R P s a p m X) (hw : Tabs w) (hL : p.subs.length + p.filters.length + p.codes.length ≤ 1000) (hK : p.kind = 3) :
    Calls Tryd.prog 31 #[.pointer (some ⟨R, 0, none⟩), .pointer (some ⟨P, 0, none⟩)] X (PkPost' w R P s (bindR (rPub s p a) fun p a => if a < s.size then .error 129 else .ok (p, a))) := by
  have H0 := Lib.hid h
  have HW := Lib.hid hw; have HLL := Lib.hid hL; have HKD := Lib.hid hK
  obtain ⟨RES, hres⟩ : ∃ RES, (bindR (rPub s p a) fun p a => if a < (s.size : Int) then (.error 129 : RR Pk) else .ok (p, a)) = RES := ⟨_, rfl⟩
  rw [hres]
  have HK0 := Lib.hid hres
  clear h hres hw hL hK
  have l1 : X.cell? ⟨P, 0, none⟩ = some (.int .i64 (3)) := (H0.out.pB.cell 0).trans (by show some (Value.int .i64 (p.kind)) = _; rw [HKD.out])
  go_enter Tryd.func31, Tryd.ntmps31
  have hk := HK0.out
  unfold rPub at hk
  rw [bR_assoc] at hk
  have HK2 := Lib.hid hk; clear hk
  obtain ⟨r3, e3⟩ : ∃ r, rText s a = r := ⟨_, rfl⟩
  have C3 := Lib.hid (rtext_any R s a X H0.out.rB H0.out.sz H0.out.a0 H0.out.a1 (H0.out.drew 1).tb)
  rw [e3] at C3
  have hk3 := HK2.out
  rw [e3] at hk3
  have EE3 := Lib.hid e3
  clear e3
  have HKK3 := Lib.hid hk3; clear hk3
  go_wp2_with (first | (fail))
  (with_reducible refine C3.out.mono ?_)
  cases r3 with
  | error c =>
    rintro e Y3 ⟨rfl, hm3⟩
    refine ⟨rfl, ?_⟩
    have hk := HKK3.out
    simp only [bR_err] at hk
    rw [← hk]
    exact ⟨rfl, H0.out.goneR hm3⟩
  | ok v3 =>
    obtain ⟨x3, b3⟩ := v3
    rintro e Y3 ⟨u3, rfl, rfl, hb3, hm3⟩
    have HH3 := Lib.hid (H0.out.read hb3 hm3 (rText_at EE3.out))
    have hk3 := HKK3.out
    simp only [bR_ok] at hk3
    have HK3 := Lib.hid hk3
    clear hb3 hm3 hk3 C3 HKK3 l1
    have c4 : Y3.cell? ⟨P, 5, none⟩ = some (.string (p.topic)) := HH3.out.pB.cell 5
    have f4 := HH3.out.pB.frozen 5
    obtain ⟨q4, eq4⟩ : ∃ q : Pk, { p with topic := x3 } = q := ⟨_, rfl⟩
    obtain ⟨Z4, z4⟩ : ∃ Z, Y3.setCell ⟨P, 5, none⟩ (.string (x3)) = Z := ⟨_, rfl⟩
    have hh4 := HH3.out.set 5 (.string (x3)) ({ p with topic := x3 }) (m) rfl ⟨HH3.out.o.ps, HH3.out.o.wps, HH3.out.o.cs, HH3.out.o.ss, HH3.out.o.fs⟩
    rw [z4, eq4] at hh4
    have HH4 := Lib.hid hh4
    have EQ4 := Lib.hid eq4
    clear hh4 eq4
    have HQQ := Lib.hid (show q4.q = p.q from by rw [← EQ4.out])
    have l5 : Z4.cell? ⟨P, 3, none⟩ = some (.int .i64 (p.q)) := (HH4.out.pB.cell 3).trans (by show some (Value.int .i64 (q4.q)) = _; rw [HQQ.out])
    by_cases hq : 0 < p.q
    · have hk := HK3.out
      rw [if_pos hq, bR_assoc] at hk
      have HK6 := Lib.hid hk; clear hk
      obtain ⟨r7, e7⟩ : ∃ r, rId s b3 = r := ⟨_, rfl⟩
      have C7 := Lib.hid (rid_any R s b3 Z4 HH4.out.rB HH4.out.sz HH4.out.a0 HH4.out.a1)
      rw [e7] at C7
      have hk7 := HK6.out
      rw [e7] at hk7
      have EE7 := Lib.hid e7
      clear e7
      have HKK7 := Lib.hid hk7; clear hk7
      go_wp2_with (first | (fail))
      (with_reducible refine C7.out.mono ?_)
      cases r7 with
      | error c =>
        rintro e Y7 ⟨rfl, hm7⟩
        refine ⟨rfl, ?_⟩
        have hk := HKK7.out
        simp only [bR_err] at hk
        rw [← hk]
        exact ⟨rfl, HH4.out.goneR hm7⟩
      | ok v7 =>
        obtain ⟨x7, b7⟩ := v7
        rintro e Y7 ⟨u7, rfl, rfl, hb7, hm7⟩
        have HH7 := Lib.hid (HH4.out.read hb7 hm7 (rId_at EE7.out))
        have hk7 := HKK7.out
        simp only [bR_ok] at hk7
        have HK7 := Lib.hid hk7
        clear hb7 hm7 hk7 C7 HKK7 c4 f4 z4 l5
        have c8 : Y7.cell? ⟨P, 4, none⟩ = some (.int .i64 (q4.id)) := HH7.out.pB.cell 4
        have f8 := HH7.out.pB.frozen 4
        obtain ⟨q8, eq8⟩ : ∃ q : Pk, { q4 with id := x7 } = q := ⟨_, rfl⟩
        obtain ⟨Z8, z8⟩ : ∃ Z, Y7.setCell ⟨P, 4, none⟩ (.int .i64 (x7)) = Z := ⟨_, rfl⟩
        have hh8 := HH7.out.set 4 (.int .i64 (x7)) ({ q4 with id := x7 }) (m) rfl ⟨HH7.out.o.ps, HH7.out.o.wps, HH7.out.o.cs, HH7.out.o.ss, HH7.out.o.fs⟩
        rw [z8, eq8] at hh8
        have HH8 := Lib.hid hh8
        have EQ8 := Lib.hid eq8
        clear hh8 eq8
        have hk9 := HK7.out
        rw [show ({ p with topic := x3, id := x7 } : Pk) = q8 from by rw [← EQ8.out, ← EQ4.out]] at hk9
        have HK9 := Lib.hid hk9
        clear hk9
        have hk := HK9.out
        unfold rPayl at hk
        rw [bR_assoc] at hk
        have HK10 := Lib.hid hk; clear hk
        obtain ⟨r11, e11⟩ : ∃ r, rProps 3 s b7 = r := ⟨_, rfl⟩
        have C11 := Lib.hid (rprops_any R s b7 3 Z8 HH8.out.rB HH8.out.sz HH8.out.a0 HH8.out.a1 HH8.out.tb)
        rw [e11] at C11
        have hk11 := HK10.out
        rw [e11] at hk11
        have EE11 := Lib.hid e11
        clear e11
        have HKK11 := Lib.hid hk11; clear hk11
        go_wp2_with (first | (fail))
        (with_reducible refine C11.out.mono ?_)
        cases r11 with
        | error c =>
          rintro e Y11 ⟨rfl, hm11⟩
          refine ⟨rfl, ?_⟩
          have hk := HKK11.out
          simp only [bR_err] at hk
          rw [← hk]
          exact ⟨rfl, HH8.out.goneR hm11⟩
        | ok v11 =>
          obtain ⟨x11, b11⟩ := v11
          rintro e Y11 ⟨u11, rfl, hps11, hb11, hm11⟩
          have HH11 := Lib.hid (HH8.out.read hb11 hm11 (rProps_at EE11.out HH8.out.a0))
          have hk11 := HKK11.out
          simp only [bR_ok] at hk11
          have HK11 := Lib.hid hk11
          obtain ⟨ao11, cp11, rfl, -⟩ := hps11.form
          have HS11 := Lib.hid (hps11.mono' HH8.out.md.size)
          clear hps11
          clear hb11 hm11 hk11 C11 HKK11 c8 f8 z8
          have c12 : Y11.cell? ⟨P, 9, none⟩ = some (.slice m.p.A m.p.n m.p.cap) := HH11.out.pB.cell 9
          have f12 := HH11.out.pB.frozen 9
          obtain ⟨q12, eq12⟩ : ∃ q : Pk, { q8 with ps := x11 } = q := ⟨_, rfl⟩
          obtain ⟨Z12, z12⟩ : ∃ Z, Y11.setCell ⟨P, 9, none⟩ (.slice ao11 x11.length cp11) = Z := ⟨_, rfl⟩
          have hh12 := HH11.out.set 9 (.slice ao11 x11.length cp11) ({ q8 with ps := x11 }) ({ m with p := ⟨ao11, x11.length, cp11⟩ }) rfl ⟨HS11.out, HH11.out.o.wps, HH11.out.o.cs, HH11.out.o.ss, HH11.out.o.fs⟩
          obtain ⟨M12, em12⟩ : ∃ M : Hs, { m with p := ⟨ao11, x11.length, cp11⟩ } = M := ⟨_, rfl⟩
          rw [z12, eq12, em12] at hh12
          clear em12
          have HH12 := Lib.hid hh12
          have EQ12 := Lib.hid eq12
          clear hh12 eq12
          go_wp2_with fail
          obtain ⟨XX, hXX⟩ : ∃ XX, Z12 = XX := ⟨_, rfl⟩
          have HHX := HH12
          rw [hXX] at HHX ⊢
          clear hXX c12 f12 z12
          have r0 : XX.cell? ⟨R, 0, none⟩ = some (.string s) := HHX.out.rB.cell 0
          have r1 : XX.cell? ⟨R, 1, none⟩ = some (.int .i64 b11) := HHX.out.rB.cell 1
          have p6 : XX.cell? ⟨P, 6, none⟩ = some (.string q12.payload) := HHX.out.pB.cell 6
          have p6f := HHX.out.pB.frozen 6
          have ha0 := HHX.out.a0; have ha1 := HHX.out.a1; have hsz := HHX.out.sz
          have hs0 : S2p XX R s b11 := ⟨r0, r1⟩
          have hsd : S2p XX.drew R s b11 := hs0
          have hst : ∀ v, S2p (XX.drew.setCell ⟨P, 6, none⟩ v) R s b11 := fun v => ⟨(World.cell?_of_block (Below.heap_setCell _ _ _ _ HHX.out.ne)).trans r0, (World.cell?_of_block (Below.heap_setCell _ _ _ _ HHX.out.ne)).trans r1⟩
          go_region_held3 (fun Z => S2p Z R s b11) (first | (with_reducible assumption) | exact hs0 | exact hsd | exact hst _) (fail)
          obtain ⟨q13, eq13⟩ : ∃ q : Pk, { q12 with payload := s.extract b11.toNat s.size } = q := ⟨_, rfl⟩
          have hh13 := (HHX.out.set 6 (.string (s.extract b11.toNat s.size)) ({ q12 with payload := s.extract b11.toNat s.size }) M12 rfl ⟨HHX.out.o.ps, HHX.out.o.wps, HHX.out.o.cs, HHX.out.o.ss, HHX.out.o.fs⟩).drew 1
          change St _ _ _ _ _ _ _ (XX.setCell ⟨P, 6, none⟩ (.string (s.extract b11.toNat s.size))).drew at hh13
          obtain ⟨Z13, z13⟩ : ∃ Z, (XX.setCell ⟨P, 6, none⟩ (.string (s.extract b11.toNat s.size))).drew = Z := ⟨_, rfl⟩
          rw [z13, eq13] at hh13
          rw [z13]
          have HH13 := Lib.hid hh13; have EQ13 := Lib.hid eq13
          clear hh13 z13 eq13 r0 r1 p6 p6f hs0 hsd hst
          have r0 : Z13.cell? ⟨R, 0, none⟩ = some (.string s) := HH13.out.rB.cell 0
          have r1 : Z13.cell? ⟨R, 1, none⟩ = some (.int .i64 b11) := HH13.out.rB.cell 1
          have r1f := HH13.out.rB.frozen 1
          have hh2 := HH13.out.setR ⟨ha1, Int.le_refl _⟩
          obtain ⟨ZR, zr⟩ : ∃ Z, Z13.setCell ⟨R, 1, none⟩ (.int .i64 (s.size : Int)) = Z := ⟨_, rfl⟩
          rw [zr] at hh2
          have HHR := Lib.hid hh2; clear hh2
          have hk := HK11.out
          rw [show ({ q8 with ps := x11, payload := s.extract b11.toNat s.size } : Pk) = q13 from by rw [← EQ13.out, ← EQ12.out], if_neg (by omega)] at hk
          have HK14 := Lib.hid hk; clear hk
          have CL := Lib.hid (left_any R s s.size ZR HHR.out.rB)
          go_wp2_with fail
          (with_reducible refine CL.out.mono ?_)
          rintro e YL ⟨rfl, hbL, hhL⟩
          have HL := Lib.hid (HHR.out.heap hbL)
          have hdL : decide ((s.size : Int) < (s.size : Int)) = false := by simp
          rw [hdL]
          clear hbL hhL CL r0 r1 r1f zr
          go_wp2_with (first | (go_at_call 30; (with_reducible refine (must_true _).mono ?_); rintro e YM ⟨rfl, rfl⟩) | (fail))
          go_end0
          have hk := HK14.out
          rw [← hk]
          exact ⟨rfl, _, HL.out⟩
    · have hqd : decide (0 < p.q) = false := decide_eq_false hq
      have hk := HK3.out
      rw [if_neg hq] at hk
      have HK15 := Lib.hid hk; clear hk
      have hk16 := HK15.out
      rw [show ({ p with topic := x3 } : Pk) = q4 from by rw [← EQ4.out]] at hk16
      have HK16 := Lib.hid hk16
      clear hk16
      have hk := HK16.out
      unfold rPayl at hk
      rw [bR_assoc] at hk
      have HK17 := Lib.hid hk; clear hk
      obtain ⟨r18, e18⟩ : ∃ r, rProps 3 s b3 = r := ⟨_, rfl⟩
      have C18 := Lib.hid (rprops_any R s b3 3 Z4 HH4.out.rB HH4.out.sz HH4.out.a0 HH4.out.a1 HH4.out.tb)
      rw [e18] at C18
      have hk18 := HK17.out
      rw [e18] at hk18
      have EE18 := Lib.hid e18
      clear e18
      have HKK18 := Lib.hid hk18; clear hk18
      go_wp2_with (first | (fail))
      (with_reducible refine C18.out.mono ?_)
      cases r18 with
      | error c =>
        rintro e Y18 ⟨rfl, hm18⟩
        refine ⟨rfl, ?_⟩
        have hk := HKK18.out
        simp only [bR_err] at hk
        rw [← hk]
        exact ⟨rfl, HH4.out.goneR hm18⟩
      | ok v18 =>
        obtain ⟨x18, b18⟩ := v18
        rintro e Y18 ⟨u18, rfl, hps18, hb18, hm18⟩
        have HH18 := Lib.hid (HH4.out.read hb18 hm18 (rProps_at EE18.out HH4.out.a0))
        have hk18 := HKK18.out
        simp only [bR_ok] at hk18
        have HK18 := Lib.hid hk18
        obtain ⟨ao18, cp18, rfl, -⟩ := hps18.form
        have HS18 := Lib.hid (hps18.mono' HH4.out.md.size)
        clear hps18
        clear hb18 hm18 hk18 C18 HKK18 c4 f4 z4 l5
        have c19 : Y18.cell? ⟨P, 9, none⟩ = some (.slice m.p.A m.p.n m.p.cap) := HH18.out.pB.cell 9
        have f19 := HH18.out.pB.frozen 9
        obtain ⟨q19, eq19⟩ : ∃ q : Pk, { q4 with ps := x18 } = q := ⟨_, rfl⟩
        obtain ⟨Z19, z19⟩ : ∃ Z, Y18.setCell ⟨P, 9, none⟩ (.slice ao18 x18.length cp18) = Z := ⟨_, rfl⟩
        have hh19 := HH18.out.set 9 (.slice ao18 x18.length cp18) ({ q4 with ps := x18 }) ({ m with p := ⟨ao18, x18.length, cp18⟩ }) rfl ⟨HS18.out, HH18.out.o.wps, HH18.out.o.cs, HH18.out.o.ss, HH18.out.o.fs⟩
        obtain ⟨M19, em19⟩ : ∃ M : Hs, { m with p := ⟨ao18, x18.length, cp18⟩ } = M := ⟨_, rfl⟩
        rw [z19, eq19, em19] at hh19
        clear em19
        have HH19 := Lib.hid hh19
        have EQ19 := Lib.hid eq19
        clear hh19 eq19
        go_wp2_with fail
        obtain ⟨XX, hXX⟩ : ∃ XX, Z19 = XX := ⟨_, rfl⟩
        have HHX := HH19
        rw [hXX] at HHX ⊢
        clear hXX c19 f19 z19
        have r0 : XX.cell? ⟨R, 0, none⟩ = some (.string s) := HHX.out.rB.cell 0
        have r1 : XX.cell? ⟨R, 1, none⟩ = some (.int .i64 b18) := HHX.out.rB.cell 1
        have p6 : XX.cell? ⟨P, 6, none⟩ = some (.string q19.payload) := HHX.out.pB.cell 6
        have p6f := HHX.out.pB.frozen 6
        have ha0 := HHX.out.a0; have ha1 := HHX.out.a1; have hsz := HHX.out.sz
        have hs0 : S2p XX R s b18 := ⟨r0, r1⟩
        have hsd : S2p XX.drew R s b18 := hs0
        have hst : ∀ v, S2p (XX.drew.setCell ⟨P, 6, none⟩ v) R s b18 := fun v => ⟨(World.cell?_of_block (Below.heap_setCell _ _ _ _ HHX.out.ne)).trans r0, (World.cell?_of_block (Below.heap_setCell _ _ _ _ HHX.out.ne)).trans r1⟩
        go_region_held3 (fun Z => S2p Z R s b18) (first | (with_reducible assumption) | exact hs0 | exact hsd | exact hst _) (fail)
        obtain ⟨q20, eq20⟩ : ∃ q : Pk, { q19 with payload := s.extract b18.toNat s.size } = q := ⟨_, rfl⟩
        have hh20 := (HHX.out.set 6 (.string (s.extract b18.toNat s.size)) ({ q19 with payload := s.extract b18.toNat s.size }) M19 rfl ⟨HHX.out.o.ps, HHX.out.o.wps, HHX.out.o.cs, HHX.out.o.ss, HHX.out.o.fs⟩).drew 1
        change St _ _ _ _ _ _ _ (XX.setCell ⟨P, 6, none⟩ (.string (s.extract b18.toNat s.size))).drew at hh20
        obtain ⟨Z20, z20⟩ : ∃ Z, (XX.setCell ⟨P, 6, none⟩ (.string (s.extract b18.toNat s.size))).drew = Z := ⟨_, rfl⟩
        rw [z20, eq20] at hh20
        rw [z20]
        have HH20 := Lib.hid hh20; have EQ20 := Lib.hid eq20
        clear hh20 z20 eq20 r0 r1 p6 p6f hs0 hsd hst
        have r0 : Z20.cell? ⟨R, 0, none⟩ = some (.string s) := HH20.out.rB.cell 0
        have r1 : Z20.cell? ⟨R, 1, none⟩ = some (.int .i64 b18) := HH20.out.rB.cell 1
        have r1f := HH20.out.rB.frozen 1
        have hh2 := HH20.out.setR ⟨ha1, Int.le_refl _⟩
        obtain ⟨ZR, zr⟩ : ∃ Z, Z20.setCell ⟨R, 1, none⟩ (.int .i64 (s.size : Int)) = Z := ⟨_, rfl⟩
        rw [zr] at hh2
        have HHR := Lib.hid hh2; clear hh2
        have hk := HK18.out
        rw [show ({ q4 with ps := x18, payload := s.extract b18.toNat s.size } : Pk) = q20 from by rw [← EQ20.out, ← EQ19.out], if_neg (by omega)] at hk
        have HK21 := Lib.hid hk; clear hk
        have CL := Lib.hid (left_any R s s.size ZR HHR.out.rB)
        go_wp2_with fail
        (with_reducible refine CL.out.mono ?_)
        rintro e YL ⟨rfl, hbL, hhL⟩
        have HL := Lib.hid (HHR.out.heap hbL)
        have hdL : decide ((s.size : Int) < (s.size : Int)) = false := by simp
        rw [hdL]
        clear hbL hhL CL r0 r1 r1f zr
        go_wp2_with (first | (go_at_call 30; (with_reducible refine (must_true _).mono ?_); rintro e YM ⟨rfl, rfl⟩) | (fail))
        go_end0
        have hk := HK21.out
        rw [← hk]
        exact ⟨rfl, _, HL.out⟩
theorem rbody_any {w : World} {R P : Nat} {s : ByteArray} {a : Int} {p : Pk} {m : Hs} {X : World} (h : St w R P s a p m X) (hw : Tabs w) (hL : p.subs.length + p.filters.length + p.codes.length ≤ 1000) (h1 : 1 ≤ p.kind) (h2 : p.kind ≤ 15) :
    Calls Tryd.prog 31 #[.pointer (some ⟨R, 0, none⟩), .pointer (some ⟨P, 0, none⟩)] X (PkPost' w R P s (rBody s p a)) := by
  unfold rBody rKind
  have hk : p.kind = 1 ∨ p.kind = 2 ∨ p.kind = 3 ∨ p.kind = 4 ∨ p.kind = 5 ∨ p.kind = 6 ∨ p.kind = 7 ∨ p.kind = 8 ∨ p.kind = 9 ∨ p.kind = 10 ∨ p.kind = 11 ∨ p.kind = 12 ∨ p.kind = 13 ∨ p.kind = 14 ∨ p.kind = 15 := by omega
  rcases hk with k | k | k | k | k | k | k | k | k | k | k | k | k | k | k
  · have := body_1 h hw hL k
    simpa [k] using this
  · have := body_2 h hw hL k
    simpa [k] using this
  · have := body_3 h hw hL k
    simpa [k] using this
  · have := body_4 h hw hL k
    simpa [k] using this
  · have := body_5 h hw hL k
    simpa [k] using this
  · have := body_6 h hw hL k
    simpa [k] using this
  · have := body_7 h hw hL k
    simpa [k] using this
  · have := body_8 h hw hL k
    simpa [k] using this
  · have := body_9 h hw hL k
    simpa [k] using this
  · have := body_10 h hw hL k
    simpa [k] using this
  · have := body_11 h hw hL k
    simpa [k] using this
  · have := body_12 h hw hL k
    simpa [k] using this
  · have := body_13 h hw hL k
    simpa [k] using this
  · have := body_14 h hw hL k
    simpa [k] using this
  · have := body_15 h hw hL k
    simpa [k] using this
end Go.Proofs.YtlnanenfpapfkaaDoor

/- packet.head. -/
set_option linter.unusedVariables false
namespace Go.Proofs.YtlnanenfpapfkaaDoor
open Go.RowKit Pl Go.Shelf Go.PlainAid

def zHd : Hd := ⟨none, 0, 0⟩
def zHs : Hs := ⟨zHd, zHd, zHd, zHd, zHd⟩
theorem zpk_eq : pkA .u8 zPk zHs = #[.int .i64 0, .bool false, .bool false, .int .i64 0, .int .i64 0, .string ⟨#[]⟩, .string ⟨#[]⟩, .int .u8 0, .slice none 0 0, .slice none 0 0, .string ⟨#[]⟩, .bool false, .int .i64 0, .bool false, .string ⟨#[]⟩, .string ⟨#[]⟩, .int .i64 0, .bool false, .slice none 0 0, .bool false, .bool false, .string ⟨#[]⟩, .string ⟨#[]⟩, .bool false, .slice none 0 0, .slice none 0 0] := rfl
theorem gpk_size : (Tryd.prog.info? 38).map (·.size) = some 26 := by kernel_rfl
theorem pkA_one (p : Pk) (m : Hs) : (pkA .u8 p m).all (·.oneCell') = true := by simp [pkA]; simp [Value.oneCell']
def HdPost (w : World) (o : Option Pk) (e : Ending) (w' : World) : Prop := match o with
  | none => e = .panicked (flt_ 129) ∧ Below w.heap.size w w'
  | some p => e = .returned (.agg (pkA .u8 p zHs)) ∧ Below w.heap.size w w'
/-- The two variables of head. -/
theorem head_worlds (w : World) (k : Int) (W0 W1 Z : World) (h0 : w.alloc (.cells (pkA .u8 zPk zHs) 38) = W0) (h1 : W0.alloc (.cells (pkA .u8 zPk zHs) 38) = W1) (h2 : W1.setRow (w.heap.size + 1) (pkA .u8 { zPk with kind := k } zHs) = Z) :
    Blk W1 (w.heap.size + 1) (pkA .u8 zPk zHs) 38 ∧ Blk Z (w.heap.size + 1) (pkA .u8 { zPk with kind := k } zHs) 38 ∧ Blk Z w.heap.size (pkA .u8 zPk zHs) 38 ∧ Below w.heap.size w Z ∧ W0.heap.size = w.heap.size + 1 := by
  have b0 := blkAt w (pkA .u8 zPk zHs) 38 rfl
  have s0 : W0.heap.size = w.heap.size + 1 := by rw [← h0]; simp
  rw [h0] at b0
  have b0' := b0.alloc (.cells (pkA .u8 zPk zHs) 38)
  have b1 := blkAt W0 (pkA .u8 zPk zHs) 38 s0.symm
  have bel : Below w.heap.size w _ := ((Below.refl _ _).alloc (Nat.le_refl _) (.cells (pkA .u8 zPk zHs) 38))
  rw [h0] at bel
  have bel1 := bel.alloc (by omega) (.cells (pkA .u8 zPk zHs) 38)
  rw [h1] at b0' b1 bel1
  rw [← h2]
  exact ⟨b1, b1.row0 _, b0'.row1 (by omega) _, below_setRow bel1 (by omega) _, s0⟩
set_option maxHeartbeats 8000000 in
set_option maxRecDepth 100000 in
theorem head_any (b : Int) (w : World) (h0 : 0 ≤ b) (h1 : b < 256) : Calls Tryd.prog 28 #[.int .i64 b] w (HdPost w (hdO b)) := by
  have e15 := nb_15 h0 h1
  have e8 : (bits .and .i64 b 8 != 0) = decide (b / 8 % 2 = 1) := nz_dec (nb_8 h0 h1) (by omega)
  have e1 : (bits .and .i64 b 1 != 0) = decide (b % 2 = 1) := nz_dec (nb_1 h0 h1) (by omega)
  have e3 : bits .and .i64 (b / 2) 3 = b / 2 % 4 := nb_3 (by omega) (by omega)
  unfold hdO
  obtain ⟨k, hk⟩ : ∃ k, b / 16 = k := ⟨_, rfl⟩
  obtain ⟨f, hf⟩ : ∃ f, b % 16 = f := ⟨_, rfl⟩
  obtain ⟨q, hq⟩ : ∃ q, b / 2 % 4 = q := ⟨_, rfl⟩
  obtain ⟨d, hd⟩ : ∃ d : Bool, decide (b / 8 % 2 = 1) = d := ⟨_, rfl⟩
  obtain ⟨r, hr⟩ : ∃ r : Bool, decide (b % 2 = 1) = r := ⟨_, rfl⟩
  have hd0 : (b / 8 % 2 = 0) ↔ d = false := by rw [← hd, decide_eq_false_iff_not]; omega
  rw [hf] at e15
  rw [hq] at e3
  rw [hd] at e8
  rw [hr] at e1
  rw [hk, hf, hq, hd, hr]
  have HQ0 := Lib.hid (show 0 ≤ q ∧ q < 4 from by omega)
  have HD0 := Lib.hid hd0
  clear hf hq hd hr hd0
  obtain ⟨W0, hW0⟩ : ∃ W, w.alloc (.cells (pkA .u8 zPk zHs) 38) = W := ⟨_, rfl⟩
  obtain ⟨W1, hW1⟩ : ∃ W, W0.alloc (.cells (pkA .u8 zPk zHs) 38) = W := ⟨_, rfl⟩
  obtain ⟨Z, hZ⟩ : ∃ Z, W1.setRow (w.heap.size + 1) (pkA .u8 { zPk with kind := k } zHs) = Z := ⟨_, rfl⟩
  obtain ⟨B1, BZ, B0, bel, s0⟩ := head_worlds w k W0 W1 Z hW0 hW1 hZ
  have HB1 := Lib.hid B1; have HBZ := Lib.hid BZ; have HB0 := Lib.hid B0; have HBL := Lib.hid bel; have HZ := Lib.hid hZ
  rw [zpk_eq] at hW0 hW1
  have z0 : Z.cell? ⟨w.heap.size + 1, 0, none⟩ = some (.int .i64 k) := BZ.cell 0
  clear B1 BZ B0 bel hZ
  have CF : ∀ w, Calls Tryd.prog 14 #[.int .i64 k] w fun e w' => e = .returned (.int .i64 (kFlags k)) ∧ w = w' := fun w => kflags_any k w
  have CF := Lib.hid CF
  by_cases hk0 : k = 0
  · rw [if_pos hk0]
    have hk0b : (k != 0) = false := by simp [hk0]
    clear hk0
    go_enter Tryd.func28, Tryd.ntmps28
    go_wp2_with (first | (refine wpList_buildTo rfl 38 _ rfl (some 6) rfl (pkA .u8 { zPk with kind := k } zHs) (by kernel_rfl) ?_) | (refine wpList_store_rowN rfl 38 (.tmp 3) (.tmp 6) rfl rfl (w.heap.size + 1) (pkA .u8 { zPk with kind := k } zHs) rfl rfl 38 (pkA .u8 zPk zHs) HB1.out gpk_size rfl (pkA_one _ _) Z HZ.out ?_) | (go_at_call 30; (with_reducible refine (must_false _).mono ?_); rintro e YM ⟨rfl, rfl⟩) | (fail))
    exact ⟨rfl, rfl, HBL.out⟩
  · rw [if_neg hk0]
    have hk0b : (k != 0) = true := by simp [hk0]
    by_cases hk3 : k = 3
    · rw [if_pos hk3]
      have hk3b : (k != 3) = false := by simp [hk3]
      have hpk : ({ zPk with kind := 3, dup := d, q := q, ret := r } : Pk) = { zPk with kind := k, dup := d, q := q, ret := r } := by rw [hk3]
      rw [hpk]
      clear hpk hk3 hk0
      have z1 : Z.cell? ⟨w.heap.size + 1, 1, none⟩ = some (.bool false) := HBZ.out.cell 1
      have z2 : Z.cell? ⟨w.heap.size + 1, 2, none⟩ = some (.bool false) := HBZ.out.cell 2
      have z3 : Z.cell? ⟨w.heap.size + 1, 3, none⟩ = some (.int .i64 0) := HBZ.out.cell 3
      have zf1 := HBZ.out.frozen 1
      have zf2 := HBZ.out.frozen 2
      have zf3 := HBZ.out.frozen 3
      have hX := ((HBZ.out.set 1 (.bool d)).set 3 (.int .i64 q)).set 2 (.bool r)
      have h0X := ((HB0.out.other (R' := w.heap.size + 1) (by omega) 1 (.bool d)).other (R' := w.heap.size + 1) (by omega) 3 (.int .i64 q)).other (R' := w.heap.size + 1) (by omega) 2 (.bool r)
      have hbX := ((HBL.out.setCell (p := ⟨w.heap.size + 1, 1, none⟩) (by show w.heap.size ≤ w.heap.size + 1; omega) (.bool d)).setCell (p := ⟨w.heap.size + 1, 3, none⟩) (by show w.heap.size ≤ w.heap.size + 1; omega) (.int .i64 q)).setCell (p := ⟨w.heap.size + 1, 2, none⟩) (by show w.heap.size ≤ w.heap.size + 1; omega) (.bool r)
      obtain ⟨X, hXX⟩ : ∃ X, ((Z.setCell ⟨w.heap.size + 1, 1, none⟩ (.bool d)).setCell ⟨w.heap.size + 1, 3, none⟩ (.int .i64 q)).setCell ⟨w.heap.size + 1, 2, none⟩ (.bool r) = X := ⟨_, rfl⟩
      rw [hXX] at hX h0X hbX
      have x1 : X.cell? ⟨w.heap.size + 1, 1, none⟩ = some (.bool d) := hX.cell 1
      have x3 : X.cell? ⟨w.heap.size + 1, 3, none⟩ = some (.int .i64 q) := hX.cell 3
      have HX := Lib.hid (show Blk X (w.heap.size + 1) (pkA .u8 { zPk with kind := k, dup := d, q := q, ret := r } zHs) 38 from hX)
      have H0X := Lib.hid h0X; have HBX := Lib.hid hbX
      clear hX h0X hbX
      by_cases hq3 : q < 3
      · cases d with
        | false =>
          have hc : q < 3 ∧ (b / 8 % 2 = 0 ∨ 0 < q) := ⟨hq3, .inl (HD0.out.2 rfl)⟩
          rw [if_pos hc]
          go_enter Tryd.func28, Tryd.ntmps28
          go_wp2_with (first | (refine wpList_buildTo rfl 38 _ rfl (some 6) rfl (pkA .u8 { zPk with kind := k } zHs) (by kernel_rfl) ?_) | (refine wpList_store_rowN rfl 38 (.tmp 3) (.tmp 6) rfl rfl (w.heap.size + 1) (pkA .u8 { zPk with kind := k } zHs) rfl rfl 38 (pkA .u8 zPk zHs) HB1.out gpk_size rfl (pkA_one _ _) Z HZ.out ?_) | (go_at_call 30; (with_reducible refine (must_true _).mono ?_); rintro e YM ⟨rfl, rfl⟩) | (refine wpList_load_row rfl 38 (.tmp 3) rfl (w.heap.size + 1) rfl 38 (pkA .u8 { zPk with kind := k, dup := false, q := q, ret := r } zHs) (0, 0) _ HX.out Tryd.underlying38 rfl gpk_size ?_) | (refine Go.wpList_store_rowTo rfl 38 (.tmp 2) (.tmp 48) rfl rfl w.heap.size (pkA .u8 { zPk with kind := k, dup := false, q := q, ret := r } zHs) rfl rfl 38 (pkA .u8 zPk zHs) H0X.out gpk_size rfl (pkA_one _ _) ?_) | (fail))
          refine bodyPost_ret (v := .agg (pkA .u8 { zPk with kind := k, dup := false, q := q, ret := r } zHs)) (results_cell_row (p := 2) (ty := 38) (by kernel_rfl) _ _ w.heap.size 38 _ (0, 0) _ rfl (H0X.out.row0 _) Tryd.underlying38 rfl gpk_size) rfl ?_
          exact ⟨rfl, below_setRow HBX.out (Nat.le_refl _) _⟩
        | true =>
          by_cases hq1 : 0 < q
          · rw [if_pos ⟨hq3, .inr hq1⟩]
            go_enter Tryd.func28, Tryd.ntmps28
            go_wp2_with (first | (refine wpList_buildTo rfl 38 _ rfl (some 6) rfl (pkA .u8 { zPk with kind := k } zHs) (by kernel_rfl) ?_) | (refine wpList_store_rowN rfl 38 (.tmp 3) (.tmp 6) rfl rfl (w.heap.size + 1) (pkA .u8 { zPk with kind := k } zHs) rfl rfl 38 (pkA .u8 zPk zHs) HB1.out gpk_size rfl (pkA_one _ _) Z HZ.out ?_) | (go_at_call 30; (with_reducible refine (must_true _).mono ?_); rintro e YM ⟨rfl, rfl⟩) | (refine wpList_load_row rfl 38 (.tmp 3) rfl (w.heap.size + 1) rfl 38 (pkA .u8 { zPk with kind := k, dup := true, q := q, ret := r } zHs) (0, 0) _ HX.out Tryd.underlying38 rfl gpk_size ?_) | (refine Go.wpList_store_rowTo rfl 38 (.tmp 2) (.tmp 48) rfl rfl w.heap.size (pkA .u8 { zPk with kind := k, dup := true, q := q, ret := r } zHs) rfl rfl 38 (pkA .u8 zPk zHs) H0X.out gpk_size rfl (pkA_one _ _) ?_) | (fail))
            refine bodyPost_ret (v := .agg (pkA .u8 { zPk with kind := k, dup := true, q := q, ret := r } zHs)) (results_cell_row (p := 2) (ty := 38) (by kernel_rfl) _ _ w.heap.size 38 _ (0, 0) _ rfl (H0X.out.row0 _) Tryd.underlying38 rfl gpk_size) rfl ?_
            exact ⟨rfl, below_setRow HBX.out (Nat.le_refl _) _⟩
          · rw [if_neg (fun c => by rcases c.2 with c | c; exact absurd (HD0.out.1 c) (by decide); exact hq1 c)]
            have hq1d : decide (0 < q) = false := decide_eq_false hq1
            go_enter Tryd.func28, Tryd.ntmps28
            go_wp2_with (first | (refine wpList_buildTo rfl 38 _ rfl (some 6) rfl (pkA .u8 { zPk with kind := k } zHs) (by kernel_rfl) ?_) | (refine wpList_store_rowN rfl 38 (.tmp 3) (.tmp 6) rfl rfl (w.heap.size + 1) (pkA .u8 { zPk with kind := k } zHs) rfl rfl 38 (pkA .u8 zPk zHs) HB1.out gpk_size rfl (pkA_one _ _) Z HZ.out ?_) | (go_at_call 30; (with_reducible refine (must_true _).mono ?_); rintro e YM ⟨rfl, rfl⟩) | (fail))
            (with_reducible refine (must_false _).mono ?_)
            rintro e YM ⟨rfl, rfl⟩
            exact ⟨rfl, rfl, HBX.out⟩
      · rw [if_neg (fun c => hq3 c.1)]
        have hq3d : decide (q < 3) = false := decide_eq_false hq3
        go_enter Tryd.func28, Tryd.ntmps28
        go_wp2_with (first | (refine wpList_buildTo rfl 38 _ rfl (some 6) rfl (pkA .u8 { zPk with kind := k } zHs) (by kernel_rfl) ?_) | (refine wpList_store_rowN rfl 38 (.tmp 3) (.tmp 6) rfl rfl (w.heap.size + 1) (pkA .u8 { zPk with kind := k } zHs) rfl rfl 38 (pkA .u8 zPk zHs) HB1.out gpk_size rfl (pkA_one _ _) Z HZ.out ?_) | (go_at_call 30; (with_reducible refine (must_true _).mono ?_); rintro e YM ⟨rfl, rfl⟩) | (fail))
        (with_reducible refine (must_false _).mono ?_)
        rintro e YM ⟨rfl, rfl⟩
        exact ⟨rfl, rfl, HBX.out⟩
    · rw [if_neg hk3]
      have hk3b : (k != 3) = true := by simp [hk3]
      by_cases hff : f = kFlags k
      · rw [if_pos hff]
        have hfb : (f == kFlags k) = true := by simp [hff]
        clear hff
        go_enter Tryd.func28, Tryd.ntmps28
        go_wp2_with (first | (refine wpList_buildTo rfl 38 _ rfl (some 6) rfl (pkA .u8 { zPk with kind := k } zHs) (by kernel_rfl) ?_) | (refine wpList_store_rowN rfl 38 (.tmp 3) (.tmp 6) rfl rfl (w.heap.size + 1) (pkA .u8 { zPk with kind := k } zHs) rfl rfl 38 (pkA .u8 zPk zHs) HB1.out gpk_size rfl (pkA_one _ _) Z HZ.out ?_) | (go_at_call 30; (with_reducible refine (must_true _).mono ?_); rintro e YM ⟨rfl, rfl⟩) | (go_at_call 14; (with_reducible refine (CF.out _).mono ?_); rintro e YF ⟨rfl, rfl⟩) | (refine wpList_load_row rfl 38 (.tmp 3) rfl (w.heap.size + 1) rfl 38 (pkA .u8 { zPk with kind := k } zHs) (0, 0) _ HBZ.out Tryd.underlying38 rfl gpk_size ?_) | (refine Go.wpList_store_rowTo rfl 38 (.tmp 2) (.tmp 21) rfl rfl w.heap.size (pkA .u8 { zPk with kind := k } zHs) rfl rfl 38 (pkA .u8 zPk zHs) HB0.out gpk_size rfl (pkA_one _ _) ?_) | (fail))
        refine bodyPost_ret (v := .agg (pkA .u8 { zPk with kind := k } zHs)) (results_cell_row (p := 2) (ty := 38) (by kernel_rfl) _ _ w.heap.size 38 _ (0, 0) _ rfl (HB0.out.row0 _) Tryd.underlying38 rfl gpk_size) rfl ?_
        exact ⟨rfl, below_setRow HBL.out (Nat.le_refl _) _⟩
      · rw [if_neg hff]
        have hfb : (f == kFlags k) = false := by rw [beq_eq_false_iff_ne]; exact hff
        clear hff
        go_enter Tryd.func28, Tryd.ntmps28
        go_wp2_with (first | (refine wpList_buildTo rfl 38 _ rfl (some 6) rfl (pkA .u8 { zPk with kind := k } zHs) (by kernel_rfl) ?_) | (refine wpList_store_rowN rfl 38 (.tmp 3) (.tmp 6) rfl rfl (w.heap.size + 1) (pkA .u8 { zPk with kind := k } zHs) rfl rfl 38 (pkA .u8 zPk zHs) HB1.out gpk_size rfl (pkA_one _ _) Z HZ.out ?_) | (go_at_call 30; (with_reducible refine (must_true _).mono ?_); rintro e YM ⟨rfl, rfl⟩) | (go_at_call 14; (with_reducible refine (CF.out _).mono ?_); rintro e YF ⟨rfl, rfl⟩) | (fail))
        (with_reducible refine (must_false _).mono ?_)
        rintro e YM ⟨rfl, rfl⟩
        exact ⟨rfl, rfl, HBL.out⟩
end Go.Proofs.YtlnanenfpapfkaaDoor

/- packet.Get: what it defers. -/
set_option linter.unusedVariables false
set_option linter.unusedSimpArgs false
namespace Go.Proofs.YtlnanenfpapfkaaDoor
open Go.RowKit Pl Go.Shelf Go.PlainAid

theorem ta_nil (w : World) : (Instr.typeAssert Value.nilIface 20 86 true).run Tryd.prog w = .ok (.tuple #[.int .u8 0, .bool false]) w := by kernel_rfl
theorem ta_fault (c : Int) (w : World) : (Instr.typeAssert (.iface 86 (.int .u8 c)) 20 86 true).run Tryd.prog w = .ok (.tuple #[.int .u8 c, .bool true]) w := by kernel_rfl
set_option maxRecDepth 100000 in
set_option maxHeartbeats 4000000 in
theorem catch_idle (gp gq : Nat) (w : World) :
    CallsD Tryd.prog 27 #[.pointer (some ⟨gp, 0, none⟩), .pointer (some ⟨gq, 0, none⟩)] .returning w fun e u' w' => e = .returned (.tuple #[]) ∧ u' = .returning ∧ w' = w := by
  have hta := ta_nil w
  refine callsD_of_wpS Tryd.func27 rfl fun c₀ cs hu => ?_
  apply wpS_seq
  apply wpS_region
  simp [wpOpsS, go_sem, recoverD, hu, Tryd.ntmps27, Exit.thenS, hta]
  apply wpS_seq
  apply wpS_region
  simp [wpOpsS, go_sem, Exit.thenS]
  refine wpS_cond (t := false) (by simp [Act.eval, Array.replicate]) ?_
  simp only [Bool.false_eq_true, if_false]
  refine wpS_of_wp (wp_skip ?_)
  cases c₀
  simp_all [bodyPostS, results, Tryd.results27]
end Go.Proofs.YtlnanenfpapfkaaDoor

/- packet.Get: what it defers. -/
set_option linter.unusedVariables false
set_option linter.unusedSimpArgs false
namespace Go.Proofs.YtlnanenfpapfkaaDoor
open Go.RowKit Pl Go.Shelf Go.PlainAid

theorem tm_ten (a b x0 x1 x2 x3 x4 x5 x6 x7 : Value) : #[a, b] ++ ((((((((Array.replicate 10 undef).setIfInBounds 3 x3).setIfInBounds 4 x4).setIfInBounds 2 x2).setIfInBounds 5 x5).setIfInBounds 6 x6).setIfInBounds 0 x0).setIfInBounds 1 x1).setIfInBounds 7 x7 = #[a, b, x0, x1, x2, x3, x4, x5, x6, x7, undef, undef] := by kernel_rfl
set_option maxRecDepth 100000 in
set_option maxHeartbeats 1000000 in
theorem catch_fault (gp gq : Nat) (c x : Int) (cs0 : Array Value) (w : World) (hp : Blk w gp cs0 38) (hn : cs0.size = 26) (hq : w.cell? ⟨gq, 0, none⟩ = some (.int .u8 x)) (hz : w.frozen? ⟨gq, 0, none⟩ = false) (hne : gq ≠ gp) :
    CallsD Tryd.prog 27 #[.pointer (some ⟨gp, 0, none⟩), .pointer (some ⟨gq, 0, none⟩)] (.panicking (flt_ c)) w fun e u' w' =>
      e = .returned (.tuple #[]) ∧ u' = .panicking [{ v := .iface 86 (.int .u8 c), recovered := true }] ∧ w' = (w.setRow gp (pkA .u8 zPk zHs)).setCell ⟨gq, 0, none⟩ (.int .u8 c) := by
  have hta := ta_fault c w
  have HP := Lib.hid hp
  have HN := Lib.hid hn
  have q1' : (w.setRow gp (pkA .u8 zPk zHs)).cell? ⟨gq, 0, none⟩ = some (.int .u8 x) := (cell_setRow_other _ _ _ _ hne).trans hq
  have q2 : (w.setRow gp (pkA .u8 zPk zHs)).frozen? ⟨gq, 0, none⟩ = false := by
    rw [← hz]
    unfold World.frozen?
    simp only [setRow_other w gp gq _ hne]
  have Q1 := Lib.hid q1'
  have Q2 := Lib.hid q2
  clear hp hn hq hz q1' q2
  refine callsD_of_wpS Tryd.func27 rfl fun c₀ cs hu => ?_
  apply wpS_seq
  apply wpS_region
  simp [wpOpsS, go_sem, recoverD, hu, flt_, Tryd.ntmps27, Exit.thenS, hta]
  apply wpS_seq
  apply wpS_region
  simp [wpOpsS, go_sem, Exit.thenS]
  refine wpS_cond (t := true) (by simp [Act.eval, Array.replicate]) ?_
  simp only [if_true]
  rw [tm_ten]
  obtain ⟨Z, hZ⟩ : ∃ Z, w.setRow gp (pkA .u8 zPk zHs) = Z := ⟨_, rfl⟩
  have q1 := Q1.out
  have q2 := Q2.out
  rw [hZ] at q1 q2 ⊢
  have HZ := Lib.hid hZ
  clear hZ Q1 Q2 hta
  refine wpS_of_wp ?_
  go_wp2_with (first | (refine wpList_buildTo rfl 38 _ rfl (some 10) rfl (pkA .u8 zPk zHs) (by kernel_rfl) ?_) | (refine wpList_store_rowN rfl 38 (.tmp 0) (.tmp 10) rfl rfl gp (pkA .u8 zPk zHs) rfl rfl 38 cs0 HP.out gpk_size HN.out (pkA_one _ _) Z HZ.out ?_) | (fail))
  cases c₀
  simp_all [bodyPostS, results, Tryd.results27]
end Go.Proofs.YtlnanenfpapfkaaDoor
