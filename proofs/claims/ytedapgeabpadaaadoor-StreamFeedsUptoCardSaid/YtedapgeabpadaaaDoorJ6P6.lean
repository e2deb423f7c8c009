/- Parts of the proof, joined: Gw5, Chains. -/
import Derived.Test.YtedapgeabpadaaaDoorJ6P5
import Derived.Deep.RegionHeld
import Derived.RegionTactic
import Derived.Laws.Tables
import Derived.Deep.AppendLies
import Derived.Test.YtedapgeabpadaaaDoorJ6P3
set_option linter.unusedVariables false
namespace Go.Proofs.YtedapgeabpadaaaDoor
open Go.RowKit Pl Go.Shelf Go.PlainAid

theorem z_dec {x y : Int} {p : Prop} [Decidable p] (h : x = y) (hp : (y = 0) ↔ p) : (x == 0) = decide p := by
  subst h
  by_cases c : x = 0
  · have := hp.1 c; simp [c, this]
  · have : ¬ p := fun hc => c (hp.2 hc); simp [c, this]
/-- A CONNECT's flags as the walk sees them. -/
theorem conn_flags {f : Int} (h0 : 0 ≤ f) (h1 : f < 256) : ∃ (c1 c2 c3 c4 c5 z1 z56 : Bool) (q : Int), (bits .and .i64 f 2 != 0) = c1 ∧ (bits .and .i64 f 4 != 0) = c2 ∧ (bits .and .i64 f 64 != 0) = c3 ∧ (bits .and .i64 f 128 != 0) = c4 ∧ (bits .and .i64 f 32 != 0) = c5 ∧ (bits .and .i64 f 1 == 0) = z1 ∧ (bits .and .i64 f 56 == 0) = z56 ∧ bits .and .i64 (f / 8) 3 = q ∧
    (badFl f ↔ ¬ (z1 = true ∧ q < 3 ∧ (c2 = true ∨ z56 = true))) ∧ ∀ p : Pk, cSet p f = { p with clean := c1, hasWill := c2, hasPass := c3, hasUser := c4, wq := q, wr := c5 } := by
  refine ⟨_, _, _, _, _, _, _, _, nz_dec (nb_2 h0 h1) (show f / 2 % 2 * 2 ≠ 0 ↔ f / 2 % 2 = 1 by omega), nz_dec (nb_4 h0 h1) (show f / 4 % 2 * 4 ≠ 0 ↔ f / 4 % 2 = 1 by omega), nz_dec (nb_64 h0 h1) (show f / 64 % 2 * 64 ≠ 0 ↔ f / 64 % 2 = 1 by omega), nz_dec (nb_128 h0 h1) (show f / 128 % 2 * 128 ≠ 0 ↔ f / 128 % 2 = 1 by omega), nz_dec (nb_32 h0 h1) (show f / 32 % 2 * 32 ≠ 0 ↔ f / 32 % 2 = 1 by omega), z_dec (nb_1 h0 h1) (show f % 2 = 0 ↔ f % 2 = 0 from Iff.rfl), z_dec (nb_56 h0 h1) (show f / 8 % 8 * 8 = 0 ↔ f / 8 % 8 = 0 by omega), nb_3 (by omega) (by omega), ?_, fun p => rfl⟩
  unfold badFl
  simp only [decide_eq_true_eq]
  omega

theorem str_ne {x : ByteArray} (h : x ≠ name5) : (x.toList == [77, 81, 84, 84]) = false := by
  rw [beq_eq_false_iff_ne]
  intro c
  rw [ByteArray.toList_eq] at c
  exact h (ByteArray.ext (Array.toList_inj.1 c))

set_option maxHeartbeats 8000000 in
set_option maxRecDepth 100000 in
theorem rconn_any {w : World} {R P : Nat} {s : ByteArray} {a : Int} {p : Pk} {m : Hs} {X : World} (h : St w R P s a p m X) :
    Calls Tryd.prog 50 #[.pointer (some ⟨R, 0, none⟩), .pointer (some ⟨P, 0, none⟩)] X (PkPost' w R P s (rConn s p a)) := by
  have H0 := Lib.hid h
  obtain ⟨RES, hres⟩ : ∃ RES, rConn s p a = RES := ⟨_, rfl⟩
  rw [hres]
  unfold rConn at hres
  have HK0 := Lib.hid hres
  clear h hres
  go_enter Tryd.func50, Tryd.ntmps50
  obtain ⟨r1, e1⟩ : ∃ r, rText s a = r := ⟨_, rfl⟩
  have C1 := Lib.hid (rtext_any R s a X H0.out.rB H0.out.sz H0.out.a0 H0.out.a1 (H0.out.drew 1).tb)
  rw [e1] at C1
  have hk1 := HK0.out
  rw [e1] at hk1
  have EE1 := Lib.hid e1
  clear e1
  have HKK1 := Lib.hid hk1; clear hk1
  go_wp2_with (first | (fail))
  (with_reducible refine C1.out.mono ?_)
  cases r1 with
  | error c =>
    rintro e Y1 ⟨rfl, hm1⟩
    refine ⟨rfl, ?_⟩
    have hk := HKK1.out
    simp only [bR_err] at hk
    rw [← hk]
    exact ⟨rfl, H0.out.goneR hm1⟩
  | ok v1 =>
    obtain ⟨x1, b1⟩ := v1
    rintro e Y1 ⟨u1, rfl, rfl, hb1, hm1⟩
    have HH1 := Lib.hid (H0.out.read hb1 hm1 (rText_at EE1.out))
    have hk1 := HKK1.out
    simp only [bR_ok] at hk1
    have HK1 := Lib.hid hk1
    clear hb1 hm1 hk1 C1 HKK1 
    by_cases ht : x1 = name5
    · have hx : (x1.toList == [77, 81, 84, 84]) = true := by rw [ht, ByteArray.toList_eq]; rfl
      have hk := HK1.out
      rw [if_neg (show ¬ x1 ≠ name5 from fun c => c ht)] at hk
      have HK2 := Lib.hid hk; clear hk
      clear ht
      obtain ⟨r3, e3⟩ : ∃ r, rNum s 1 b1 = r := ⟨_, rfl⟩
      have C3 := Lib.hid (rnum_any R s b1 1 Y1 HH1.out.rB HH1.out.sz HH1.out.a0 HH1.out.a1)
      rw [e3] at C3
      have hk3 := HK2.out
      rw [e3] at hk3
      have EE3 := Lib.hid e3
      clear e3
      have HKK3 := Lib.hid hk3; clear hk3
      go_wp2_with (first | (go_at_call 34; (with_reducible refine (must_true _).mono ?_); rintro e YM ⟨rfl, rfl⟩) | (fail))
      (with_reducible refine C3.out.mono ?_)
      cases r3 with
      | error c =>
        rintro e Y3 ⟨rfl, hm3⟩
        refine ⟨rfl, ?_⟩
        have hk := HKK3.out
        simp only [bR_err] at hk
        rw [← hk]
        exact ⟨rfl, HH1.out.goneR hm3⟩
      | ok v3 =>
        obtain ⟨x3, b3⟩ := v3
        rintro e Y3 ⟨u3, rfl, rfl, hb3, hm3⟩
        have HH3 := Lib.hid (HH1.out.read hb3 hm3 (rNum_at EE3.out))
        have hk3 := HKK3.out
        simp only [bR_ok] at hk3
        have HK3 := Lib.hid hk3
        clear hb3 hm3 hk3 C3 HKK3 
        by_cases hv : x3 = 5
        · have hx5 : (x3 != 5) = false := by simp [hv]
          have hk := HK3.out
          rw [if_neg (show ¬ x3 ≠ 5 from fun c => c hv)] at hk
          have HK4 := Lib.hid hk; clear hk
          clear hv
          obtain ⟨r5, e5⟩ : ∃ r, rNum s 1 b3 = r := ⟨_, rfl⟩
          have C5 := Lib.hid (rnum_any R s b3 1 Y3 HH3.out.rB HH3.out.sz HH3.out.a0 HH3.out.a1)
          rw [e5] at C5
          have hk5 := HK4.out
          rw [e5] at hk5
          have EE5 := Lib.hid e5
          clear e5
          have HKK5 := Lib.hid hk5; clear hk5
          go_wp2_with (first | (fail))
          (with_reducible refine C5.out.mono ?_)
          cases r5 with
          | error c =>
            rintro e Y5 ⟨rfl, hm5⟩
            refine ⟨rfl, ?_⟩
            have hk := HKK5.out
            simp only [bR_err] at hk
            rw [← hk]
            exact ⟨rfl, HH3.out.goneR hm5⟩
          | ok v5 =>
            obtain ⟨x5, b5⟩ := v5
            rintro e Y5 ⟨u5, rfl, rfl, hb5, hm5⟩
            have HH5 := Lib.hid (HH3.out.read hb5 hm5 (rNum_at EE5.out))
            have hk5 := HKK5.out
            simp only [bR_ok] at hk5
            have HK5 := Lib.hid hk5
            clear hb5 hm5 hk5 C5 HKK5 
            obtain ⟨hby0, hby1⟩ := rNum_byte EE5.out
            obtain ⟨c1, c2, c3, c4, c5, z1, z56, wq, e2, e4, e64, e128, e32, e1, e56, e8, hbad, hset⟩ := conn_flags hby0 hby1
            have HBAD := Lib.hid hbad; have HSET := Lib.hid hset
            clear hbad hset
            have c6 : Y5.cell? ⟨P, 11, none⟩ = some (.bool (p.clean)) := HH5.out.pB.cell 11
            have f6 := HH5.out.pB.frozen 11
            obtain ⟨q6, eq6⟩ : ∃ q : Pk, { p with clean := c1 } = q := ⟨_, rfl⟩
            obtain ⟨Z6, z6⟩ : ∃ Z, Y5.setCell ⟨P, 11, none⟩ (.bool (c1)) = Z := ⟨_, rfl⟩
            have hh6 := HH5.out.set 11 (.bool (c1)) ({ p with clean := c1 }) (m) rfl ⟨HH5.out.o.ps, HH5.out.o.wps, HH5.out.o.cs, HH5.out.o.ss, HH5.out.o.fs⟩
            rw [z6, eq6] at hh6
            have HH6 := Lib.hid hh6
            have EQ6 := Lib.hid eq6
            clear hh6 eq6
            have c7 : Z6.cell? ⟨P, 13, none⟩ = some (.bool (q6.hasWill)) := HH6.out.pB.cell 13
            have f7 := HH6.out.pB.frozen 13
            obtain ⟨q7, eq7⟩ : ∃ q : Pk, { q6 with hasWill := c2 } = q := ⟨_, rfl⟩
            obtain ⟨Z7, z7⟩ : ∃ Z, Z6.setCell ⟨P, 13, none⟩ (.bool (c2)) = Z := ⟨_, rfl⟩
            have hh7 := HH6.out.set 13 (.bool (c2)) ({ q6 with hasWill := c2 }) (m) rfl ⟨HH6.out.o.ps, HH6.out.o.wps, HH6.out.o.cs, HH6.out.o.ss, HH6.out.o.fs⟩
            rw [z7, eq7] at hh7
            have HH7 := Lib.hid hh7
            have EQ7 := Lib.hid eq7
            clear hh7 eq7
            have c8 : Z7.cell? ⟨P, 20, none⟩ = some (.bool (q7.hasPass)) := HH7.out.pB.cell 20
            have f8 := HH7.out.pB.frozen 20
            obtain ⟨q8, eq8⟩ : ∃ q : Pk, { q7 with hasPass := c3 } = q := ⟨_, rfl⟩
            obtain ⟨Z8, z8⟩ : ∃ Z, Z7.setCell ⟨P, 20, none⟩ (.bool (c3)) = Z := ⟨_, rfl⟩
            have hh8 := HH7.out.set 20 (.bool (c3)) ({ q7 with hasPass := c3 }) (m) rfl ⟨HH7.out.o.ps, HH7.out.o.wps, HH7.out.o.cs, HH7.out.o.ss, HH7.out.o.fs⟩
            rw [z8, eq8] at hh8
            have HH8 := Lib.hid hh8
            have EQ8 := Lib.hid eq8
            clear hh8 eq8
            have c9 : Z8.cell? ⟨P, 19, none⟩ = some (.bool (q8.hasUser)) := HH8.out.pB.cell 19
            have f9 := HH8.out.pB.frozen 19
            obtain ⟨q9, eq9⟩ : ∃ q : Pk, { q8 with hasUser := c4 } = q := ⟨_, rfl⟩
            obtain ⟨Z9, z9⟩ : ∃ Z, Z8.setCell ⟨P, 19, none⟩ (.bool (c4)) = Z := ⟨_, rfl⟩
            have hh9 := HH8.out.set 19 (.bool (c4)) ({ q8 with hasUser := c4 }) (m) rfl ⟨HH8.out.o.ps, HH8.out.o.wps, HH8.out.o.cs, HH8.out.o.ss, HH8.out.o.fs⟩
            rw [z9, eq9] at hh9
            have HH9 := Lib.hid hh9
            have EQ9 := Lib.hid eq9
            clear hh9 eq9
            have c10 : Z9.cell? ⟨P, 16, none⟩ = some (.int .i64 (q9.wq)) := HH9.out.pB.cell 16
            have f10 := HH9.out.pB.frozen 16
            obtain ⟨q10, eq10⟩ : ∃ q : Pk, { q9 with wq := wq } = q := ⟨_, rfl⟩
            obtain ⟨Z10, z10⟩ : ∃ Z, Z9.setCell ⟨P, 16, none⟩ (.int .i64 (wq)) = Z := ⟨_, rfl⟩
            have hh10 := HH9.out.set 16 (.int .i64 (wq)) ({ q9 with wq := wq }) (m) rfl ⟨HH9.out.o.ps, HH9.out.o.wps, HH9.out.o.cs, HH9.out.o.ss, HH9.out.o.fs⟩
            rw [z10, eq10] at hh10
            have HH10 := Lib.hid hh10
            have EQ10 := Lib.hid eq10
            clear hh10 eq10
            have c11 : Z10.cell? ⟨P, 17, none⟩ = some (.bool (q10.wr)) := HH10.out.pB.cell 17
            have f11 := HH10.out.pB.frozen 17
            obtain ⟨q11, eq11⟩ : ∃ q : Pk, { q10 with wr := c5 } = q := ⟨_, rfl⟩
            obtain ⟨Z11, z11⟩ : ∃ Z, Z10.setCell ⟨P, 17, none⟩ (.bool (c5)) = Z := ⟨_, rfl⟩
            have hh11 := HH10.out.set 17 (.bool (c5)) ({ q10 with wr := c5 }) (m) rfl ⟨HH10.out.o.ps, HH10.out.o.wps, HH10.out.o.cs, HH10.out.o.ss, HH10.out.o.fs⟩
            rw [z11, eq11] at hh11
            have HH11 := Lib.hid hh11
            have EQ11 := Lib.hid eq11
            clear hh11 eq11
            have hk := HK5.out
            rw [HSET.out, show ({ p with clean := c1, hasWill := c2, hasPass := c3, hasUser := c4, wq := wq, wr := c5 } : Pk) = q11 from by rw [← EQ11.out, ← EQ10.out, ← EQ9.out, ← EQ8.out, ← EQ7.out, ← EQ6.out]] at hk
            have HK12 := Lib.hid hk; clear hk
            have hwl : q11.hasWill = c2 := by rw [← EQ11.out, ← EQ10.out, ← EQ9.out, ← EQ8.out, ← EQ7.out, ← EQ6.out]
            have hus : q11.hasUser = c4 := by rw [← EQ11.out, ← EQ10.out, ← EQ9.out, ← EQ8.out, ← EQ7.out, ← EQ6.out]
            have hpa : q11.hasPass = c3 := by rw [← EQ11.out, ← EQ10.out, ← EQ9.out, ← EQ8.out, ← EQ7.out, ← EQ6.out]
            have hwq : q11.wq = wq := by rw [← EQ11.out, ← EQ10.out, ← EQ9.out, ← EQ8.out, ← EQ7.out, ← EQ6.out]
            have HWL := Lib.hid hwl; have HUS := Lib.hid hus; have HPA := Lib.hid hpa; have HWQ := Lib.hid hwq
            clear hwl hus hpa hwq
            cases z1
            · have hk := HK12.out
              rw [if_pos (HBAD.out.2 (fun c => by cases c.1))] at hk
              have HK13 := Lib.hid hk; clear hk
              have l14 : Z11.cell? ⟨P, 13, none⟩ = some (.bool (c2)) := (HH11.out.pB.cell 13).trans (by show some (Value.bool (q11.hasWill)) = _; rw [HWL.out])
              have l15 : Z11.cell? ⟨P, 16, none⟩ = some (.int .i64 (wq)) := (HH11.out.pB.cell 16).trans (by show some (Value.int .i64 (q11.wq)) = _; rw [HWQ.out])
              go_wp2_with (first | (go_at_call 34; (with_reducible refine (must_false _).mono ?_); rintro e YM ⟨rfl, rfl⟩) | (fail))
              refine ⟨rfl, ?_⟩
              have hk := HK13.out
              rw [← hk]
              exact ⟨rfl, HH11.out.gone⟩
            · by_cases hq3 : wq < 3
              · cases c2
                · cases z56
                  · have hk := HK12.out
                    rw [if_pos (HBAD.out.2 (fun c => by rcases c.2.2 with d | d <;> cases d))] at hk
                    have HK16 := Lib.hid hk; clear hk
                    have l17 : Z11.cell? ⟨P, 13, none⟩ = some (.bool (false)) := (HH11.out.pB.cell 13).trans (by show some (Value.bool (q11.hasWill)) = _; rw [HWL.out])
                    have l18 : Z11.cell? ⟨P, 16, none⟩ = some (.int .i64 (wq)) := (HH11.out.pB.cell 16).trans (by show some (Value.int .i64 (q11.wq)) = _; rw [HWQ.out])
                    go_wp2_with (first | (go_at_call 34; (with_reducible refine (must_false _).mono ?_); rintro e YM ⟨rfl, rfl⟩) | (fail))
                    refine ⟨rfl, ?_⟩
                    have hk := HK16.out
                    rw [← hk]
                    exact ⟨rfl, HH11.out.gone⟩
                  · have hk := HK12.out
                    rw [if_neg (fun c => HBAD.out.1 c ⟨rfl, hq3, .inr rfl⟩)] at hk
                    have HK19 := Lib.hid hk; clear hk
                    have l20 : Z11.cell? ⟨P, 13, none⟩ = some (.bool (false)) := (HH11.out.pB.cell 13).trans (by show some (Value.bool (q11.hasWill)) = _; rw [HWL.out])
                    have l21 : Z11.cell? ⟨P, 16, none⟩ = some (.int .i64 (wq)) := (HH11.out.pB.cell 16).trans (by show some (Value.int .i64 (q11.wq)) = _; rw [HWQ.out])
                    have hk := HK19.out
                    unfold rKeep at hk
                    have HK22 := Lib.hid hk; clear hk
                    obtain ⟨r23, e23⟩ : ∃ r, rNum s 2 b5 = r := ⟨_, rfl⟩
                    have C23 := Lib.hid (rnum_any R s b5 2 Z11 HH11.out.rB HH11.out.sz HH11.out.a0 HH11.out.a1)
                    rw [e23] at C23
                    have hk23 := HK22.out
                    rw [e23] at hk23
                    have EE23 := Lib.hid e23
                    clear e23
                    have HKK23 := Lib.hid hk23; clear hk23
                    go_wp2_with (first | (go_at_call 34; (with_reducible refine (must_true _).mono ?_); rintro e YM ⟨rfl, rfl⟩) | (fail))
                    (with_reducible refine C23.out.mono ?_)
                    cases r23 with
                    | error c =>
                      rintro e Y23 ⟨rfl, hm23⟩
                      refine ⟨rfl, ?_⟩
                      have hk := HKK23.out
                      simp only [bR_err] at hk
                      rw [← hk]
                      exact ⟨rfl, HH11.out.goneR hm23⟩
                    | ok v23 =>
                      obtain ⟨x23, b23⟩ := v23
                      rintro e Y23 ⟨u23, rfl, rfl, hb23, hm23⟩
                      have HH23 := Lib.hid (HH11.out.read hb23 hm23 (rNum_at EE23.out))
                      have hk23 := HKK23.out
                      simp only [bR_ok] at hk23
                      have HK23 := Lib.hid hk23
                      clear hb23 hm23 hk23 C23 HKK23 c6 f6 z6 c7 f7 z7 c8 f8 z8 c9 f9 z9 c10 f10 z10 c11 f11 z11 l20 l21
                      have c24 : Y23.cell? ⟨P, 12, none⟩ = some (.int .i64 (q11.keep)) := HH23.out.pB.cell 12
                      have f24 := HH23.out.pB.frozen 12
                      obtain ⟨q24, eq24⟩ : ∃ q : Pk, { q11 with keep := x23 } = q := ⟨_, rfl⟩
                      obtain ⟨Z24, z24⟩ : ∃ Z, Y23.setCell ⟨P, 12, none⟩ (.int .i64 (x23)) = Z := ⟨_, rfl⟩
                      have hh24 := HH23.out.set 12 (.int .i64 (x23)) ({ q11 with keep := x23 }) (m) rfl ⟨HH23.out.o.ps, HH23.out.o.wps, HH23.out.o.cs, HH23.out.o.ss, HH23.out.o.fs⟩
                      rw [z24, eq24] at hh24
                      have HH24 := Lib.hid hh24
                      have EQ24 := Lib.hid eq24
                      clear hh24 eq24
                      obtain ⟨r25, e25⟩ : ∃ r, rProps 1 s b23 = r := ⟨_, rfl⟩
                      have C25 := Lib.hid (rprops_any R s b23 1 Z24 HH24.out.rB HH24.out.sz HH24.out.a0 HH24.out.a1 HH24.out.tb)
                      rw [e25] at C25
                      have hk25 := HK23.out
                      rw [e25] at hk25
                      have EE25 := Lib.hid e25
                      clear e25
                      have HKK25 := Lib.hid hk25; clear hk25
                      go_wp2_with (first | (fail))
                      (with_reducible refine C25.out.mono ?_)
                      cases r25 with
                      | error c =>
                        rintro e Y25 ⟨rfl, hm25⟩
                        refine ⟨rfl, ?_⟩
                        have hk := HKK25.out
                        simp only [bR_err] at hk
                        rw [← hk]
                        exact ⟨rfl, HH24.out.goneR hm25⟩
                      | ok v25 =>
                        obtain ⟨x25, b25⟩ := v25
                        rintro e Y25 ⟨u25, rfl, hps25, hb25, hm25⟩
                        have HH25 := Lib.hid (HH24.out.read hb25 hm25 (rProps_at EE25.out HH24.out.a0))
                        have hk25 := HKK25.out
                        simp only [bR_ok] at hk25
                        have HK25 := Lib.hid hk25
                        obtain ⟨ao25, cp25, rfl, -⟩ := hps25.form
                        have HS25 := Lib.hid (hps25.mono' HH24.out.md.size)
                        clear hps25
                        clear hb25 hm25 hk25 C25 HKK25 c24 f24 z24
                        have c26 : Y25.cell? ⟨P, 9, none⟩ = some (.slice m.p.A m.p.n m.p.cap) := HH25.out.pB.cell 9
                        have f26 := HH25.out.pB.frozen 9
                        obtain ⟨q26, eq26⟩ : ∃ q : Pk, { q24 with ps := x25 } = q := ⟨_, rfl⟩
                        obtain ⟨Z26, z26⟩ : ∃ Z, Y25.setCell ⟨P, 9, none⟩ (.slice ao25 x25.length cp25) = Z := ⟨_, rfl⟩
                        have hh26 := HH25.out.set 9 (.slice ao25 x25.length cp25) ({ q24 with ps := x25 }) ({ m with p := ⟨ao25, x25.length, cp25⟩ }) rfl ⟨HS25.out, HH25.out.o.wps, HH25.out.o.cs, HH25.out.o.ss, HH25.out.o.fs⟩
                        obtain ⟨M26, em26⟩ : ∃ M : Hs, { m with p := ⟨ao25, x25.length, cp25⟩ } = M := ⟨_, rfl⟩
                        rw [z26, eq26, em26] at hh26
                        clear em26
                        have HH26 := Lib.hid hh26
                        have EQ26 := Lib.hid eq26
                        clear hh26 eq26
                        obtain ⟨r27, e27⟩ : ∃ r, rText s b25 = r := ⟨_, rfl⟩
                        have C27 := Lib.hid (rtext_any R s b25 Z26 HH26.out.rB HH26.out.sz HH26.out.a0 HH26.out.a1 (HH26.out.drew 1).tb)
                        rw [e27] at C27
                        have hk27 := HK25.out
                        rw [e27] at hk27
                        have EE27 := Lib.hid e27
                        clear e27
                        have HKK27 := Lib.hid hk27; clear hk27
                        go_wp2_with (first | (fail))
                        (with_reducible refine C27.out.mono ?_)
                        cases r27 with
                        | error c =>
                          rintro e Y27 ⟨rfl, hm27⟩
                          refine ⟨rfl, ?_⟩
                          have hk := HKK27.out
                          simp only [bR_err] at hk
                          rw [← hk]
                          exact ⟨rfl, HH26.out.goneR hm27⟩
                        | ok v27 =>
                          obtain ⟨x27, b27⟩ := v27
                          rintro e Y27 ⟨u27, rfl, rfl, hb27, hm27⟩
                          have HH27 := Lib.hid (HH26.out.read hb27 hm27 (rText_at EE27.out))
                          have hk27 := HKK27.out
                          simp only [bR_ok] at hk27
                          have HK27 := Lib.hid hk27
                          clear hb27 hm27 hk27 C27 HKK27 c26 f26 z26
                          have c28 : Y27.cell? ⟨P, 10, none⟩ = some (.string (q26.client)) := HH27.out.pB.cell 10
                          have f28 := HH27.out.pB.frozen 10
                          obtain ⟨q28, eq28⟩ : ∃ q : Pk, { q26 with client := x27 } = q := ⟨_, rfl⟩
                          obtain ⟨Z28, z28⟩ : ∃ Z, Y27.setCell ⟨P, 10, none⟩ (.string (x27)) = Z := ⟨_, rfl⟩
                          have hh28 := HH27.out.set 10 (.string (x27)) ({ q26 with client := x27 }) (M26) rfl ⟨HH27.out.o.ps, HH27.out.o.wps, HH27.out.o.cs, HH27.out.o.ss, HH27.out.o.fs⟩
                          rw [z28, eq28] at hh28
                          have HH28 := Lib.hid hh28
                          have EQ28 := Lib.hid eq28
                          clear hh28 eq28
                          have hk29 := HK27.out
                          rw [show ({ q11 with keep := x23, ps := x25, client := x27 } : Pk) = q28 from by rw [← EQ28.out, ← EQ26.out, ← EQ24.out]] at hk29
                          have HK29 := Lib.hid hk29
                          clear hk29
                          have HWL2 := Lib.hid (show q28.hasWill = false from by rw [← EQ28.out, ← EQ26.out, ← EQ24.out]; exact HWL.out)
                          have HUS2 := Lib.hid (show q28.hasUser = c4 from by rw [← EQ28.out, ← EQ26.out, ← EQ24.out]; exact HUS.out)
                          have HPA2 := Lib.hid (show q28.hasPass = c3 from by rw [← EQ28.out, ← EQ26.out, ← EQ24.out]; exact HPA.out)
                          have hk := HK29.out
                          unfold rWill at hk
                          have HK30 := Lib.hid hk; clear hk
                          have l31 : Z28.cell? ⟨P, 13, none⟩ = some (.bool (false)) := (HH28.out.pB.cell 13).trans (by show some (Value.bool (q28.hasWill)) = _; rw [HWL2.out])
                          have hk := HK30.out
                          rw [if_neg (by rw [HWL2.out]; decide)] at hk
                          have HK32 := Lib.hid hk; clear hk
                          have HUS3 := HUS2; have HPA3 := HPA2
                          have hk := HK32.out
                          unfold rUser at hk
                          have HK33 := Lib.hid hk; clear hk
                          cases c4
                          · have l34 : Z28.cell? ⟨P, 19, none⟩ = some (.bool (false)) := (HH28.out.pB.cell 19).trans (by show some (Value.bool (q28.hasUser)) = _; rw [HUS3.out])
                            have hk := HK33.out
                            rw [if_neg (by rw [HUS3.out]; decide)] at hk
                            have HK35 := Lib.hid hk; clear hk
                            have HPA4 := HPA3
                            have hk := HK35.out
                            unfold rPass at hk
                            have HK36 := Lib.hid hk; clear hk
                            cases c3
                            · have l37 : Z28.cell? ⟨P, 20, none⟩ = some (.bool (false)) := (HH28.out.pB.cell 20).trans (by show some (Value.bool (q28.hasPass)) = _; rw [HPA4.out])
                              have hk := HK36.out
                              rw [if_neg (by rw [HPA4.out]; decide)] at hk
                              have HK38 := Lib.hid hk; clear hk
                              go_wp2
                              go_end0
                              have hk := HK38.out
                              rw [← hk]
                              exact ⟨rfl, _, HH28.out⟩
                            · have l39 : Z28.cell? ⟨P, 20, none⟩ = some (.bool (true)) := (HH28.out.pB.cell 20).trans (by show some (Value.bool (q28.hasPass)) = _; rw [HPA4.out])
                              have hk := HK36.out
                              rw [if_pos HPA4.out] at hk
                              have HK40 := Lib.hid hk; clear hk
                              obtain ⟨r41, e41⟩ : ∃ r, rData s b27 = r := ⟨_, rfl⟩
                              have C41 := Lib.hid (rdata_any R s b27 Z28 HH28.out.rB HH28.out.sz HH28.out.a0 HH28.out.a1)
                              rw [e41] at C41
                              have hk41 := HK40.out
                              rw [e41] at hk41
                              have EE41 := Lib.hid e41
                              clear e41
                              have HKK41 := Lib.hid hk41; clear hk41
                              go_wp2_with (first | (fail))
                              (with_reducible refine C41.out.mono ?_)
                              cases r41 with
                              | error c =>
                                rintro e Y41 ⟨rfl, hm41⟩
                                refine ⟨rfl, ?_⟩
                                have hk := HKK41.out
                                simp only [bR_err] at hk
                                rw [← hk]
                                exact ⟨rfl, HH28.out.goneR hm41⟩
                              | ok v41 =>
                                obtain ⟨x41, b41⟩ := v41
                                rintro e Y41 ⟨u41, rfl, rfl, hb41, hm41⟩
                                have HH41 := Lib.hid (HH28.out.read hb41 hm41 (rData_at EE41.out))
                                have hk41 := HKK41.out
                                simp only [bR_ok] at hk41
                                have HK41 := Lib.hid hk41
                                clear hb41 hm41 hk41 C41 HKK41 c28 f28 z28 l31 l34 l39
                                have c42 : Y41.cell? ⟨P, 22, none⟩ = some (.string (q28.pass)) := HH41.out.pB.cell 22
                                have f42 := HH41.out.pB.frozen 22
                                obtain ⟨q42, eq42⟩ : ∃ q : Pk, { q28 with pass := x41 } = q := ⟨_, rfl⟩
                                obtain ⟨Z42, z42⟩ : ∃ Z, Y41.setCell ⟨P, 22, none⟩ (.string (x41)) = Z := ⟨_, rfl⟩
                                have hh42 := HH41.out.set 22 (.string (x41)) ({ q28 with pass := x41 }) (M26) rfl ⟨HH41.out.o.ps, HH41.out.o.wps, HH41.out.o.cs, HH41.out.o.ss, HH41.out.o.fs⟩
                                rw [z42, eq42] at hh42
                                have HH42 := Lib.hid hh42
                                have EQ42 := Lib.hid eq42
                                clear hh42 eq42
                                have hk43 := HK41.out
                                rw [show ({ q28 with pass := x41 } : Pk) = q42 from by rw [← EQ42.out]] at hk43
                                have HK43 := Lib.hid hk43
                                clear hk43
                                go_wp2
                                go_end0
                                have hk := HK43.out
                                rw [← hk]
                                exact ⟨rfl, _, HH42.out⟩
                          · have l44 : Z28.cell? ⟨P, 19, none⟩ = some (.bool (true)) := (HH28.out.pB.cell 19).trans (by show some (Value.bool (q28.hasUser)) = _; rw [HUS3.out])
                            have hk := HK33.out
                            rw [if_pos HUS3.out] at hk
                            have HK45 := Lib.hid hk; clear hk
                            obtain ⟨r46, e46⟩ : ∃ r, rText s b27 = r := ⟨_, rfl⟩
                            have C46 := Lib.hid (rtext_any R s b27 Z28 HH28.out.rB HH28.out.sz HH28.out.a0 HH28.out.a1 (HH28.out.drew 1).tb)
                            rw [e46] at C46
                            have hk46 := HK45.out
                            rw [e46] at hk46
                            have EE46 := Lib.hid e46
                            clear e46
                            have HKK46 := Lib.hid hk46; clear hk46
                            go_wp2_with (first | (fail))
                            (with_reducible refine C46.out.mono ?_)
                            cases r46 with
                            | error c =>
                              rintro e Y46 ⟨rfl, hm46⟩
                              refine ⟨rfl, ?_⟩
                              have hk := HKK46.out
                              simp only [bR_err] at hk
                              rw [← hk]
                              exact ⟨rfl, HH28.out.goneR hm46⟩
                            | ok v46 =>
                              obtain ⟨x46, b46⟩ := v46
                              rintro e Y46 ⟨u46, rfl, rfl, hb46, hm46⟩
                              have HH46 := Lib.hid (HH28.out.read hb46 hm46 (rText_at EE46.out))
                              have hk46 := HKK46.out
                              simp only [bR_ok] at hk46
                              have HK46 := Lib.hid hk46
                              clear hb46 hm46 hk46 C46 HKK46 c28 f28 z28 l31 l44
                              have c47 : Y46.cell? ⟨P, 21, none⟩ = some (.string (q28.user)) := HH46.out.pB.cell 21
                              have f47 := HH46.out.pB.frozen 21
                              obtain ⟨q47, eq47⟩ : ∃ q : Pk, { q28 with user := x46 } = q := ⟨_, rfl⟩
                              obtain ⟨Z47, z47⟩ : ∃ Z, Y46.setCell ⟨P, 21, none⟩ (.string (x46)) = Z := ⟨_, rfl⟩
                              have hh47 := HH46.out.set 21 (.string (x46)) ({ q28 with user := x46 }) (M26) rfl ⟨HH46.out.o.ps, HH46.out.o.wps, HH46.out.o.cs, HH46.out.o.ss, HH46.out.o.fs⟩
                              rw [z47, eq47] at hh47
                              have HH47 := Lib.hid hh47
                              have EQ47 := Lib.hid eq47
                              clear hh47 eq47
                              have hk48 := HK46.out
                              rw [show ({ q28 with user := x46 } : Pk) = q47 from by rw [← EQ47.out]] at hk48
                              have HK48 := Lib.hid hk48
                              clear hk48
                              have HPA4 := Lib.hid (show q47.hasPass = c3 from by rw [← EQ47.out]; exact HPA3.out)
                              have hk := HK48.out
                              unfold rPass at hk
                              have HK49 := Lib.hid hk; clear hk
                              cases c3
                              · have l50 : Z47.cell? ⟨P, 20, none⟩ = some (.bool (false)) := (HH47.out.pB.cell 20).trans (by show some (Value.bool (q47.hasPass)) = _; rw [HPA4.out])
                                have hk := HK49.out
                                rw [if_neg (by rw [HPA4.out]; decide)] at hk
                                have HK51 := Lib.hid hk; clear hk
                                go_wp2
                                go_end0
                                have hk := HK51.out
                                rw [← hk]
                                exact ⟨rfl, _, HH47.out⟩
                              · have l52 : Z47.cell? ⟨P, 20, none⟩ = some (.bool (true)) := (HH47.out.pB.cell 20).trans (by show some (Value.bool (q47.hasPass)) = _; rw [HPA4.out])
                                have hk := HK49.out
                                rw [if_pos HPA4.out] at hk
                                have HK53 := Lib.hid hk; clear hk
                                obtain ⟨r54, e54⟩ : ∃ r, rData s b46 = r := ⟨_, rfl⟩
                                have C54 := Lib.hid (rdata_any R s b46 Z47 HH47.out.rB HH47.out.sz HH47.out.a0 HH47.out.a1)
                                rw [e54] at C54
                                have hk54 := HK53.out
                                rw [e54] at hk54
                                have EE54 := Lib.hid e54
                                clear e54
                                have HKK54 := Lib.hid hk54; clear hk54
                                go_wp2_with (first | (fail))
                                (with_reducible refine C54.out.mono ?_)
                                cases r54 with
                                | error c =>
                                  rintro e Y54 ⟨rfl, hm54⟩
                                  refine ⟨rfl, ?_⟩
                                  have hk := HKK54.out
                                  simp only [bR_err] at hk
                                  rw [← hk]
                                  exact ⟨rfl, HH47.out.goneR hm54⟩
                                | ok v54 =>
                                  obtain ⟨x54, b54⟩ := v54
                                  rintro e Y54 ⟨u54, rfl, rfl, hb54, hm54⟩
                                  have HH54 := Lib.hid (HH47.out.read hb54 hm54 (rData_at EE54.out))
                                  have hk54 := HKK54.out
                                  simp only [bR_ok] at hk54
                                  have HK54 := Lib.hid hk54
                                  clear hb54 hm54 hk54 C54 HKK54 c47 f47 z47 l52
                                  have c55 : Y54.cell? ⟨P, 22, none⟩ = some (.string (q47.pass)) := HH54.out.pB.cell 22
                                  have f55 := HH54.out.pB.frozen 22
                                  obtain ⟨q55, eq55⟩ : ∃ q : Pk, { q47 with pass := x54 } = q := ⟨_, rfl⟩
                                  obtain ⟨Z55, z55⟩ : ∃ Z, Y54.setCell ⟨P, 22, none⟩ (.string (x54)) = Z := ⟨_, rfl⟩
                                  have hh55 := HH54.out.set 22 (.string (x54)) ({ q47 with pass := x54 }) (M26) rfl ⟨HH54.out.o.ps, HH54.out.o.wps, HH54.out.o.cs, HH54.out.o.ss, HH54.out.o.fs⟩
                                  rw [z55, eq55] at hh55
                                  have HH55 := Lib.hid hh55
                                  have EQ55 := Lib.hid eq55
                                  clear hh55 eq55
                                  have hk56 := HK54.out
                                  rw [show ({ q47 with pass := x54 } : Pk) = q55 from by rw [← EQ55.out]] at hk56
                                  have HK56 := Lib.hid hk56
                                  clear hk56
                                  go_wp2
                                  go_end0
                                  have hk := HK56.out
                                  rw [← hk]
                                  exact ⟨rfl, _, HH55.out⟩
                · have hk := HK12.out
                  rw [if_neg (fun c => HBAD.out.1 c ⟨rfl, hq3, .inl rfl⟩)] at hk
                  have HK57 := Lib.hid hk; clear hk
                  have l58 : Z11.cell? ⟨P, 13, none⟩ = some (.bool (true)) := (HH11.out.pB.cell 13).trans (by show some (Value.bool (q11.hasWill)) = _; rw [HWL.out])
                  have l59 : Z11.cell? ⟨P, 16, none⟩ = some (.int .i64 (wq)) := (HH11.out.pB.cell 16).trans (by show some (Value.int .i64 (q11.wq)) = _; rw [HWQ.out])
                  have hk := HK57.out
                  unfold rKeep at hk
                  have HK60 := Lib.hid hk; clear hk
                  obtain ⟨r61, e61⟩ : ∃ r, rNum s 2 b5 = r := ⟨_, rfl⟩
                  have C61 := Lib.hid (rnum_any R s b5 2 Z11 HH11.out.rB HH11.out.sz HH11.out.a0 HH11.out.a1)
                  rw [e61] at C61
                  have hk61 := HK60.out
                  rw [e61] at hk61
                  have EE61 := Lib.hid e61
                  clear e61
                  have HKK61 := Lib.hid hk61; clear hk61
                  go_wp2_with (first | (go_at_call 34; (with_reducible refine (must_true _).mono ?_); rintro e YM ⟨rfl, rfl⟩) | (fail))
                  (with_reducible refine C61.out.mono ?_)
                  cases r61 with
                  | error c =>
                    rintro e Y61 ⟨rfl, hm61⟩
                    refine ⟨rfl, ?_⟩
                    have hk := HKK61.out
                    simp only [bR_err] at hk
                    rw [← hk]
                    exact ⟨rfl, HH11.out.goneR hm61⟩
                  | ok v61 =>
                    obtain ⟨x61, b61⟩ := v61
                    rintro e Y61 ⟨u61, rfl, rfl, hb61, hm61⟩
                    have HH61 := Lib.hid (HH11.out.read hb61 hm61 (rNum_at EE61.out))
                    have hk61 := HKK61.out
                    simp only [bR_ok] at hk61
                    have HK61 := Lib.hid hk61
                    clear hb61 hm61 hk61 C61 HKK61 c6 f6 z6 c7 f7 z7 c8 f8 z8 c9 f9 z9 c10 f10 z10 c11 f11 z11 l58 l59
                    have c62 : Y61.cell? ⟨P, 12, none⟩ = some (.int .i64 (q11.keep)) := HH61.out.pB.cell 12
                    have f62 := HH61.out.pB.frozen 12
                    obtain ⟨q62, eq62⟩ : ∃ q : Pk, { q11 with keep := x61 } = q := ⟨_, rfl⟩
                    obtain ⟨Z62, z62⟩ : ∃ Z, Y61.setCell ⟨P, 12, none⟩ (.int .i64 (x61)) = Z := ⟨_, rfl⟩
                    have hh62 := HH61.out.set 12 (.int .i64 (x61)) ({ q11 with keep := x61 }) (m) rfl ⟨HH61.out.o.ps, HH61.out.o.wps, HH61.out.o.cs, HH61.out.o.ss, HH61.out.o.fs⟩
                    rw [z62, eq62] at hh62
                    have HH62 := Lib.hid hh62
                    have EQ62 := Lib.hid eq62
                    clear hh62 eq62
                    obtain ⟨r63, e63⟩ : ∃ r, rProps 1 s b61 = r := ⟨_, rfl⟩
                    have C63 := Lib.hid (rprops_any R s b61 1 Z62 HH62.out.rB HH62.out.sz HH62.out.a0 HH62.out.a1 HH62.out.tb)
                    rw [e63] at C63
                    have hk63 := HK61.out
                    rw [e63] at hk63
                    have EE63 := Lib.hid e63
                    clear e63
                    have HKK63 := Lib.hid hk63; clear hk63
                    go_wp2_with (first | (fail))
                    (with_reducible refine C63.out.mono ?_)
                    cases r63 with
                    | error c =>
                      rintro e Y63 ⟨rfl, hm63⟩
                      refine ⟨rfl, ?_⟩
                      have hk := HKK63.out
                      simp only [bR_err] at hk
                      rw [← hk]
                      exact ⟨rfl, HH62.out.goneR hm63⟩
                    | ok v63 =>
                      obtain ⟨x63, b63⟩ := v63
                      rintro e Y63 ⟨u63, rfl, hps63, hb63, hm63⟩
                      have HH63 := Lib.hid (HH62.out.read hb63 hm63 (rProps_at EE63.out HH62.out.a0))
                      have hk63 := HKK63.out
                      simp only [bR_ok] at hk63
                      have HK63 := Lib.hid hk63
                      obtain ⟨ao63, cp63, rfl, -⟩ := hps63.form
                      have HS63 := Lib.hid (hps63.mono' HH62.out.md.size)
                      clear hps63
                      clear hb63 hm63 hk63 C63 HKK63 c62 f62 z62
                      have c64 : Y63.cell? ⟨P, 9, none⟩ = some (.slice m.p.A m.p.n m.p.cap) := HH63.out.pB.cell 9
                      have f64 := HH63.out.pB.frozen 9
                      obtain ⟨q64, eq64⟩ : ∃ q : Pk, { q62 with ps := x63 } = q := ⟨_, rfl⟩
                      obtain ⟨Z64, z64⟩ : ∃ Z, Y63.setCell ⟨P, 9, none⟩ (.slice ao63 x63.length cp63) = Z := ⟨_, rfl⟩
                      have hh64 := HH63.out.set 9 (.slice ao63 x63.length cp63) ({ q62 with ps := x63 }) ({ m with p := ⟨ao63, x63.length, cp63⟩ }) rfl ⟨HS63.out, HH63.out.o.wps, HH63.out.o.cs, HH63.out.o.ss, HH63.out.o.fs⟩
                      obtain ⟨M64, em64⟩ : ∃ M : Hs, { m with p := ⟨ao63, x63.length, cp63⟩ } = M := ⟨_, rfl⟩
                      rw [z64, eq64, em64] at hh64
                      clear em64
                      have HH64 := Lib.hid hh64
                      have EQ64 := Lib.hid eq64
                      clear hh64 eq64
                      obtain ⟨r65, e65⟩ : ∃ r, rText s b63 = r := ⟨_, rfl⟩
                      have C65 := Lib.hid (rtext_any R s b63 Z64 HH64.out.rB HH64.out.sz HH64.out.a0 HH64.out.a1 (HH64.out.drew 1).tb)
                      rw [e65] at C65
                      have hk65 := HK63.out
                      rw [e65] at hk65
                      have EE65 := Lib.hid e65
                      clear e65
                      have HKK65 := Lib.hid hk65; clear hk65
                      go_wp2_with (first | (fail))
                      (with_reducible refine C65.out.mono ?_)
                      cases r65 with
                      | error c =>
                        rintro e Y65 ⟨rfl, hm65⟩
                        refine ⟨rfl, ?_⟩
                        have hk := HKK65.out
                        simp only [bR_err] at hk
                        rw [← hk]
                        exact ⟨rfl, HH64.out.goneR hm65⟩
                      | ok v65 =>
                        obtain ⟨x65, b65⟩ := v65
                        rintro e Y65 ⟨u65, rfl, rfl, hb65, hm65⟩
                        have HH65 := Lib.hid (HH64.out.read hb65 hm65 (rText_at EE65.out))
                        have hk65 := HKK65.out
                        simp only [bR_ok] at hk65
                        have HK65 := Lib.hid hk65
                        clear hb65 hm65 hk65 C65 HKK65 c64 f64 z64
                        have c66 : Y65.cell? ⟨P, 10, none⟩ = some (.string (q64.client)) := HH65.out.pB.cell 10
                        have f66 := HH65.out.pB.frozen 10
                        obtain ⟨q66, eq66⟩ : ∃ q : Pk, { q64 with client := x65 } = q := ⟨_, rfl⟩
                        obtain ⟨Z66, z66⟩ : ∃ Z, Y65.setCell ⟨P, 10, none⟩ (.string (x65)) = Z := ⟨_, rfl⟩
                        have hh66 := HH65.out.set 10 (.string (x65)) ({ q64 with client := x65 }) (M64) rfl ⟨HH65.out.o.ps, HH65.out.o.wps, HH65.out.o.cs, HH65.out.o.ss, HH65.out.o.fs⟩
                        rw [z66, eq66] at hh66
                        have HH66 := Lib.hid hh66
                        have EQ66 := Lib.hid eq66
                        clear hh66 eq66
                        have hk67 := HK65.out
                        rw [show ({ q11 with keep := x61, ps := x63, client := x65 } : Pk) = q66 from by rw [← EQ66.out, ← EQ64.out, ← EQ62.out]] at hk67
                        have HK67 := Lib.hid hk67
                        clear hk67
                        have HWL2 := Lib.hid (show q66.hasWill = true from by rw [← EQ66.out, ← EQ64.out, ← EQ62.out]; exact HWL.out)
                        have HUS2 := Lib.hid (show q66.hasUser = c4 from by rw [← EQ66.out, ← EQ64.out, ← EQ62.out]; exact HUS.out)
                        have HPA2 := Lib.hid (show q66.hasPass = c3 from by rw [← EQ66.out, ← EQ64.out, ← EQ62.out]; exact HPA.out)
                        have hk := HK67.out
                        unfold rWill at hk
                        have HK68 := Lib.hid hk; clear hk
                        have l69 : Z66.cell? ⟨P, 13, none⟩ = some (.bool (true)) := (HH66.out.pB.cell 13).trans (by show some (Value.bool (q66.hasWill)) = _; rw [HWL2.out])
                        have hk := HK68.out
                        rw [if_pos HWL2.out] at hk
                        have HK70 := Lib.hid hk; clear hk
                        obtain ⟨r71, e71⟩ : ∃ r, rProps 0 s b65 = r := ⟨_, rfl⟩
                        have C71 := Lib.hid (rprops_any R s b65 0 Z66 HH66.out.rB HH66.out.sz HH66.out.a0 HH66.out.a1 HH66.out.tb)
                        rw [e71] at C71
                        have hk71 := HK70.out
                        rw [e71] at hk71
                        have EE71 := Lib.hid e71
                        clear e71
                        have HKK71 := Lib.hid hk71; clear hk71
                        go_wp2_with (first | (fail))
                        (with_reducible refine C71.out.mono ?_)
                        cases r71 with
                        | error c =>
                          rintro e Y71 ⟨rfl, hm71⟩
                          refine ⟨rfl, ?_⟩
                          have hk := HKK71.out
                          simp only [bR_err] at hk
                          rw [← hk]
                          exact ⟨rfl, HH66.out.goneR hm71⟩
                        | ok v71 =>
                          obtain ⟨x71, b71⟩ := v71
                          rintro e Y71 ⟨u71, rfl, hps71, hb71, hm71⟩
                          have HH71 := Lib.hid (HH66.out.read hb71 hm71 (rProps_at EE71.out HH66.out.a0))
                          have hk71 := HKK71.out
                          simp only [bR_ok] at hk71
                          have HK71 := Lib.hid hk71
                          obtain ⟨ao71, cp71, rfl, -⟩ := hps71.form
                          have HS71 := Lib.hid (hps71.mono' HH66.out.md.size)
                          clear hps71
                          clear hb71 hm71 hk71 C71 HKK71 c66 f66 z66 l69
                          have c72 : Y71.cell? ⟨P, 18, none⟩ = some (.slice M64.w.A M64.w.n M64.w.cap) := HH71.out.pB.cell 18
                          have f72 := HH71.out.pB.frozen 18
                          obtain ⟨q72, eq72⟩ : ∃ q : Pk, { q66 with wps := x71 } = q := ⟨_, rfl⟩
                          obtain ⟨Z72, z72⟩ : ∃ Z, Y71.setCell ⟨P, 18, none⟩ (.slice ao71 x71.length cp71) = Z := ⟨_, rfl⟩
                          have hh72 := HH71.out.set 18 (.slice ao71 x71.length cp71) ({ q66 with wps := x71 }) ({ M64 with w := ⟨ao71, x71.length, cp71⟩ }) rfl ⟨HH71.out.o.ps, HS71.out, HH71.out.o.cs, HH71.out.o.ss, HH71.out.o.fs⟩
                          obtain ⟨M72, em72⟩ : ∃ M : Hs, { M64 with w := ⟨ao71, x71.length, cp71⟩ } = M := ⟨_, rfl⟩
                          rw [z72, eq72, em72] at hh72
                          clear em72
                          have HH72 := Lib.hid hh72
                          have EQ72 := Lib.hid eq72
                          clear hh72 eq72
                          obtain ⟨r73, e73⟩ : ∃ r, rText s b71 = r := ⟨_, rfl⟩
                          have C73 := Lib.hid (rtext_any R s b71 Z72 HH72.out.rB HH72.out.sz HH72.out.a0 HH72.out.a1 (HH72.out.drew 1).tb)
                          rw [e73] at C73
                          have hk73 := HK71.out
                          rw [e73] at hk73
                          have EE73 := Lib.hid e73
                          clear e73
                          have HKK73 := Lib.hid hk73; clear hk73
                          go_wp2_with (first | (fail))
                          (with_reducible refine C73.out.mono ?_)
                          cases r73 with
                          | error c =>
                            rintro e Y73 ⟨rfl, hm73⟩
                            refine ⟨rfl, ?_⟩
                            have hk := HKK73.out
                            simp only [bR_err] at hk
                            rw [← hk]
                            exact ⟨rfl, HH72.out.goneR hm73⟩
                          | ok v73 =>
                            obtain ⟨x73, b73⟩ := v73
                            rintro e Y73 ⟨u73, rfl, rfl, hb73, hm73⟩
                            have HH73 := Lib.hid (HH72.out.read hb73 hm73 (rText_at EE73.out))
                            have hk73 := HKK73.out
                            simp only [bR_ok] at hk73
                            have HK73 := Lib.hid hk73
                            clear hb73 hm73 hk73 C73 HKK73 c72 f72 z72
                            have c74 : Y73.cell? ⟨P, 14, none⟩ = some (.string (q72.wt)) := HH73.out.pB.cell 14
                            have f74 := HH73.out.pB.frozen 14
                            obtain ⟨q74, eq74⟩ : ∃ q : Pk, { q72 with wt := x73 } = q := ⟨_, rfl⟩
                            obtain ⟨Z74, z74⟩ : ∃ Z, Y73.setCell ⟨P, 14, none⟩ (.string (x73)) = Z := ⟨_, rfl⟩
                            have hh74 := HH73.out.set 14 (.string (x73)) ({ q72 with wt := x73 }) (M72) rfl ⟨HH73.out.o.ps, HH73.out.o.wps, HH73.out.o.cs, HH73.out.o.ss, HH73.out.o.fs⟩
                            rw [z74, eq74] at hh74
                            have HH74 := Lib.hid hh74
                            have EQ74 := Lib.hid eq74
                            clear hh74 eq74
                            obtain ⟨r75, e75⟩ : ∃ r, rData s b73 = r := ⟨_, rfl⟩
                            have C75 := Lib.hid (rdata_any R s b73 Z74 HH74.out.rB HH74.out.sz HH74.out.a0 HH74.out.a1)
                            rw [e75] at C75
                            have hk75 := HK73.out
                            rw [e75] at hk75
                            have EE75 := Lib.hid e75
                            clear e75
                            have HKK75 := Lib.hid hk75; clear hk75
                            go_wp2_with (first | (fail))
                            (with_reducible refine C75.out.mono ?_)
                            cases r75 with
                            | error c =>
                              rintro e Y75 ⟨rfl, hm75⟩
                              refine ⟨rfl, ?_⟩
                              have hk := HKK75.out
                              simp only [bR_err] at hk
                              rw [← hk]
                              exact ⟨rfl, HH74.out.goneR hm75⟩
                            | ok v75 =>
                              obtain ⟨x75, b75⟩ := v75
                              rintro e Y75 ⟨u75, rfl, rfl, hb75, hm75⟩
                              have HH75 := Lib.hid (HH74.out.read hb75 hm75 (rData_at EE75.out))
                              have hk75 := HKK75.out
                              simp only [bR_ok] at hk75
                              have HK75 := Lib.hid hk75
                              clear hb75 hm75 hk75 C75 HKK75 c74 f74 z74
                              have c76 : Y75.cell? ⟨P, 15, none⟩ = some (.string (q74.wp)) := HH75.out.pB.cell 15
                              have f76 := HH75.out.pB.frozen 15
                              obtain ⟨q76, eq76⟩ : ∃ q : Pk, { q74 with wp := x75 } = q := ⟨_, rfl⟩
                              obtain ⟨Z76, z76⟩ : ∃ Z, Y75.setCell ⟨P, 15, none⟩ (.string (x75)) = Z := ⟨_, rfl⟩
                              have hh76 := HH75.out.set 15 (.string (x75)) ({ q74 with wp := x75 }) (M72) rfl ⟨HH75.out.o.ps, HH75.out.o.wps, HH75.out.o.cs, HH75.out.o.ss, HH75.out.o.fs⟩
                              rw [z76, eq76] at hh76
                              have HH76 := Lib.hid hh76
                              have EQ76 := Lib.hid eq76
                              clear hh76 eq76
                              have hk77 := HK75.out
                              rw [show ({ q66 with wps := x71, wt := x73, wp := x75 } : Pk) = q76 from by rw [← EQ76.out, ← EQ74.out, ← EQ72.out]] at hk77
                              have HK77 := Lib.hid hk77
                              clear hk77
                              have HUS3 := Lib.hid (show q76.hasUser = c4 from by rw [← EQ76.out, ← EQ74.out, ← EQ72.out]; exact HUS2.out)
                              have HPA3 := Lib.hid (show q76.hasPass = c3 from by rw [← EQ76.out, ← EQ74.out, ← EQ72.out]; exact HPA2.out)
                              have hk := HK77.out
                              unfold rUser at hk
                              have HK78 := Lib.hid hk; clear hk
                              cases c4
                              · have l79 : Z76.cell? ⟨P, 19, none⟩ = some (.bool (false)) := (HH76.out.pB.cell 19).trans (by show some (Value.bool (q76.hasUser)) = _; rw [HUS3.out])
                                have hk := HK78.out
                                rw [if_neg (by rw [HUS3.out]; decide)] at hk
                                have HK80 := Lib.hid hk; clear hk
                                have HPA4 := HPA3
                                have hk := HK80.out
                                unfold rPass at hk
                                have HK81 := Lib.hid hk; clear hk
                                cases c3
                                · have l82 : Z76.cell? ⟨P, 20, none⟩ = some (.bool (false)) := (HH76.out.pB.cell 20).trans (by show some (Value.bool (q76.hasPass)) = _; rw [HPA4.out])
                                  have hk := HK81.out
                                  rw [if_neg (by rw [HPA4.out]; decide)] at hk
                                  have HK83 := Lib.hid hk; clear hk
                                  go_wp2
                                  go_end0
                                  have hk := HK83.out
                                  rw [← hk]
                                  exact ⟨rfl, _, HH76.out⟩
                                · have l84 : Z76.cell? ⟨P, 20, none⟩ = some (.bool (true)) := (HH76.out.pB.cell 20).trans (by show some (Value.bool (q76.hasPass)) = _; rw [HPA4.out])
                                  have hk := HK81.out
                                  rw [if_pos HPA4.out] at hk
                                  have HK85 := Lib.hid hk; clear hk
                                  obtain ⟨r86, e86⟩ : ∃ r, rData s b75 = r := ⟨_, rfl⟩
                                  have C86 := Lib.hid (rdata_any R s b75 Z76 HH76.out.rB HH76.out.sz HH76.out.a0 HH76.out.a1)
                                  rw [e86] at C86
                                  have hk86 := HK85.out
                                  rw [e86] at hk86
                                  have EE86 := Lib.hid e86
                                  clear e86
                                  have HKK86 := Lib.hid hk86; clear hk86
                                  go_wp2_with (first | (fail))
                                  (with_reducible refine C86.out.mono ?_)
                                  cases r86 with
                                  | error c =>
                                    rintro e Y86 ⟨rfl, hm86⟩
                                    refine ⟨rfl, ?_⟩
                                    have hk := HKK86.out
                                    simp only [bR_err] at hk
                                    rw [← hk]
                                    exact ⟨rfl, HH76.out.goneR hm86⟩
                                  | ok v86 =>
                                    obtain ⟨x86, b86⟩ := v86
                                    rintro e Y86 ⟨u86, rfl, rfl, hb86, hm86⟩
                                    have HH86 := Lib.hid (HH76.out.read hb86 hm86 (rData_at EE86.out))
                                    have hk86 := HKK86.out
                                    simp only [bR_ok] at hk86
                                    have HK86 := Lib.hid hk86
                                    clear hb86 hm86 hk86 C86 HKK86 c76 f76 z76 l79 l84
                                    have c87 : Y86.cell? ⟨P, 22, none⟩ = some (.string (q76.pass)) := HH86.out.pB.cell 22
                                    have f87 := HH86.out.pB.frozen 22
                                    obtain ⟨q87, eq87⟩ : ∃ q : Pk, { q76 with pass := x86 } = q := ⟨_, rfl⟩
                                    obtain ⟨Z87, z87⟩ : ∃ Z, Y86.setCell ⟨P, 22, none⟩ (.string (x86)) = Z := ⟨_, rfl⟩
                                    have hh87 := HH86.out.set 22 (.string (x86)) ({ q76 with pass := x86 }) (M72) rfl ⟨HH86.out.o.ps, HH86.out.o.wps, HH86.out.o.cs, HH86.out.o.ss, HH86.out.o.fs⟩
                                    rw [z87, eq87] at hh87
                                    have HH87 := Lib.hid hh87
                                    have EQ87 := Lib.hid eq87
                                    clear hh87 eq87
                                    have hk88 := HK86.out
                                    rw [show ({ q76 with pass := x86 } : Pk) = q87 from by rw [← EQ87.out]] at hk88
                                    have HK88 := Lib.hid hk88
                                    clear hk88
                                    go_wp2
                                    go_end0
                                    have hk := HK88.out
                                    rw [← hk]
                                    exact ⟨rfl, _, HH87.out⟩
                              · have l89 : Z76.cell? ⟨P, 19, none⟩ = some (.bool (true)) := (HH76.out.pB.cell 19).trans (by show some (Value.bool (q76.hasUser)) = _; rw [HUS3.out])
                                have hk := HK78.out
                                rw [if_pos HUS3.out] at hk
                                have HK90 := Lib.hid hk; clear hk
                                obtain ⟨r91, e91⟩ : ∃ r, rText s b75 = r := ⟨_, rfl⟩
                                have C91 := Lib.hid (rtext_any R s b75 Z76 HH76.out.rB HH76.out.sz HH76.out.a0 HH76.out.a1 (HH76.out.drew 1).tb)
                                rw [e91] at C91
                                have hk91 := HK90.out
                                rw [e91] at hk91
                                have EE91 := Lib.hid e91
                                clear e91
                                have HKK91 := Lib.hid hk91; clear hk91
                                go_wp2_with (first | (fail))
                                (with_reducible refine C91.out.mono ?_)
                                cases r91 with
                                | error c =>
                                  rintro e Y91 ⟨rfl, hm91⟩
                                  refine ⟨rfl, ?_⟩
                                  have hk := HKK91.out
                                  simp only [bR_err] at hk
                                  rw [← hk]
                                  exact ⟨rfl, HH76.out.goneR hm91⟩
                                | ok v91 =>
                                  obtain ⟨x91, b91⟩ := v91
                                  rintro e Y91 ⟨u91, rfl, rfl, hb91, hm91⟩
                                  have HH91 := Lib.hid (HH76.out.read hb91 hm91 (rText_at EE91.out))
                                  have hk91 := HKK91.out
                                  simp only [bR_ok] at hk91
                                  have HK91 := Lib.hid hk91
                                  clear hb91 hm91 hk91 C91 HKK91 c76 f76 z76 l89
                                  have c92 : Y91.cell? ⟨P, 21, none⟩ = some (.string (q76.user)) := HH91.out.pB.cell 21
                                  have f92 := HH91.out.pB.frozen 21
                                  obtain ⟨q92, eq92⟩ : ∃ q : Pk, { q76 with user := x91 } = q := ⟨_, rfl⟩
                                  obtain ⟨Z92, z92⟩ : ∃ Z, Y91.setCell ⟨P, 21, none⟩ (.string (x91)) = Z := ⟨_, rfl⟩
                                  have hh92 := HH91.out.set 21 (.string (x91)) ({ q76 with user := x91 }) (M72) rfl ⟨HH91.out.o.ps, HH91.out.o.wps, HH91.out.o.cs, HH91.out.o.ss, HH91.out.o.fs⟩
                                  rw [z92, eq92] at hh92
                                  have HH92 := Lib.hid hh92
                                  have EQ92 := Lib.hid eq92
                                  clear hh92 eq92
                                  have hk93 := HK91.out
                                  rw [show ({ q76 with user := x91 } : Pk) = q92 from by rw [← EQ92.out]] at hk93
                                  have HK93 := Lib.hid hk93
                                  clear hk93
                                  have HPA4 := Lib.hid (show q92.hasPass = c3 from by rw [← EQ92.out]; exact HPA3.out)
                                  have hk := HK93.out
                                  unfold rPass at hk
                                  have HK94 := Lib.hid hk; clear hk
                                  cases c3
                                  · have l95 : Z92.cell? ⟨P, 20, none⟩ = some (.bool (false)) := (HH92.out.pB.cell 20).trans (by show some (Value.bool (q92.hasPass)) = _; rw [HPA4.out])
                                    have hk := HK94.out
                                    rw [if_neg (by rw [HPA4.out]; decide)] at hk
                                    have HK96 := Lib.hid hk; clear hk
                                    go_wp2
                                    go_end0
                                    have hk := HK96.out
                                    rw [← hk]
                                    exact ⟨rfl, _, HH92.out⟩
                                  · have l97 : Z92.cell? ⟨P, 20, none⟩ = some (.bool (true)) := (HH92.out.pB.cell 20).trans (by show some (Value.bool (q92.hasPass)) = _; rw [HPA4.out])
                                    have hk := HK94.out
                                    rw [if_pos HPA4.out] at hk
                                    have HK98 := Lib.hid hk; clear hk
                                    obtain ⟨r99, e99⟩ : ∃ r, rData s b91 = r := ⟨_, rfl⟩
                                    have C99 := Lib.hid (rdata_any R s b91 Z92 HH92.out.rB HH92.out.sz HH92.out.a0 HH92.out.a1)
                                    rw [e99] at C99
                                    have hk99 := HK98.out
                                    rw [e99] at hk99
                                    have EE99 := Lib.hid e99
                                    clear e99
                                    have HKK99 := Lib.hid hk99; clear hk99
                                    go_wp2_with (first | (fail))
                                    (with_reducible refine C99.out.mono ?_)
                                    cases r99 with
                                    | error c =>
                                      rintro e Y99 ⟨rfl, hm99⟩
                                      refine ⟨rfl, ?_⟩
                                      have hk := HKK99.out
                                      simp only [bR_err] at hk
                                      rw [← hk]
                                      exact ⟨rfl, HH92.out.goneR hm99⟩
                                    | ok v99 =>
                                      obtain ⟨x99, b99⟩ := v99
                                      rintro e Y99 ⟨u99, rfl, rfl, hb99, hm99⟩
                                      have HH99 := Lib.hid (HH92.out.read hb99 hm99 (rData_at EE99.out))
                                      have hk99 := HKK99.out
                                      simp only [bR_ok] at hk99
                                      have HK99 := Lib.hid hk99
                                      clear hb99 hm99 hk99 C99 HKK99 c92 f92 z92 l97
                                      have c100 : Y99.cell? ⟨P, 22, none⟩ = some (.string (q92.pass)) := HH99.out.pB.cell 22
                                      have f100 := HH99.out.pB.frozen 22
                                      obtain ⟨q100, eq100⟩ : ∃ q : Pk, { q92 with pass := x99 } = q := ⟨_, rfl⟩
                                      obtain ⟨Z100, z100⟩ : ∃ Z, Y99.setCell ⟨P, 22, none⟩ (.string (x99)) = Z := ⟨_, rfl⟩
                                      have hh100 := HH99.out.set 22 (.string (x99)) ({ q92 with pass := x99 }) (M72) rfl ⟨HH99.out.o.ps, HH99.out.o.wps, HH99.out.o.cs, HH99.out.o.ss, HH99.out.o.fs⟩
                                      rw [z100, eq100] at hh100
                                      have HH100 := Lib.hid hh100
                                      have EQ100 := Lib.hid eq100
                                      clear hh100 eq100
                                      have hk101 := HK99.out
                                      rw [show ({ q92 with pass := x99 } : Pk) = q100 from by rw [← EQ100.out]] at hk101
                                      have HK101 := Lib.hid hk101
                                      clear hk101
                                      go_wp2
                                      go_end0
                                      have hk := HK101.out
                                      rw [← hk]
                                      exact ⟨rfl, _, HH100.out⟩
              · have hq4 : decide (wq < 3) = false := decide_eq_false hq3
                have hk := HK12.out
                rw [if_pos (HBAD.out.2 (fun c => hq3 c.2.1))] at hk
                have HK102 := Lib.hid hk; clear hk
                have l103 : Z11.cell? ⟨P, 13, none⟩ = some (.bool (c2)) := (HH11.out.pB.cell 13).trans (by show some (Value.bool (q11.hasWill)) = _; rw [HWL.out])
                have l104 : Z11.cell? ⟨P, 16, none⟩ = some (.int .i64 (wq)) := (HH11.out.pB.cell 16).trans (by show some (Value.int .i64 (q11.wq)) = _; rw [HWQ.out])
                go_wp2_with (first | (go_at_call 34; (with_reducible refine (must_false _).mono ?_); rintro e YM ⟨rfl, rfl⟩) | (fail))
                refine ⟨rfl, ?_⟩
                have hk := HK102.out
                rw [← hk]
                exact ⟨rfl, HH11.out.gone⟩
        · have hx5 : (x3 != 5) = true := by simp [hv]
          have hk := HK3.out
          rw [if_pos (show x3 ≠ 5 from hv)] at hk
          have HK105 := Lib.hid hk; clear hk
          go_wp2_with fail
          (with_reducible refine (fail_any _ _).mono ?_)
          rintro e YF ⟨rfl, rfl⟩
          refine ⟨rfl, ?_⟩
          have hk := HK105.out
          rw [← hk]
          exact ⟨rfl, HH3.out.gone⟩
    · have hx : (x1.toList == [77, 81, 84, 84]) = false := str_ne ht
      have hk := HK1.out
      rw [if_pos (show x1 ≠ name5 from ht)] at hk
      have HK106 := Lib.hid hk; clear hk
      go_wp2_with (first | (go_at_call 34; (with_reducible refine (must_false _).mono ?_); rintro e YM ⟨rfl, rfl⟩) | (fail))
      refine ⟨rfl, ?_⟩
      have hk := HK106.out
      rw [← hk]
      exact ⟨rfl, HH1.out.gone⟩
end Go.Proofs.YtedapgeabpadaaaDoor

namespace Go.Proofs.YtedapgeabpadaaaDoor
set_option linter.unusedVariables false
open Go.RowKit

section
variable {P : Program} {ops : Array Oper} {Q : Exit → Act → World → Prop} {md : Region.Mode} {S : World → Prop}

end

def Agr (D : List Nat) (a0 a : Act) : Prop := a.defers = a0.defers ∧ a.tmps.size = a0.tmps.size ∧ ∀ t, t ∉ D → a.tmps[t]? = a0.tmps[t]?
theorem Agr.refl (D : List Nat) (a : Act) : Agr D a a := ⟨rfl, rfl, fun _ _ => rfl⟩
theorem Agr.put {D : List Nat} {a0 a : Act} (h : Agr D a0 a) {d : Option Tmp} (hd : ∀ t, d = some t → t ∈ D) (v : Value) : Agr D a0 (a.put d v) := by
  cases d with
  | none => exact h
  | some d =>
    refine ⟨h.1, by simp [Act.put, h.2.1], fun t ht => ?_⟩
    have hne : d ≠ t := fun e => ht (e ▸ hd d rfl)
    simp only [Act.put, Array.getElem?_setIfInBounds_ne hne]
    exact h.2.2 t ht
theorem Agr.eval {D : List Nat} {a0 a : Act} (h : Agr D a0 a) {t : Nat} (ht : t ∉ D) : a.eval (.tmp t) = a0.eval (.tmp t) := by
  show a.tmps.getD t undef = a0.tmps.getD t undef
  rw [Array.getD_eq_getD_getElem?, Array.getD_eq_getD_getElem?, h.2.2 t ht]
theorem put_same {a : Act} {d : Nat} (hd : d < a.tmps.size) (v : Value) : (a.put (some d) v).eval (.tmp d) = v := by
  show (a.tmps.setIfInBounds d v).getD d undef = v
  rw [Array.getD_eq_getD_getElem?]
  simp [hd]
theorem put_other {a : Act} {d : Option Tmp} {t : Nat} (h : d ≠ some t) (v : Value) : (a.put d v).eval (.tmp t) = a.eval (.tmp t) := by
  cases d with
  | none => rfl
  | some d =>
    show (a.tmps.setIfInBounds d v).getD t undef = a.tmps.getD t undef
    rw [Array.getD_eq_getD_getElem?, Array.getD_eq_getD_getElem?, Array.getElem?_setIfInBounds_ne (fun e => h (by rw [e]))]
/-- The slots written anew. -/
def putAll (f : Nat → Value) : List Nat → Act → Act
  | [], a => a
  | d :: D, a => putAll f D (a.put (some d) (f d))
theorem putAll_facts (f : Nat → Value) : ∀ (D : List Nat) (a : Act), (putAll f D a).defers = a.defers ∧ (putAll f D a).tmps.size = a.tmps.size ∧ ∀ t, (putAll f D a).tmps[t]? = if t ∈ D ∧ t < a.tmps.size then some (f t) else a.tmps[t]?
  | [], a => ⟨rfl, rfl, fun t => by simp [putAll]⟩
  | d :: D, a => by
    obtain ⟨h1, h2, h3⟩ := putAll_facts f D (a.put (some d) (f d))
    refine ⟨h1, by rw [putAll, h2]; simp [Act.put], fun t => ?_⟩
    rw [putAll, h3 t]
    have hs : (a.put (some d) (f d)).tmps.size = a.tmps.size := by simp [Act.put]
    rw [hs]
    by_cases hl : t < a.tmps.size
    · by_cases ht : t ∈ D
      · rw [if_pos ⟨ht, hl⟩, if_pos ⟨List.mem_cons_of_mem _ ht, hl⟩]
      · rw [if_neg (fun c => ht c.1)]
        by_cases hd : d = t
        · subst hd
          rw [if_pos ⟨List.mem_cons_self .., hl⟩]
          simp [Act.put, hl]
        · rw [if_neg (fun c => by rcases List.mem_cons.1 c.1 with e | e; exact hd e.symm; exact ht e)]
          simp only [Act.put, Array.getElem?_setIfInBounds_ne hd]
    · rw [if_neg (fun c => hl c.2), if_neg (fun c => hl c.2)]
      simp only [Act.put]
      rw [Array.getElem?_eq_none (by simpa using hl), Array.getElem?_eq_none (by simpa using hl)]
theorem Agr.form {D : List Nat} {a0 a : Act} (h : Agr D a0 a) : a = putAll (fun d => a.eval (.tmp d)) D a0 := by
  obtain ⟨h1, h2, h3⟩ := putAll_facts (fun d => a.eval (.tmp d)) D a0
  have e : a.tmps = (putAll (fun d => a.eval (.tmp d)) D a0).tmps := by
    apply Array.ext_getElem?
    intro t
    rw [h3 t]
    by_cases ht : t ∈ D
    · by_cases hl : t < a0.tmps.size
      · rw [if_pos ⟨ht, hl⟩]
        have hl' : t < a.tmps.size := by rw [h.2.1]; exact hl
        show a.tmps[t]? = some (a.tmps.getD t undef)
        rw [Array.getD_eq_getD_getElem?, Array.getElem?_eq_getElem hl']
        rfl
      · rw [if_neg (fun c => hl c.2), Array.getElem?_eq_none (by rw [h.2.1]; omega), Array.getElem?_eq_none (by omega)]
    · rw [if_neg (fun c => ht c.1)]
      exact h.2.2 t ht
  cases a
  cases hb : putAll (fun d => Act.eval _ (.tmp d)) D a0
  rw [hb] at h1 e
  simp only at h1 e
  subst e
  rw [h1]
  congr 1
  exact h.1

section
variable {P : Program} {ops : Array Oper} {Q : Exit → Act → World → Prop}

theorem wpOp_of_wp {i : Nat} {o : Oper} {a : Act} {w : World} {K : Act → World → Prop} (ho : ops[i]? = some o) (hg : o.guard = none) (h : o.wp P a w K Q) : wpOp P ops Q i K a w := by
  unfold wpOp
  simp only [ho]
  rw [if_pos (by simp [Region.wanted, hg])]
  exact .inl h
theorem wpOp_val {i : Nat} {o : Oper} {a : Act} {w w' : World} {v : Value} {K : Act → World → Prop} (ho : ops[i]? = some o) (hg : o.guard = none) (hr : (execOp a.eval o).run P w = .ok (.value v) w') (h : K (a.put o.dst v) w') : wpOp P ops Q i K a w :=
  wpOp_of_wp ho hg (by unfold Oper.wp; rw [hr]; exact h)
theorem wpOp_skip {i : Nat} {o : Oper} {a : Act} {w w' : World} {K : Act → World → Prop} (ho : ops[i]? = some o) (hg : o.guard = none) (hr : (execOp a.eval o).run P w = .ok .skip w') (h : K (a.put o.dst undef) w') : wpOp P ops Q i K a w :=
  wpOp_of_wp ho hg (by unfold Oper.wp; rw [hr]; exact h)
end

/-- 's.f = append(s.f, x)', s in a block of its own: what there is ahead of it. -/
structure Ch where
  b : Nat
  k : Nat
  T : TypeId
  cs : Array Value
  e : TypeId
  sz : Nat
  base : Nat
  v : Value
  n : Nat
  xs : List Value
  new : Array Value
  d1 : Nat
  d2 : Nat
  d3 : Nat
  d4 : Nat
def Ch.X (c : Ch) (g : Nat) : Prop := g = c.b ∨ c.v.ownBlock = some g
/-- Where the new row lies. -/
def Ch.New (c : Ch) (H0 : Nat) (v' : Value) (w : World) : Prop := v'.oneCell' = true ∧ w.ownsRow c.base c.e c.sz v' (c.n + 1) (c.xs ++ c.new.toList) ∧ (v'.ownBlock = c.v.ownBlock ∨ ∃ g, v'.ownBlock = some g ∧ H0 ≤ g)
/-- What holds of a chain of which the operations b0 (load), b1 (slice literal), b2 (append), b3 (the field's address), b4 (store) have come up. -/
structure Ch.St (c : Ch) (H0 : Nat) (b0 b1 b2 b3 b4 : Bool) (v : Value) (a : Act) (w : World) : Prop where
  blk : Blk w c.b (if b4 = true then c.cs.setIfInBounds c.k v else c.cs) c.T
  row : if b2 = true then c.New H0 v w else v = c.v ∧ w.ownsRow c.base c.e c.sz c.v c.n c.xs
  e1 : b0 = true → a.eval (.tmp c.d1) = c.v
  e2 : b1 = true → b2 = false → ∃ C, a.eval (.tmp c.d2) = .slice (some ⟨C, 0, none⟩) 1 1 ∧ Blk w C c.new c.e ∧ H0 ≤ C
  e3 : b2 = true → a.eval (.tmp c.d3) = v
  e4 : b3 = true → a.eval (.tmp c.d4) = .pointer (some ⟨c.b, c.k, none⟩)
theorem Ch.St.lt {c : Ch} {H0 : Nat} {b0 b1 b2 b3 b4 : Bool} {v : Value} {a : Act} {w : World} (h : c.St H0 b0 b1 b2 b3 b4 v a w) : ∀ g, v.ownBlock = some g → g < w.heap.size := by
  have hr := h.row
  cases b2 with
  | true => rw [if_pos rfl] at hr; exact fun g hg => (hr.2.1.lt g hg).2
  | false => rw [if_neg (by decide)] at hr; exact fun g hg => (hr.2.lt g (hr.1 ▸ hg)).2
theorem Ch.St.keep {c : Ch} {H0 : Nat} {X : Nat → Prop} {b0 b1 b2 b3 b4 : Bool} {v : Value} {a a' : Act} {w w' : World} (h : c.St H0 b0 b1 b2 b3 b4 v a w) (hm : Mod X w w') (hX : ∀ g, X g → g < H0 ∧ g ≠ c.b ∧ c.v.ownBlock ≠ some g)
    (h1 : a'.eval (.tmp c.d1) = a.eval (.tmp c.d1)) (h2 : a'.eval (.tmp c.d2) = a.eval (.tmp c.d2)) (h3 : a'.eval (.tmp c.d3) = a.eval (.tmp c.d3)) (h4 : a'.eval (.tmp c.d4) = a.eval (.tmp c.d4)) : c.St H0 b0 b1 b2 b3 b4 v a' w' := by
  have kN : ∀ v', c.New H0 v' w → c.New H0 v' w' := fun v' ⟨q1, q2, q3⟩ => ⟨q1, own_mod q2 hm (fun g hg hx => by
    rcases q3 with e | ⟨g', e, hl⟩
    · exact (hX _ hx).2.2 (e ▸ hg)
    · rw [hg] at e; injection e with e; subst e; exact Nat.not_lt.2 hl (hX _ hx).1), q3⟩
  refine ⟨h.blk.mod hm (fun hx => (hX _ hx).2.1 rfl), ?_, fun e => h1.trans (h.e1 e), fun e e' => ?_, fun e => h3.trans (h.e3 e), fun e => h4.trans (h.e4 e)⟩
  · have hr := h.row
    cases b2 with
    | true => rw [if_pos rfl] at hr ⊢; exact kN v hr
    | false => rw [if_neg (by decide)] at hr ⊢; exact ⟨hr.1, own_mod hr.2 hm (fun g hg hx => (hX _ hx).2.2 hg)⟩
  · obtain ⟨C, q1, q2, q3⟩ := h.e2 e e'
    exact ⟨C, h2.trans q1, q2.mod hm (fun hx => Nat.not_lt.2 q3 (hX _ hx).1), q3⟩
section
variable {c : Ch} {P : Program} {ops : Array Oper} {Q : Exit → Act → World → Prop} {D : List Nat} {a0 : Act} {S : World → Prop} {i0 i1 i2 i3 i4 H0 : Nat} {b0 b1 b2 b3 b4 : Bool} {v : Value} {a : Act} {w : World}
end

def on (L : Array Bool) (i : Nat) : Bool := L.getD i false
def rest (K : List Nat) (L : Array Bool) : Nat := (K.filter fun i => !on L i).length
end Go.Proofs.YtedapgeabpadaaaDoor

