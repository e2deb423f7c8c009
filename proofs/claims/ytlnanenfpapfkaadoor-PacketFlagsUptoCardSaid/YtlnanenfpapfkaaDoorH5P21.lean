/- A packet's reader walked: body. -/
import Derived.Test.YtlnanenfpapfkaaDoorH5P20
set_option linter.unusedVariables false
set_option linter.unusedSimpArgs false
namespace Go.Proofs.YtlnanenfpapfkaaDoor
open Go.RowKit Pl Go.Shelf Go.PlainAid


theorem St.setR {w : World} {R P : Nat} {s : ByteArray} {a b : Int} {p : Pk} {m : Hs} {X : World} (h : St w R P s a p m X) (hb : a ≤ b ∧ b ≤ s.size) : St w R P s b p m (X.setCell ⟨R, 1, none⟩ (.int .i64 b)) :=
  h.read (h.rB.set 1 (.int .i64 b)) ((Mod.refl (· = R) X).setCell (.inl rfl) _) ⟨hb.1, hb.2, h.a0⟩

theorem bR_assoc {α β γ : Type} {r : RR α} {f : α → Int → RR β} {g : β → Int → RR γ} : bindR (bindR r f) g = bindR r fun v a => bindR (f v a) g := by
  cases r with
  | error c => rfl
  | ok v => rfl

set_option maxHeartbeats 8000000 in
set_option maxRecDepth 100000 in
theorem body_1 {w : World} {R P : Nat} {s : ByteArray} {a : Int} {p : Pk} {m : Hs} {X : World} (h : St w R P s a p m X) (hw : Tabs w) (hL : p.subs.length + p.filters.length + p.codes.length ≤ 1000) (hK : p.kind = 1) :
    Calls Tryd.prog 31 #[.pointer (some ⟨R, 0, none⟩), .pointer (some ⟨P, 0, none⟩)] X (PkPost' w R P s (bindR (rConn s p a) fun p a => if a < s.size then .error 129 else .ok (p, a))) := by
  have H0 := Lib.hid h
  have HW := Lib.hid hw; have HLL := Lib.hid hL; have HKD := Lib.hid hK
  obtain ⟨RES, hres⟩ : ∃ RES, (bindR (rConn s p a) fun p a => if a < (s.size : Int) then (.error 129 : RR Pk) else .ok (p, a)) = RES := ⟨_, rfl⟩
  rw [hres]
  have HK0 := Lib.hid hres
  clear h hres hw hL hK
  have l1 : X.cell? ⟨P, 0, none⟩ = some (.int .i64 (1)) := (H0.out.pB.cell 0).trans (by show some (Value.int .i64 (p.kind)) = _; rw [HKD.out])
  go_enter Tryd.func31, Tryd.ntmps31
  obtain ⟨r2, e2⟩ : ∃ r, rConn s p a = r := ⟨_, rfl⟩
  have C2 := Lib.hid (rconn_any H0.out)
  rw [e2] at C2
  have hk2 := HK0.out
  rw [e2] at hk2
  have HKK2 := Lib.hid hk2; clear hk2 e2
  go_wp2_with fail
  (with_reducible refine C2.out.mono ?_)
  cases r2 with
  | error c =>
    rintro e Y2 ⟨rfl, hg2⟩
    refine ⟨rfl, ?_⟩
    have hk := HKK2.out
    simp only [bR_err] at hk
    rw [← hk]
    exact ⟨rfl, hg2⟩
  | ok v2 =>
    obtain ⟨p2, b2⟩ := v2
    rintro e Y2 ⟨rfl, m2, hh2⟩
    have HH2 := Lib.hid hh2
    have hk2 := HKK2.out
    simp only [bR_ok] at hk2
    have HK2 := Lib.hid hk2
    clear hh2 hk2 C2 HKK2 l1
    have CL3 := Lib.hid (left_any R s b2 Y2 HH2.out.rB)
    go_wp2_with fail
    (with_reducible refine CL3.out.mono ?_)
    rintro e Y3 ⟨rfl, hb3, hh3⟩
    have HL3 := Lib.hid (HH2.out.heap hb3)
    clear hb3 hh3 CL3 
    by_cases hl3 : b2 < (s.size : Int)
    · have hd3 : decide (b2 < (s.size : Int)) = true := by simp [hl3]
      rw [hd3]
      have hk := HK2.out
      rw [if_pos hl3] at hk
      go_wp2_with (first | (go_at_call 30; (with_reducible refine (must_false _).mono ?_); rintro e YM ⟨rfl, rfl⟩) | (fail))
      refine ⟨rfl, ?_⟩
      rw [← hk]
      exact ⟨rfl, HL3.out.gone⟩
    · have hd3 : decide (b2 < (s.size : Int)) = false := by simp [hl3]
      rw [hd3]
      have hk := HK2.out
      rw [if_neg hl3] at hk
      go_wp2_with (first | (go_at_call 30; (with_reducible refine (must_true _).mono ?_); rintro e YM ⟨rfl, rfl⟩) | (fail))
      go_end0
      rw [← hk]
      exact ⟨rfl, _, HL3.out⟩
set_option maxHeartbeats 8000000 in
set_option maxRecDepth 100000 in
theorem body_2 {w : World} {R P : Nat} {s : ByteArray} {a : Int} {p : Pk} {m : Hs} {X : World} (h : St w R P s a p m X) (hw : Tabs w) (hL : p.subs.length + p.filters.length + p.codes.length ≤ 1000) (hK : p.kind = 2) :
    Calls Tryd.prog 31 #[.pointer (some ⟨R, 0, none⟩), .pointer (some ⟨P, 0, none⟩)] X (PkPost' w R P s (bindR (rConnack s p a) fun p a => if a < s.size then .error 129 else .ok (p, a))) := by
  have H0 := Lib.hid h
  have HW := Lib.hid hw; have HLL := Lib.hid hL; have HKD := Lib.hid hK
  obtain ⟨RES, hres⟩ : ∃ RES, (bindR (rConnack s p a) fun p a => if a < (s.size : Int) then (.error 129 : RR Pk) else .ok (p, a)) = RES := ⟨_, rfl⟩
  rw [hres]
  have HK0 := Lib.hid hres
  clear h hres hw hL hK
  have l1 : X.cell? ⟨P, 0, none⟩ = some (.int .i64 (2)) := (H0.out.pB.cell 0).trans (by show some (Value.int .i64 (p.kind)) = _; rw [HKD.out])
  go_enter Tryd.func31, Tryd.ntmps31
  have hk := HK0.out
  unfold rConnack at hk
  rw [bR_assoc] at hk
  have HK2 := Lib.hid hk; clear hk
  obtain ⟨r3, e3⟩ : ∃ r, rNum s 1 a = r := ⟨_, rfl⟩
  have C3 := Lib.hid (rnum_any R s a 1 X H0.out.rB H0.out.sz H0.out.a0 H0.out.a1)
  rw [e3] at C3
  have hk3 := HK2.out
  rw [e3] at hk3
  have EE3 := Lib.hid e3
  clear e3
  have HKK3 := Lib.hid hk3; clear hk3
  go_wp2_with (first | (fail))
  (with_reducible refine C3.out.mono ?_)
  cases r3 with
  | error c =>
    rintro e Y3 ⟨rfl, hm3⟩
    refine ⟨rfl, ?_⟩
    have hk := HKK3.out
    simp only [bR_err] at hk
    rw [← hk]
    exact ⟨rfl, H0.out.goneR hm3⟩
  | ok v3 =>
    obtain ⟨x3, b3⟩ := v3
    rintro e Y3 ⟨u3, rfl, rfl, hb3, hm3⟩
    have HH3 := Lib.hid (H0.out.read hb3 hm3 (rNum_at EE3.out))
    have hk3 := HKK3.out
    simp only [bR_ok] at hk3
    have HK3 := Lib.hid hk3
    clear hb3 hm3 hk3 C3 HKK3 l1
    by_cases hn : x3 < 2
    · have hk := HK3.out
      rw [if_neg (show ¬ (2 : Int) ≤ x3 from by omega), bR_assoc] at hk
      have HK4 := Lib.hid hk; clear hk
      obtain ⟨bs, hbs⟩ : ∃ bs, decide (x3 = 1) = bs := ⟨_, rfl⟩
      have hbe : (x3 == 1) = bs := by rw [← hbs]; by_cases c : x3 = 1 <;> simp [c]
      have c5 : Y3.cell? ⟨P, 23, none⟩ = some (.bool (p.session)) := HH3.out.pB.cell 23
      have f5 := HH3.out.pB.frozen 23
      obtain ⟨q5, eq5⟩ : ∃ q : Pk, { p with session := bs } = q := ⟨_, rfl⟩
      obtain ⟨Z5, z5⟩ : ∃ Z, Y3.setCell ⟨P, 23, none⟩ (.bool (bs)) = Z := ⟨_, rfl⟩
      have hh5 := HH3.out.set 23 (.bool (bs)) ({ p with session := bs }) (m) rfl ⟨HH3.out.o.ps, HH3.out.o.wps, HH3.out.o.cs, HH3.out.o.ss, HH3.out.o.fs⟩
      rw [z5, eq5] at hh5
      have HH5 := Lib.hid hh5
      have EQ5 := Lib.hid eq5
      clear hh5 eq5
      obtain ⟨r6, e6⟩ : ∃ r, rNum s 1 b3 = r := ⟨_, rfl⟩
      have C6 := Lib.hid (rnum_any R s b3 1 Z5 HH5.out.rB HH5.out.sz HH5.out.a0 HH5.out.a1)
      rw [e6] at C6
      have hk6 := HK4.out
      rw [e6] at hk6
      have EE6 := Lib.hid e6
      clear e6
      have HKK6 := Lib.hid hk6; clear hk6
      go_wp2_with (first | (go_at_call 30; (with_reducible refine (must_true _).mono ?_); rintro e YM ⟨rfl, rfl⟩) | (fail))
      (with_reducible refine C6.out.mono ?_)
      cases r6 with
      | error c =>
        rintro e Y6 ⟨rfl, hm6⟩
        refine ⟨rfl, ?_⟩
        have hk := HKK6.out
        simp only [bR_err] at hk
        rw [← hk]
        exact ⟨rfl, HH5.out.goneR hm6⟩
      | ok v6 =>
        obtain ⟨x6, b6⟩ := v6
        rintro e Y6 ⟨u6, rfl, rfl, hb6, hm6⟩
        have HH6 := Lib.hid (HH5.out.read hb6 hm6 (rNum_at EE6.out))
        have hk6 := HKK6.out
        simp only [bR_ok] at hk6
        have HK6 := Lib.hid hk6
        clear hb6 hm6 hk6 C6 HKK6 c5 f5 z5
        have hk := HK6.out
        rw [bR_assoc] at hk
        have HK7 := Lib.hid hk; clear hk
        obtain ⟨hby0, hby1⟩ := rNum_byte EE6.out
        have hw6 : x6 % 256 = x6 := by omega
        have c8 : Y6.cell? ⟨P, 7, none⟩ = some (.int .u8 (q5.code)) := HH6.out.pB.cell 7
        have f8 := HH6.out.pB.frozen 7
        obtain ⟨q8, eq8⟩ : ∃ q : Pk, { q5 with code := x6 } = q := ⟨_, rfl⟩
        obtain ⟨Z8, z8⟩ : ∃ Z, Y6.setCell ⟨P, 7, none⟩ (.int .u8 (x6)) = Z := ⟨_, rfl⟩
        have hh8 := HH6.out.set 7 (.int .u8 (x6)) ({ q5 with code := x6 }) (m) rfl ⟨HH6.out.o.ps, HH6.out.o.wps, HH6.out.o.cs, HH6.out.o.ss, HH6.out.o.fs⟩
        rw [z8, eq8] at hh8
        have HH8 := Lib.hid hh8
        have EQ8 := Lib.hid eq8
        clear hh8 eq8
        obtain ⟨r9, e9⟩ : ∃ r, rProps 2 s b6 = r := ⟨_, rfl⟩
        have C9 := Lib.hid (rprops_any R s b6 2 Z8 HH8.out.rB HH8.out.sz HH8.out.a0 HH8.out.a1 HH8.out.tb)
        rw [e9] at C9
        have hk9 := HK7.out
        rw [e9] at hk9
        have EE9 := Lib.hid e9
        clear e9
        have HKK9 := Lib.hid hk9; clear hk9
        go_wp2_with (first | (fail))
        (with_reducible refine C9.out.mono ?_)
        cases r9 with
        | error c =>
          rintro e Y9 ⟨rfl, hm9⟩
          refine ⟨rfl, ?_⟩
          have hk := HKK9.out
          simp only [bR_err] at hk
          rw [← hk]
          exact ⟨rfl, HH8.out.goneR hm9⟩
        | ok v9 =>
          obtain ⟨x9, b9⟩ := v9
          rintro e Y9 ⟨u9, rfl, hps9, hb9, hm9⟩
          have HH9 := Lib.hid (HH8.out.read hb9 hm9 (rProps_at EE9.out HH8.out.a0))
          have hk9 := HKK9.out
          simp only [bR_ok] at hk9
          have HK9 := Lib.hid hk9
          obtain ⟨ao9, cp9, rfl, -⟩ := hps9.form
          have HS9 := Lib.hid (hps9.mono' HH8.out.md.size)
          clear hps9
          clear hb9 hm9 hk9 C9 HKK9 c8 f8 z8
          have c10 : Y9.cell? ⟨P, 9, none⟩ = some (.slice m.p.A m.p.n m.p.cap) := HH9.out.pB.cell 9
          have f10 := HH9.out.pB.frozen 9
          obtain ⟨q10, eq10⟩ : ∃ q : Pk, { q8 with ps := x9 } = q := ⟨_, rfl⟩
          obtain ⟨Z10, z10⟩ : ∃ Z, Y9.setCell ⟨P, 9, none⟩ (.slice ao9 x9.length cp9) = Z := ⟨_, rfl⟩
          have hh10 := HH9.out.set 9 (.slice ao9 x9.length cp9) ({ q8 with ps := x9 }) ({ m with p := ⟨ao9, x9.length, cp9⟩ }) rfl ⟨HS9.out, HH9.out.o.wps, HH9.out.o.cs, HH9.out.o.ss, HH9.out.o.fs⟩
          obtain ⟨M10, em10⟩ : ∃ M : Hs, { m with p := ⟨ao9, x9.length, cp9⟩ } = M := ⟨_, rfl⟩
          rw [z10, eq10, em10] at hh10
          clear em10
          have HH10 := Lib.hid hh10
          have EQ10 := Lib.hid eq10
          clear hh10 eq10
          have hk := HK9.out
          rw [hbs, show ({ p with session := bs, code := x6, ps := x9 } : Pk) = q10 from by rw [← EQ10.out, ← EQ8.out, ← EQ5.out]] at hk
          have HK11 := Lib.hid hk; clear hk
          have CL12 := Lib.hid (left_any R s b9 Z10 HH10.out.rB)
          go_wp2_with fail
          (with_reducible refine CL12.out.mono ?_)
          rintro e Y12 ⟨rfl, hb12, hh12⟩
          have HL12 := Lib.hid (HH10.out.heap hb12)
          clear hb12 hh12 CL12 c10 f10 z10
          by_cases hl12 : b9 < (s.size : Int)
          · have hd12 : decide (b9 < (s.size : Int)) = true := by simp [hl12]
            rw [hd12]
            have hk := HK11.out
            rw [if_pos hl12] at hk
            go_wp2_with (first | (go_at_call 30; (with_reducible refine (must_false _).mono ?_); rintro e YM ⟨rfl, rfl⟩) | (fail))
            refine ⟨rfl, ?_⟩
            rw [← hk]
            exact ⟨rfl, HL12.out.gone⟩
          · have hd12 : decide (b9 < (s.size : Int)) = false := by simp [hl12]
            rw [hd12]
            have hk := HK11.out
            rw [if_neg hl12] at hk
            go_wp2_with (first | (go_at_call 30; (with_reducible refine (must_true _).mono ?_); rintro e YM ⟨rfl, rfl⟩) | (fail))
            go_end0
            rw [← hk]
            exact ⟨rfl, _, HL12.out⟩
    · have hnd : decide (x3 < 2) = false := decide_eq_false hn
      have hk := HK3.out
      rw [if_pos (show (2 : Int) ≤ x3 from by omega)] at hk
      simp only [bR_err] at hk
      have HK13 := Lib.hid hk; clear hk
      go_wp2_with (first | (go_at_call 30; (with_reducible refine (must_false _).mono ?_); rintro e YM ⟨rfl, rfl⟩) | (fail))
      refine ⟨rfl, ?_⟩
      have hk := HK13.out
      rw [← hk]
      exact ⟨rfl, HH3.out.gone⟩
set_option maxHeartbeats 8000000 in
set_option maxRecDepth 100000 in
theorem body_4 {w : World} {R P : Nat} {s : ByteArray} {a : Int} {p : Pk} {m : Hs} {X : World} (h : St w R P s a p m X) (hw : Tabs w) (hL : p.subs.length + p.filters.length + p.codes.length ≤ 1000) (hK : p.kind = 4) :
    Calls Tryd.prog 31 #[.pointer (some ⟨R, 0, none⟩), .pointer (some ⟨P, 0, none⟩)] X (PkPost' w R P s (bindR (rAck s p a) fun p a => if a < s.size then .error 129 else .ok (p, a))) := by
  have H0 := Lib.hid h
  have HW := Lib.hid hw; have HLL := Lib.hid hL; have HKD := Lib.hid hK
  obtain ⟨RES, hres⟩ : ∃ RES, (bindR (rAck s p a) fun p a => if a < (s.size : Int) then (.error 129 : RR Pk) else .ok (p, a)) = RES := ⟨_, rfl⟩
  rw [hres]
  have HK0 := Lib.hid hres
  clear h hres hw hL hK
  have l1 : X.cell? ⟨P, 0, none⟩ = some (.int .i64 (4)) := (H0.out.pB.cell 0).trans (by show some (Value.int .i64 (p.kind)) = _; rw [HKD.out])
  go_enter Tryd.func31, Tryd.ntmps31
  have hk := HK0.out
  unfold rAck at hk
  rw [bR_assoc] at hk
  have HK2 := Lib.hid hk; clear hk
  obtain ⟨r3, e3⟩ : ∃ r, rId s a = r := ⟨_, rfl⟩
  have C3 := Lib.hid (rid_any R s a X H0.out.rB H0.out.sz H0.out.a0 H0.out.a1)
  rw [e3] at C3
  have hk3 := HK2.out
  rw [e3] at hk3
  have EE3 := Lib.hid e3
  clear e3
  have HKK3 := Lib.hid hk3; clear hk3
  go_wp2_with (first | (fail))
  (with_reducible refine C3.out.mono ?_)
  cases r3 with
  | error c =>
    rintro e Y3 ⟨rfl, hm3⟩
    refine ⟨rfl, ?_⟩
    have hk := HKK3.out
    simp only [bR_err] at hk
    rw [← hk]
    exact ⟨rfl, H0.out.goneR hm3⟩
  | ok v3 =>
    obtain ⟨x3, b3⟩ := v3
    rintro e Y3 ⟨u3, rfl, rfl, hb3, hm3⟩
    have HH3 := Lib.hid (H0.out.read hb3 hm3 (rId_at EE3.out))
    have hk3 := HKK3.out
    simp only [bR_ok] at hk3
    have HK3 := Lib.hid hk3
    clear hb3 hm3 hk3 C3 HKK3 l1
    have c4 : Y3.cell? ⟨P, 4, none⟩ = some (.int .i64 (p.id)) := HH3.out.pB.cell 4
    have f4 := HH3.out.pB.frozen 4
    obtain ⟨q4, eq4⟩ : ∃ q : Pk, { p with id := x3 } = q := ⟨_, rfl⟩
    obtain ⟨Z4, z4⟩ : ∃ Z, Y3.setCell ⟨P, 4, none⟩ (.int .i64 (x3)) = Z := ⟨_, rfl⟩
    have hh4 := HH3.out.set 4 (.int .i64 (x3)) ({ p with id := x3 }) (m) rfl ⟨HH3.out.o.ps, HH3.out.o.wps, HH3.out.o.cs, HH3.out.o.ss, HH3.out.o.fs⟩
    rw [z4, eq4] at hh4
    have HH4 := Lib.hid hh4
    have EQ4 := Lib.hid eq4
    clear hh4 eq4
    have hk5 := HK3.out
    rw [show ({ p with id := x3 } : Pk) = q4 from by rw [← EQ4.out]] at hk5
    have HK5 := Lib.hid hk5
    clear hk5
    obtain ⟨r6, e6⟩ : ∃ r, rEnd s q4 b3 = r := ⟨_, rfl⟩
    have C6 := Lib.hid (rend_any HH4.out)
    rw [e6] at C6
    have hk6 := HK5.out
    rw [e6] at hk6
    have HKK6 := Lib.hid hk6; clear hk6 e6
    go_wp2_with fail
    (with_reducible refine C6.out.mono ?_)
    cases r6 with
    | error c =>
      rintro e Y6 ⟨rfl, hg6⟩
      refine ⟨rfl, ?_⟩
      have hk := HKK6.out
      simp only [bR_err] at hk
      rw [← hk]
      exact ⟨rfl, hg6⟩
    | ok v6 =>
      obtain ⟨p6, b6⟩ := v6
      rintro e Y6 ⟨rfl, m6, hh6⟩
      have HH6 := Lib.hid hh6
      have hk6 := HKK6.out
      simp only [bR_ok] at hk6
      have HK6 := Lib.hid hk6
      clear hh6 hk6 C6 HKK6 c4 f4 z4
      have CL7 := Lib.hid (left_any R s b6 Y6 HH6.out.rB)
      go_wp2_with fail
      (with_reducible refine CL7.out.mono ?_)
      rintro e Y7 ⟨rfl, hb7, hh7⟩
      have HL7 := Lib.hid (HH6.out.heap hb7)
      clear hb7 hh7 CL7 
      by_cases hl7 : b6 < (s.size : Int)
      · have hd7 : decide (b6 < (s.size : Int)) = true := by simp [hl7]
        rw [hd7]
        have hk := HK6.out
        rw [if_pos hl7] at hk
        go_wp2_with (first | (go_at_call 30; (with_reducible refine (must_false _).mono ?_); rintro e YM ⟨rfl, rfl⟩) | (fail))
        refine ⟨rfl, ?_⟩
        rw [← hk]
        exact ⟨rfl, HL7.out.gone⟩
      · have hd7 : decide (b6 < (s.size : Int)) = false := by simp [hl7]
        rw [hd7]
        have hk := HK6.out
        rw [if_neg hl7] at hk
        go_wp2_with (first | (go_at_call 30; (with_reducible refine (must_true _).mono ?_); rintro e YM ⟨rfl, rfl⟩) | (fail))
        go_end0
        rw [← hk]
        exact ⟨rfl, _, HL7.out⟩
set_option maxHeartbeats 8000000 in
set_option maxRecDepth 100000 in
theorem body_5 {w : World} {R P : Nat} {s : ByteArray} {a : Int} {p : Pk} {m : Hs} {X : World} (h : St w R P s a p m X) (hw : Tabs w) (hL : p.subs.length + p.filters.length + p.codes.length ≤ 1000) (hK : p.kind = 5) :
    Calls Tryd.prog 31 #[.pointer (some ⟨R, 0, none⟩), .pointer (some ⟨P, 0, none⟩)] X (PkPost' w R P s (bindR (rAck s p a) fun p a => if a < s.size then .error 129 else .ok (p, a))) := by
  have H0 := Lib.hid h
  have HW := Lib.hid hw; have HLL := Lib.hid hL; have HKD := Lib.hid hK
  obtain ⟨RES, hres⟩ : ∃ RES, (bindR (rAck s p a) fun p a => if a < (s.size : Int) then (.error 129 : RR Pk) else .ok (p, a)) = RES := ⟨_, rfl⟩
  rw [hres]
  have HK0 := Lib.hid hres
  clear h hres hw hL hK
  have l1 : X.cell? ⟨P, 0, none⟩ = some (.int .i64 (5)) := (H0.out.pB.cell 0).trans (by show some (Value.int .i64 (p.kind)) = _; rw [HKD.out])
  go_enter Tryd.func31, Tryd.ntmps31
  have hk := HK0.out
  unfold rAck at hk
  rw [bR_assoc] at hk
  have HK2 := Lib.hid hk; clear hk
  obtain ⟨r3, e3⟩ : ∃ r, rId s a = r := ⟨_, rfl⟩
  have C3 := Lib.hid (rid_any R s a X H0.out.rB H0.out.sz H0.out.a0 H0.out.a1)
  rw [e3] at C3
  have hk3 := HK2.out
  rw [e3] at hk3
  have EE3 := Lib.hid e3
  clear e3
  have HKK3 := Lib.hid hk3; clear hk3
  go_wp2_with (first | (fail))
  (with_reducible refine C3.out.mono ?_)
  cases r3 with
  | error c =>
    rintro e Y3 ⟨rfl, hm3⟩
    refine ⟨rfl, ?_⟩
    have hk := HKK3.out
    simp only [bR_err] at hk
    rw [← hk]
    exact ⟨rfl, H0.out.goneR hm3⟩
  | ok v3 =>
    obtain ⟨x3, b3⟩ := v3
    rintro e Y3 ⟨u3, rfl, rfl, hb3, hm3⟩
    have HH3 := Lib.hid (H0.out.read hb3 hm3 (rId_at EE3.out))
    have hk3 := HKK3.out
    simp only [bR_ok] at hk3
    have HK3 := Lib.hid hk3
    clear hb3 hm3 hk3 C3 HKK3 l1
    have c4 : Y3.cell? ⟨P, 4, none⟩ = some (.int .i64 (p.id)) := HH3.out.pB.cell 4
    have f4 := HH3.out.pB.frozen 4
    obtain ⟨q4, eq4⟩ : ∃ q : Pk, { p with id := x3 } = q := ⟨_, rfl⟩
    obtain ⟨Z4, z4⟩ : ∃ Z, Y3.setCell ⟨P, 4, none⟩ (.int .i64 (x3)) = Z := ⟨_, rfl⟩
    have hh4 := HH3.out.set 4 (.int .i64 (x3)) ({ p with id := x3 }) (m) rfl ⟨HH3.out.o.ps, HH3.out.o.wps, HH3.out.o.cs, HH3.out.o.ss, HH3.out.o.fs⟩
    rw [z4, eq4] at hh4
    have HH4 := Lib.hid hh4
    have EQ4 := Lib.hid eq4
    clear hh4 eq4
    have hk5 := HK3.out
    rw [show ({ p with id := x3 } : Pk) = q4 from by rw [← EQ4.out]] at hk5
    have HK5 := Lib.hid hk5
    clear hk5
    obtain ⟨r6, e6⟩ : ∃ r, rEnd s q4 b3 = r := ⟨_, rfl⟩
    have C6 := Lib.hid (rend_any HH4.out)
    rw [e6] at C6
    have hk6 := HK5.out
    rw [e6] at hk6
    have HKK6 := Lib.hid hk6; clear hk6 e6
    go_wp2_with fail
    (with_reducible refine C6.out.mono ?_)
    cases r6 with
    | error c =>
      rintro e Y6 ⟨rfl, hg6⟩
      refine ⟨rfl, ?_⟩
      have hk := HKK6.out
      simp only [bR_err] at hk
      rw [← hk]
      exact ⟨rfl, hg6⟩
    | ok v6 =>
      obtain ⟨p6, b6⟩ := v6
      rintro e Y6 ⟨rfl, m6, hh6⟩
      have HH6 := Lib.hid hh6
      have hk6 := HKK6.out
      simp only [bR_ok] at hk6
      have HK6 := Lib.hid hk6
      clear hh6 hk6 C6 HKK6 c4 f4 z4
      have CL7 := Lib.hid (left_any R s b6 Y6 HH6.out.rB)
      go_wp2_with fail
      (with_reducible refine CL7.out.mono ?_)
      rintro e Y7 ⟨rfl, hb7, hh7⟩
      have HL7 := Lib.hid (HH6.out.heap hb7)
      clear hb7 hh7 CL7 
      by_cases hl7 : b6 < (s.size : Int)
      · have hd7 : decide (b6 < (s.size : Int)) = true := by simp [hl7]
        rw [hd7]
        have hk := HK6.out
        rw [if_pos hl7] at hk
        go_wp2_with (first | (go_at_call 30; (with_reducible refine (must_false _).mono ?_); rintro e YM ⟨rfl, rfl⟩) | (fail))
        refine ⟨rfl, ?_⟩
        rw [← hk]
        exact ⟨rfl, HL7.out.gone⟩
      · have hd7 : decide (b6 < (s.size : Int)) = false := by simp [hl7]
        rw [hd7]
        have hk := HK6.out
        rw [if_neg hl7] at hk
        go_wp2_with (first | (go_at_call 30; (with_reducible refine (must_true _).mono ?_); rintro e YM ⟨rfl, rfl⟩) | (fail))
        go_end0
        rw [← hk]
        exact ⟨rfl, _, HL7.out⟩
set_option maxHeartbeats 8000000 in
set_option maxRecDepth 100000 in
theorem body_6 {w : World} {R P : Nat} {s : ByteArray} {a : Int} {p : Pk} {m : Hs} {X : World} (h : St w R P s a p m X) (hw : Tabs w) (hL : p.subs.length + p.filters.length + p.codes.length ≤ 1000) (hK : p.kind = 6) :
    Calls Tryd.prog 31 #[.pointer (some ⟨R, 0, none⟩), .pointer (some ⟨P, 0, none⟩)] X (PkPost' w R P s (bindR (rAck s p a) fun p a => if a < s.size then .error 129 else .ok (p, a))) := by
  have H0 := Lib.hid h
  have HW := Lib.hid hw; have HLL := Lib.hid hL; have HKD := Lib.hid hK
  obtain ⟨RES, hres⟩ : ∃ RES, (bindR (rAck s p a) fun p a => if a < (s.size : Int) then (.error 129 : RR Pk) else .ok (p, a)) = RES := ⟨_, rfl⟩
  rw [hres]
  have HK0 := Lib.hid hres
  clear h hres hw hL hK
  have l1 : X.cell? ⟨P, 0, none⟩ = some (.int .i64 (6)) := (H0.out.pB.cell 0).trans (by show some (Value.int .i64 (p.kind)) = _; rw [HKD.out])
  go_enter Tryd.func31, Tryd.ntmps31
  have hk := HK0.out
  unfold rAck at hk
  rw [bR_assoc] at hk
  have HK2 := Lib.hid hk; clear hk
  obtain ⟨r3, e3⟩ : ∃ r, rId s a = r := ⟨_, rfl⟩
  have C3 := Lib.hid (rid_any R s a X H0.out.rB H0.out.sz H0.out.a0 H0.out.a1)
  rw [e3] at C3
  have hk3 := HK2.out
  rw [e3] at hk3
  have EE3 := Lib.hid e3
  clear e3
  have HKK3 := Lib.hid hk3; clear hk3
  go_wp2_with (first | (fail))
  (with_reducible refine C3.out.mono ?_)
  cases r3 with
  | error c =>
    rintro e Y3 ⟨rfl, hm3⟩
    refine ⟨rfl, ?_⟩
    have hk := HKK3.out
    simp only [bR_err] at hk
    rw [← hk]
    exact ⟨rfl, H0.out.goneR hm3⟩
  | ok v3 =>
    obtain ⟨x3, b3⟩ := v3
    rintro e Y3 ⟨u3, rfl, rfl, hb3, hm3⟩
    have HH3 := Lib.hid (H0.out.read hb3 hm3 (rId_at EE3.out))
    have hk3 := HKK3.out
    simp only [bR_ok] at hk3
    have HK3 := Lib.hid hk3
    clear hb3 hm3 hk3 C3 HKK3 l1
    have c4 : Y3.cell? ⟨P, 4, none⟩ = some (.int .i64 (p.id)) := HH3.out.pB.cell 4
    have f4 := HH3.out.pB.frozen 4
    obtain ⟨q4, eq4⟩ : ∃ q : Pk, { p with id := x3 } = q := ⟨_, rfl⟩
    obtain ⟨Z4, z4⟩ : ∃ Z, Y3.setCell ⟨P, 4, none⟩ (.int .i64 (x3)) = Z := ⟨_, rfl⟩
    have hh4 := HH3.out.set 4 (.int .i64 (x3)) ({ p with id := x3 }) (m) rfl ⟨HH3.out.o.ps, HH3.out.o.wps, HH3.out.o.cs, HH3.out.o.ss, HH3.out.o.fs⟩
    rw [z4, eq4] at hh4
    have HH4 := Lib.hid hh4
    have EQ4 := Lib.hid eq4
    clear hh4 eq4
    have hk5 := HK3.out
    rw [show ({ p with id := x3 } : Pk) = q4 from by rw [← EQ4.out]] at hk5
    have HK5 := Lib.hid hk5
    clear hk5
    obtain ⟨r6, e6⟩ : ∃ r, rEnd s q4 b3 = r := ⟨_, rfl⟩
    have C6 := Lib.hid (rend_any HH4.out)
    rw [e6] at C6
    have hk6 := HK5.out
    rw [e6] at hk6
    have HKK6 := Lib.hid hk6; clear hk6 e6
    go_wp2_with fail
    (with_reducible refine C6.out.mono ?_)
    cases r6 with
    | error c =>
      rintro e Y6 ⟨rfl, hg6⟩
      refine ⟨rfl, ?_⟩
      have hk := HKK6.out
      simp only [bR_err] at hk
      rw [← hk]
      exact ⟨rfl, hg6⟩
    | ok v6 =>
      obtain ⟨p6, b6⟩ := v6
      rintro e Y6 ⟨rfl, m6, hh6⟩
      have HH6 := Lib.hid hh6
      have hk6 := HKK6.out
      simp only [bR_ok] at hk6
      have HK6 := Lib.hid hk6
      clear hh6 hk6 C6 HKK6 c4 f4 z4
      have CL7 := Lib.hid (left_any R s b6 Y6 HH6.out.rB)
      go_wp2_with fail
      (with_reducible refine CL7.out.mono ?_)
      rintro e Y7 ⟨rfl, hb7, hh7⟩
      have HL7 := Lib.hid (HH6.out.heap hb7)
      clear hb7 hh7 CL7 
      by_cases hl7 : b6 < (s.size : Int)
      · have hd7 : decide (b6 < (s.size : Int)) = true := by simp [hl7]
        rw [hd7]
        have hk := HK6.out
        rw [if_pos hl7] at hk
        go_wp2_with (first | (go_at_call 30; (with_reducible refine (must_false _).mono ?_); rintro e YM ⟨rfl, rfl⟩) | (fail))
        refine ⟨rfl, ?_⟩
        rw [← hk]
        exact ⟨rfl, HL7.out.gone⟩
      · have hd7 : decide (b6 < (s.size : Int)) = false := by simp [hl7]
        rw [hd7]
        have hk := HK6.out
        rw [if_neg hl7] at hk
        go_wp2_with (first | (go_at_call 30; (with_reducible refine (must_true _).mono ?_); rintro e YM ⟨rfl, rfl⟩) | (fail))
        go_end0
        rw [← hk]
        exact ⟨rfl, _, HL7.out⟩
set_option maxHeartbeats 8000000 in
set_option maxRecDepth 100000 in
theorem body_7 {w : World} {R P : Nat} {s : ByteArray} {a : Int} {p : Pk} {m : Hs} {X : World} (h : St w R P s a p m X) (hw : Tabs w) (hL : p.subs.length + p.filters.length + p.codes.length ≤ 1000) (hK : p.kind = 7) :
    Calls Tryd.prog 31 #[.pointer (some ⟨R, 0, none⟩), .pointer (some ⟨P, 0, none⟩)] X (PkPost' w R P s (bindR (rAck s p a) fun p a => if a < s.size then .error 129 else .ok (p, a))) := by
  have H0 := Lib.hid h
  have HW := Lib.hid hw; have HLL := Lib.hid hL; have HKD := Lib.hid hK
  obtain ⟨RES, hres⟩ : ∃ RES, (bindR (rAck s p a) fun p a => if a < (s.size : Int) then (.error 129 : RR Pk) else .ok (p, a)) = RES := ⟨_, rfl⟩
  rw [hres]
  have HK0 := Lib.hid hres
  clear h hres hw hL hK
  have l1 : X.cell? ⟨P, 0, none⟩ = some (.int .i64 (7)) := (H0.out.pB.cell 0).trans (by show some (Value.int .i64 (p.kind)) = _; rw [HKD.out])
  go_enter Tryd.func31, Tryd.ntmps31
  have hk := HK0.out
  unfold rAck at hk
  rw [bR_assoc] at hk
  have HK2 := Lib.hid hk; clear hk
  obtain ⟨r3, e3⟩ : ∃ r, rId s a = r := ⟨_, rfl⟩
  have C3 := Lib.hid (rid_any R s a X H0.out.rB H0.out.sz H0.out.a0 H0.out.a1)
  rw [e3] at C3
  have hk3 := HK2.out
  rw [e3] at hk3
  have EE3 := Lib.hid e3
  clear e3
  have HKK3 := Lib.hid hk3; clear hk3
  go_wp2_with (first | (fail))
  (with_reducible refine C3.out.mono ?_)
  cases r3 with
  | error c =>
    rintro e Y3 ⟨rfl, hm3⟩
    refine ⟨rfl, ?_⟩
    have hk := HKK3.out
    simp only [bR_err] at hk
    rw [← hk]
    exact ⟨rfl, H0.out.goneR hm3⟩
  | ok v3 =>
    obtain ⟨x3, b3⟩ := v3
    rintro e Y3 ⟨u3, rfl, rfl, hb3, hm3⟩
    have HH3 := Lib.hid (H0.out.read hb3 hm3 (rId_at EE3.out))
    have hk3 := HKK3.out
    simp only [bR_ok] at hk3
    have HK3 := Lib.hid hk3
    clear hb3 hm3 hk3 C3 HKK3 l1
    have c4 : Y3.cell? ⟨P, 4, none⟩ = some (.int .i64 (p.id)) := HH3.out.pB.cell 4
    have f4 := HH3.out.pB.frozen 4
    obtain ⟨q4, eq4⟩ : ∃ q : Pk, { p with id := x3 } = q := ⟨_, rfl⟩
    obtain ⟨Z4, z4⟩ : ∃ Z, Y3.setCell ⟨P, 4, none⟩ (.int .i64 (x3)) = Z := ⟨_, rfl⟩
    have hh4 := HH3.out.set 4 (.int .i64 (x3)) ({ p with id := x3 }) (m) rfl ⟨HH3.out.o.ps, HH3.out.o.wps, HH3.out.o.cs, HH3.out.o.ss, HH3.out.o.fs⟩
    rw [z4, eq4] at hh4
    have HH4 := Lib.hid hh4
    have EQ4 := Lib.hid eq4
    clear hh4 eq4
    have hk5 := HK3.out
    rw [show ({ p with id := x3 } : Pk) = q4 from by rw [← EQ4.out]] at hk5
    have HK5 := Lib.hid hk5
    clear hk5
    obtain ⟨r6, e6⟩ : ∃ r, rEnd s q4 b3 = r := ⟨_, rfl⟩
    have C6 := Lib.hid (rend_any HH4.out)
    rw [e6] at C6
    have hk6 := HK5.out
    rw [e6] at hk6
    have HKK6 := Lib.hid hk6; clear hk6 e6
    go_wp2_with fail
    (with_reducible refine C6.out.mono ?_)
    cases r6 with
    | error c =>
      rintro e Y6 ⟨rfl, hg6⟩
      refine ⟨rfl, ?_⟩
      have hk := HKK6.out
      simp only [bR_err] at hk
      rw [← hk]
      exact ⟨rfl, hg6⟩
    | ok v6 =>
      obtain ⟨p6, b6⟩ := v6
      rintro e Y6 ⟨rfl, m6, hh6⟩
      have HH6 := Lib.hid hh6
      have hk6 := HKK6.out
      simp only [bR_ok] at hk6
      have HK6 := Lib.hid hk6
      clear hh6 hk6 C6 HKK6 c4 f4 z4
      have CL7 := Lib.hid (left_any R s b6 Y6 HH6.out.rB)
      go_wp2_with fail
      (with_reducible refine CL7.out.mono ?_)
      rintro e Y7 ⟨rfl, hb7, hh7⟩
      have HL7 := Lib.hid (HH6.out.heap hb7)
      clear hb7 hh7 CL7 
      by_cases hl7 : b6 < (s.size : Int)
      · have hd7 : decide (b6 < (s.size : Int)) = true := by simp [hl7]
        rw [hd7]
        have hk := HK6.out
        rw [if_pos hl7] at hk
        go_wp2_with (first | (go_at_call 30; (with_reducible refine (must_false _).mono ?_); rintro e YM ⟨rfl, rfl⟩) | (fail))
        refine ⟨rfl, ?_⟩
        rw [← hk]
        exact ⟨rfl, HL7.out.gone⟩
      · have hd7 : decide (b6 < (s.size : Int)) = false := by simp [hl7]
        rw [hd7]
        have hk := HK6.out
        rw [if_neg hl7] at hk
        go_wp2_with (first | (go_at_call 30; (with_reducible refine (must_true _).mono ?_); rintro e YM ⟨rfl, rfl⟩) | (fail))
        go_end0
        rw [← hk]
        exact ⟨rfl, _, HL7.out⟩
set_option maxHeartbeats 8000000 in
set_option maxRecDepth 100000 in
theorem body_14 {w : World} {R P : Nat} {s : ByteArray} {a : Int} {p : Pk} {m : Hs} {X : World} (h : St w R P s a p m X) (hw : Tabs w) (hL : p.subs.length + p.filters.length + p.codes.length ≤ 1000) (hK : p.kind = 14) :
    Calls Tryd.prog 31 #[.pointer (some ⟨R, 0, none⟩), .pointer (some ⟨P, 0, none⟩)] X (PkPost' w R P s (bindR (rEnd s p a) fun p a => if a < s.size then .error 129 else .ok (p, a))) := by
  have H0 := Lib.hid h
  have HW := Lib.hid hw; have HLL := Lib.hid hL; have HKD := Lib.hid hK
  obtain ⟨RES, hres⟩ : ∃ RES, (bindR (rEnd s p a) fun p a => if a < (s.size : Int) then (.error 129 : RR Pk) else .ok (p, a)) = RES := ⟨_, rfl⟩
  rw [hres]
  have HK0 := Lib.hid hres
  clear h hres hw hL hK
  have l1 : X.cell? ⟨P, 0, none⟩ = some (.int .i64 (14)) := (H0.out.pB.cell 0).trans (by show some (Value.int .i64 (p.kind)) = _; rw [HKD.out])
  go_enter Tryd.func31, Tryd.ntmps31
  obtain ⟨r2, e2⟩ : ∃ r, rEnd s p a = r := ⟨_, rfl⟩
  have C2 := Lib.hid (rend_any H0.out)
  rw [e2] at C2
  have hk2 := HK0.out
  rw [e2] at hk2
  have HKK2 := Lib.hid hk2; clear hk2 e2
  go_wp2_with fail
  (with_reducible refine C2.out.mono ?_)
  cases r2 with
  | error c =>
    rintro e Y2 ⟨rfl, hg2⟩
    refine ⟨rfl, ?_⟩
    have hk := HKK2.out
    simp only [bR_err] at hk
    rw [← hk]
    exact ⟨rfl, hg2⟩
  | ok v2 =>
    obtain ⟨p2, b2⟩ := v2
    rintro e Y2 ⟨rfl, m2, hh2⟩
    have HH2 := Lib.hid hh2
    have hk2 := HKK2.out
    simp only [bR_ok] at hk2
    have HK2 := Lib.hid hk2
    clear hh2 hk2 C2 HKK2 l1
    have CL3 := Lib.hid (left_any R s b2 Y2 HH2.out.rB)
    go_wp2_with fail
    (with_reducible refine CL3.out.mono ?_)
    rintro e Y3 ⟨rfl, hb3, hh3⟩
    have HL3 := Lib.hid (HH2.out.heap hb3)
    clear hb3 hh3 CL3 
    by_cases hl3 : b2 < (s.size : Int)
    · have hd3 : decide (b2 < (s.size : Int)) = true := by simp [hl3]
      rw [hd3]
      have hk := HK2.out
      rw [if_pos hl3] at hk
      go_wp2_with (first | (go_at_call 30; (with_reducible refine (must_false _).mono ?_); rintro e YM ⟨rfl, rfl⟩) | (fail))
      refine ⟨rfl, ?_⟩
      rw [← hk]
      exact ⟨rfl, HL3.out.gone⟩
    · have hd3 : decide (b2 < (s.size : Int)) = false := by simp [hl3]
      rw [hd3]
      have hk := HK2.out
      rw [if_neg hl3] at hk
      go_wp2_with (first | (go_at_call 30; (with_reducible refine (must_true _).mono ?_); rintro e YM ⟨rfl, rfl⟩) | (fail))
      go_end0
      rw [← hk]
      exact ⟨rfl, _, HL3.out⟩
set_option maxHeartbeats 8000000 in
set_option maxRecDepth 100000 in
theorem body_15 {w : World} {R P : Nat} {s : ByteArray} {a : Int} {p : Pk} {m : Hs} {X : World} (h : St w R P s a p m X) (hw : Tabs w) (hL : p.subs.length + p.filters.length + p.codes.length ≤ 1000) (hK : p.kind = 15) :
    Calls Tryd.prog 31 #[.pointer (some ⟨R, 0, none⟩), .pointer (some ⟨P, 0, none⟩)] X (PkPost' w R P s (bindR (rEnd s p a) fun p a => if a < s.size then .error 129 else .ok (p, a))) := by
  have H0 := Lib.hid h
  have HW := Lib.hid hw; have HLL := Lib.hid hL; have HKD := Lib.hid hK
  obtain ⟨RES, hres⟩ : ∃ RES, (bindR (rEnd s p a) fun p a => if a < (s.size : Int) then (.error 129 : RR Pk) else .ok (p, a)) = RES := ⟨_, rfl⟩
  rw [hres]
  have HK0 := Lib.hid hres
  clear h hres hw hL hK
  have l1 : X.cell? ⟨P, 0, none⟩ = some (.int .i64 (15)) := (H0.out.pB.cell 0).trans (by show some (Value.int .i64 (p.kind)) = _; rw [HKD.out])
  go_enter Tryd.func31, Tryd.ntmps31
  obtain ⟨r2, e2⟩ : ∃ r, rEnd s p a = r := ⟨_, rfl⟩
  have C2 := Lib.hid (rend_any H0.out)
  rw [e2] at C2
  have hk2 := HK0.out
  rw [e2] at hk2
  have HKK2 := Lib.hid hk2; clear hk2 e2
  go_wp2_with fail
  (with_reducible refine C2.out.mono ?_)
  cases r2 with
  | error c =>
    rintro e Y2 ⟨rfl, hg2⟩
    refine ⟨rfl, ?_⟩
    have hk := HKK2.out
    simp only [bR_err] at hk
    rw [← hk]
    exact ⟨rfl, hg2⟩
  | ok v2 =>
    obtain ⟨p2, b2⟩ := v2
    rintro e Y2 ⟨rfl, m2, hh2⟩
    have HH2 := Lib.hid hh2
    have hk2 := HKK2.out
    simp only [bR_ok] at hk2
    have HK2 := Lib.hid hk2
    clear hh2 hk2 C2 HKK2 l1
    have CL3 := Lib.hid (left_any R s b2 Y2 HH2.out.rB)
    go_wp2_with fail
    (with_reducible refine CL3.out.mono ?_)
    rintro e Y3 ⟨rfl, hb3, hh3⟩
    have HL3 := Lib.hid (HH2.out.heap hb3)
    clear hb3 hh3 CL3 
    by_cases hl3 : b2 < (s.size : Int)
    · have hd3 : decide (b2 < (s.size : Int)) = true := by simp [hl3]
      rw [hd3]
      have hk := HK2.out
      rw [if_pos hl3] at hk
      go_wp2_with (first | (go_at_call 30; (with_reducible refine (must_false _).mono ?_); rintro e YM ⟨rfl, rfl⟩) | (fail))
      refine ⟨rfl, ?_⟩
      rw [← hk]
      exact ⟨rfl, HL3.out.gone⟩
    · have hd3 : decide (b2 < (s.size : Int)) = false := by simp [hl3]
      rw [hd3]
      have hk := HK2.out
      rw [if_neg hl3] at hk
      go_wp2_with (first | (go_at_call 30; (with_reducible refine (must_true _).mono ?_); rintro e YM ⟨rfl, rfl⟩) | (fail))
      go_end0
      rw [← hk]
      exact ⟨rfl, _, HL3.out⟩
set_option maxHeartbeats 8000000 in
set_option maxRecDepth 100000 in
theorem body_8 {w : World} {R P : Nat} {s : ByteArray} {a : Int} {p : Pk} {m : Hs} {X : World} (h : St w R P s a p m X) (hw : Tabs w) (hL : p.subs.length + p.filters.length + p.codes.length ≤ 1000) (hK : p.kind = 8) :
    Calls Tryd.prog 31 #[.pointer (some ⟨R, 0, none⟩), .pointer (some ⟨P, 0, none⟩)] X (PkPost' w R P s (bindR (rLists s p a) fun p a => if a < s.size then .error 129 else .ok (p, a))) := by
  have H0 := Lib.hid h
  have HW := Lib.hid hw; have HLL := Lib.hid hL; have HKD := Lib.hid hK
  obtain ⟨RES, hres⟩ : ∃ RES, (bindR (rLists s p a) fun p a => if a < (s.size : Int) then (.error 129 : RR Pk) else .ok (p, a)) = RES := ⟨_, rfl⟩
  rw [hres]
  have HK0 := Lib.hid hres
  clear h hres hw hL hK
  have l1 : X.cell? ⟨P, 0, none⟩ = some (.int .i64 (8)) := (H0.out.pB.cell 0).trans (by show some (Value.int .i64 (p.kind)) = _; rw [HKD.out])
  go_enter Tryd.func31, Tryd.ntmps31
  obtain ⟨r2, e2⟩ : ∃ r, rLists s p a = r := ⟨_, rfl⟩
  have C2 := Lib.hid (rlists_any H0.out HW.out HLL.out)
  rw [e2] at C2
  have hk2 := HK0.out
  rw [e2] at hk2
  have HKK2 := Lib.hid hk2; clear hk2 e2
  go_wp2_with fail
  (with_reducible refine C2.out.mono ?_)
  cases r2 with
  | error c =>
    rintro e Y2 ⟨rfl, hg2⟩
    refine ⟨rfl, ?_⟩
    have hk := HKK2.out
    simp only [bR_err] at hk
    rw [← hk]
    exact ⟨rfl, hg2⟩
  | ok v2 =>
    obtain ⟨p2, b2⟩ := v2
    rintro e Y2 ⟨rfl, m2, hh2⟩
    have HH2 := Lib.hid hh2
    have hk2 := HKK2.out
    simp only [bR_ok] at hk2
    have HK2 := Lib.hid hk2
    clear hh2 hk2 C2 HKK2 l1
    have CL3 := Lib.hid (left_any R s b2 Y2 HH2.out.rB)
    go_wp2_with fail
    (with_reducible refine CL3.out.mono ?_)
    rintro e Y3 ⟨rfl, hb3, hh3⟩
    have HL3 := Lib.hid (HH2.out.heap hb3)
    clear hb3 hh3 CL3 
    by_cases hl3 : b2 < (s.size : Int)
    · have hd3 : decide (b2 < (s.size : Int)) = true := by simp [hl3]
      rw [hd3]
      have hk := HK2.out
      rw [if_pos hl3] at hk
      go_wp2_with (first | (go_at_call 30; (with_reducible refine (must_false _).mono ?_); rintro e YM ⟨rfl, rfl⟩) | (fail))
      refine ⟨rfl, ?_⟩
      rw [← hk]
      exact ⟨rfl, HL3.out.gone⟩
    · have hd3 : decide (b2 < (s.size : Int)) = false := by simp [hl3]
      rw [hd3]
      have hk := HK2.out
      rw [if_neg hl3] at hk
      go_wp2_with (first | (go_at_call 30; (with_reducible refine (must_true _).mono ?_); rintro e YM ⟨rfl, rfl⟩) | (fail))
      go_end0
      rw [← hk]
      exact ⟨rfl, _, HL3.out⟩
set_option maxHeartbeats 8000000 in
set_option maxRecDepth 100000 in
theorem body_9 {w : World} {R P : Nat} {s : ByteArray} {a : Int} {p : Pk} {m : Hs} {X : World} (h : St w R P s a p m X) (hw : Tabs w) (hL : p.subs.length + p.filters.length + p.codes.length ≤ 1000) (hK : p.kind = 9) :
    Calls Tryd.prog 31 #[.pointer (some ⟨R, 0, none⟩), .pointer (some ⟨P, 0, none⟩)] X (PkPost' w R P s (bindR (rLists s p a) fun p a => if a < s.size then .error 129 else .ok (p, a))) := by
  have H0 := Lib.hid h
  have HW := Lib.hid hw; have HLL := Lib.hid hL; have HKD := Lib.hid hK
  obtain ⟨RES, hres⟩ : ∃ RES, (bindR (rLists s p a) fun p a => if a < (s.size : Int) then (.error 129 : RR Pk) else .ok (p, a)) = RES := ⟨_, rfl⟩
  rw [hres]
  have HK0 := Lib.hid hres
  clear h hres hw hL hK
  have l1 : X.cell? ⟨P, 0, none⟩ = some (.int .i64 (9)) := (H0.out.pB.cell 0).trans (by show some (Value.int .i64 (p.kind)) = _; rw [HKD.out])
  go_enter Tryd.func31, Tryd.ntmps31
  obtain ⟨r2, e2⟩ : ∃ r, rLists s p a = r := ⟨_, rfl⟩
  have C2 := Lib.hid (rlists_any H0.out HW.out HLL.out)
  rw [e2] at C2
  have hk2 := HK0.out
  rw [e2] at hk2
  have HKK2 := Lib.hid hk2; clear hk2 e2
  go_wp2_with fail
  (with_reducible refine C2.out.mono ?_)
  cases r2 with
  | error c =>
    rintro e Y2 ⟨rfl, hg2⟩
    refine ⟨rfl, ?_⟩
    have hk := HKK2.out
    simp only [bR_err] at hk
    rw [← hk]
    exact ⟨rfl, hg2⟩
  | ok v2 =>
    obtain ⟨p2, b2⟩ := v2
    rintro e Y2 ⟨rfl, m2, hh2⟩
    have HH2 := Lib.hid hh2
    have hk2 := HKK2.out
    simp only [bR_ok] at hk2
    have HK2 := Lib.hid hk2
    clear hh2 hk2 C2 HKK2 l1
    have CL3 := Lib.hid (left_any R s b2 Y2 HH2.out.rB)
    go_wp2_with fail
    (with_reducible refine CL3.out.mono ?_)
    rintro e Y3 ⟨rfl, hb3, hh3⟩
    have HL3 := Lib.hid (HH2.out.heap hb3)
    clear hb3 hh3 CL3 
    by_cases hl3 : b2 < (s.size : Int)
    · have hd3 : decide (b2 < (s.size : Int)) = true := by simp [hl3]
      rw [hd3]
      have hk := HK2.out
      rw [if_pos hl3] at hk
      go_wp2_with (first | (go_at_call 30; (with_reducible refine (must_false _).mono ?_); rintro e YM ⟨rfl, rfl⟩) | (fail))
      refine ⟨rfl, ?_⟩
      rw [← hk]
      exact ⟨rfl, HL3.out.gone⟩
    · have hd3 : decide (b2 < (s.size : Int)) = false := by simp [hl3]
      rw [hd3]
      have hk := HK2.out
      rw [if_neg hl3] at hk
      go_wp2_with (first | (go_at_call 30; (with_reducible refine (must_true _).mono ?_); rintro e YM ⟨rfl, rfl⟩) | (fail))
      go_end0
      rw [← hk]
      exact ⟨rfl, _, HL3.out⟩
set_option maxHeartbeats 8000000 in
set_option maxRecDepth 100000 in
theorem body_10 {w : World} {R P : Nat} {s : ByteArray} {a : Int} {p : Pk} {m : Hs} {X : World} (h : St w R P s a p m X) (hw : Tabs w) (hL : p.subs.length + p.filters.length + p.codes.length ≤ 1000) (hK : p.kind = 10) :
    Calls Tryd.prog 31 #[.pointer (some ⟨R, 0, none⟩), .pointer (some ⟨P, 0, none⟩)] X (PkPost' w R P s (bindR (rLists s p a) fun p a => if a < s.size then .error 129 else .ok (p, a))) := by
  have H0 := Lib.hid h
  have HW := Lib.hid hw; have HLL := Lib.hid hL; have HKD := Lib.hid hK
  obtain ⟨RES, hres⟩ : ∃ RES, (bindR (rLists s p a) fun p a => if a < (s.size : Int) then (.error 129 : RR Pk) else .ok (p, a)) = RES := ⟨_, rfl⟩
  rw [hres]
  have HK0 := Lib.hid hres
  clear h hres hw hL hK
  have l1 : X.cell? ⟨P, 0, none⟩ = some (.int .i64 (10)) := (H0.out.pB.cell 0).trans (by show some (Value.int .i64 (p.kind)) = _; rw [HKD.out])
  go_enter Tryd.func31, Tryd.ntmps31
  obtain ⟨r2, e2⟩ : ∃ r, rLists s p a = r := ⟨_, rfl⟩
  have C2 := Lib.hid (rlists_any H0.out HW.out HLL.out)
  rw [e2] at C2
  have hk2 := HK0.out
  rw [e2] at hk2
  have HKK2 := Lib.hid hk2; clear hk2 e2
  go_wp2_with fail
  (with_reducible refine C2.out.mono ?_)
  cases r2 with
  | error c =>
    rintro e Y2 ⟨rfl, hg2⟩
    refine ⟨rfl, ?_⟩
    have hk := HKK2.out
    simp only [bR_err] at hk
    rw [← hk]
    exact ⟨rfl, hg2⟩
  | ok v2 =>
    obtain ⟨p2, b2⟩ := v2
    rintro e Y2 ⟨rfl, m2, hh2⟩
    have HH2 := Lib.hid hh2
    have hk2 := HKK2.out
    simp only [bR_ok] at hk2
    have HK2 := Lib.hid hk2
    clear hh2 hk2 C2 HKK2 l1
    have CL3 := Lib.hid (left_any R s b2 Y2 HH2.out.rB)
    go_wp2_with fail
    (with_reducible refine CL3.out.mono ?_)
    rintro e Y3 ⟨rfl, hb3, hh3⟩
    have HL3 := Lib.hid (HH2.out.heap hb3)
    clear hb3 hh3 CL3 
    by_cases hl3 : b2 < (s.size : Int)
    · have hd3 : decide (b2 < (s.size : Int)) = true := by simp [hl3]
      rw [hd3]
      have hk := HK2.out
      rw [if_pos hl3] at hk
      go_wp2_with (first | (go_at_call 30; (with_reducible refine (must_false _).mono ?_); rintro e YM ⟨rfl, rfl⟩) | (fail))
      refine ⟨rfl, ?_⟩
      rw [← hk]
      exact ⟨rfl, HL3.out.gone⟩
    · have hd3 : decide (b2 < (s.size : Int)) = false := by simp [hl3]
      rw [hd3]
      have hk := HK2.out
      rw [if_neg hl3] at hk
      go_wp2_with (first | (go_at_call 30; (with_reducible refine (must_true _).mono ?_); rintro e YM ⟨rfl, rfl⟩) | (fail))
      go_end0
      rw [← hk]
      exact ⟨rfl, _, HL3.out⟩
set_option maxHeartbeats 8000000 in
set_option maxRecDepth 100000 in
theorem body_11 {w : World} {R P : Nat} {s : ByteArray} {a : Int} {p : Pk} {m : Hs} {X : World} (h : St w R P s a p m X) (hw : Tabs w) (hL : p.subs.length + p.filters.length + p.codes.length ≤ 1000) (hK : p.kind = 11) :
    Calls Tryd.prog 31 #[.pointer (some ⟨R, 0, none⟩), .pointer (some ⟨P, 0, none⟩)] X (PkPost' w R P s (bindR (rLists s p a) fun p a => if a < s.size then .error 129 else .ok (p, a))) := by
  have H0 := Lib.hid h
  have HW := Lib.hid hw; have HLL := Lib.hid hL; have HKD := Lib.hid hK
  obtain ⟨RES, hres⟩ : ∃ RES, (bindR (rLists s p a) fun p a => if a < (s.size : Int) then (.error 129 : RR Pk) else .ok (p, a)) = RES := ⟨_, rfl⟩
  rw [hres]
  have HK0 := Lib.hid hres
  clear h hres hw hL hK
  have l1 : X.cell? ⟨P, 0, none⟩ = some (.int .i64 (11)) := (H0.out.pB.cell 0).trans (by show some (Value.int .i64 (p.kind)) = _; rw [HKD.out])
  go_enter Tryd.func31, Tryd.ntmps31
  obtain ⟨r2, e2⟩ : ∃ r, rLists s p a = r := ⟨_, rfl⟩
  have C2 := Lib.hid (rlists_any H0.out HW.out HLL.out)
  rw [e2] at C2
  have hk2 := HK0.out
  rw [e2] at hk2
  have HKK2 := Lib.hid hk2; clear hk2 e2
  go_wp2_with fail
  (with_reducible refine C2.out.mono ?_)
  cases r2 with
  | error c =>
    rintro e Y2 ⟨rfl, hg2⟩
    refine ⟨rfl, ?_⟩
    have hk := HKK2.out
    simp only [bR_err] at hk
    rw [← hk]
    exact ⟨rfl, hg2⟩
  | ok v2 =>
    obtain ⟨p2, b2⟩ := v2
    rintro e Y2 ⟨rfl, m2, hh2⟩
    have HH2 := Lib.hid hh2
    have hk2 := HKK2.out
    simp only [bR_ok] at hk2
    have HK2 := Lib.hid hk2
    clear hh2 hk2 C2 HKK2 l1
    have CL3 := Lib.hid (left_any R s b2 Y2 HH2.out.rB)
    go_wp2_with fail
    (with_reducible refine CL3.out.mono ?_)
    rintro e Y3 ⟨rfl, hb3, hh3⟩
    have HL3 := Lib.hid (HH2.out.heap hb3)
    clear hb3 hh3 CL3 
    by_cases hl3 : b2 < (s.size : Int)
    · have hd3 : decide (b2 < (s.size : Int)) = true := by simp [hl3]
      rw [hd3]
      have hk := HK2.out
      rw [if_pos hl3] at hk
      go_wp2_with (first | (go_at_call 30; (with_reducible refine (must_false _).mono ?_); rintro e YM ⟨rfl, rfl⟩) | (fail))
      refine ⟨rfl, ?_⟩
      rw [← hk]
      exact ⟨rfl, HL3.out.gone⟩
    · have hd3 : decide (b2 < (s.size : Int)) = false := by simp [hl3]
      rw [hd3]
      have hk := HK2.out
      rw [if_neg hl3] at hk
      go_wp2_with (first | (go_at_call 30; (with_reducible refine (must_true _).mono ?_); rintro e YM ⟨rfl, rfl⟩) | (fail))
      go_end0
      rw [← hk]
      exact ⟨rfl, _, HL3.out⟩
set_option maxHeartbeats 8000000 in
set_option maxRecDepth 100000 in
theorem body_12 {w : World} {R P : Nat} {s : ByteArray} {a : Int} {p : Pk} {m : Hs} {X : World} (h : St w R P s a p m X) (hw : Tabs w) (hL : p.subs.length + p.filters.length + p.codes.length ≤ 1000) (hK : p.kind = 12) :
    Calls Tryd.prog 31 #[.pointer (some ⟨R, 0, none⟩), .pointer (some ⟨P, 0, none⟩)] X (PkPost' w R P s (bindR (.ok (p, a)) fun p a => if a < s.size then .error 129 else .ok (p, a))) := by
  have H0 := Lib.hid h
  have HW := Lib.hid hw; have HLL := Lib.hid hL; have HKD := Lib.hid hK
  obtain ⟨RES, hres⟩ : ∃ RES, (bindR (.ok (p, a)) fun p a => if a < (s.size : Int) then (.error 129 : RR Pk) else .ok (p, a)) = RES := ⟨_, rfl⟩
  rw [hres]
  have HK0 := Lib.hid hres
  clear h hres hw hL hK
  have l1 : X.cell? ⟨P, 0, none⟩ = some (.int .i64 (12)) := (H0.out.pB.cell 0).trans (by show some (Value.int .i64 (p.kind)) = _; rw [HKD.out])
  go_enter Tryd.func31, Tryd.ntmps31
  have hk := HK0.out
  simp only [bR_ok] at hk
  have HK2 := Lib.hid hk; clear hk
  have CL3 := Lib.hid (left_any R s a X H0.out.rB)
  go_wp2_with fail
  (with_reducible refine CL3.out.mono ?_)
  rintro e Y3 ⟨rfl, hb3, hh3⟩
  have HL3 := Lib.hid (H0.out.heap hb3)
  clear hb3 hh3 CL3 l1
  by_cases hl3 : a < (s.size : Int)
  · have hd3 : decide (a < (s.size : Int)) = true := by simp [hl3]
    rw [hd3]
    have hk := HK2.out
    rw [if_pos hl3] at hk
    go_wp2_with (first | (go_at_call 30; (with_reducible refine (must_false _).mono ?_); rintro e YM ⟨rfl, rfl⟩) | (fail))
    refine ⟨rfl, ?_⟩
    rw [← hk]
    exact ⟨rfl, HL3.out.gone⟩
  · have hd3 : decide (a < (s.size : Int)) = false := by simp [hl3]
    rw [hd3]
    have hk := HK2.out
    rw [if_neg hl3] at hk
    go_wp2_with (first | (go_at_call 30; (with_reducible refine (must_true _).mono ?_); rintro e YM ⟨rfl, rfl⟩) | (fail))
    go_end0
    rw [← hk]
    exact ⟨rfl, _, HL3.out⟩
set_option maxHeartbeats 8000000 in
set_option maxRecDepth 100000 in
theorem body_13 {w : World} {R P : Nat} {s : ByteArray} {a : Int} {p : Pk} {m : Hs} {X : World} (h : St w R P s a p m X) (hw : Tabs w) (hL : p.subs.length + p.filters.length + p.codes.length ≤ 1000) (hK : p.kind = 13) :
    Calls Tryd.prog 31 #[.pointer (some ⟨R, 0, none⟩), .pointer (some ⟨P, 0, none⟩)] X (PkPost' w R P s (bindR (.ok (p, a)) fun p a => if a < s.size then .error 129 else .ok (p, a))) := by
  have H0 := Lib.hid h
  have HW := Lib.hid hw; have HLL := Lib.hid hL; have HKD := Lib.hid hK
  obtain ⟨RES, hres⟩ : ∃ RES, (bindR (.ok (p, a)) fun p a => if a < (s.size : Int) then (.error 129 : RR Pk) else .ok (p, a)) = RES := ⟨_, rfl⟩
  rw [hres]
  have HK0 := Lib.hid hres
  clear h hres hw hL hK
  have l1 : X.cell? ⟨P, 0, none⟩ = some (.int .i64 (13)) := (H0.out.pB.cell 0).trans (by show some (Value.int .i64 (p.kind)) = _; rw [HKD.out])
  go_enter Tryd.func31, Tryd.ntmps31
  have hk := HK0.out
  simp only [bR_ok] at hk
  have HK2 := Lib.hid hk; clear hk
  have CL3 := Lib.hid (left_any R s a X H0.out.rB)
  go_wp2_with fail
  (with_reducible refine CL3.out.mono ?_)
  rintro e Y3 ⟨rfl, hb3, hh3⟩
  have HL3 := Lib.hid (H0.out.heap hb3)
  clear hb3 hh3 CL3 l1
  by_cases hl3 : a < (s.size : Int)
  · have hd3 : decide (a < (s.size : Int)) = true := by simp [hl3]
    rw [hd3]
    have hk := HK2.out
    rw [if_pos hl3] at hk
    go_wp2_with (first | (go_at_call 30; (with_reducible refine (must_false _).mono ?_); rintro e YM ⟨rfl, rfl⟩) | (fail))
    refine ⟨rfl, ?_⟩
    rw [← hk]
    exact ⟨rfl, HL3.out.gone⟩
  · have hd3 : decide (a < (s.size : Int)) = false := by simp [hl3]
    rw [hd3]
    have hk := HK2.out
    rw [if_neg hl3] at hk
    go_wp2_with (first | (go_at_call 30; (with_reducible refine (must_true _).mono ?_); rintro e YM ⟨rfl, rfl⟩) | (fail))
    go_end0
    rw [← hk]
    exact ⟨rfl, _, HL3.out⟩
end Go.Proofs.YtlnanenfpapfkaaDoor
