/- Parts of the proof, joined: Gw9, Gw10, Wr5, Wr6, Wr9. -/
import Derived.Test.YtedapgeabpadaaaDoorJ6P7
import Derived.Test.YtedapgeabpadaaaDoorJ6P4
import Derived.Test.YtedapgeabpadaaaDoorJ6P5
import Derived.IntWalk
import Derived.BigQuiet
import Derived.Deep.QuietTactic
import Derived.Deep.RegionHeld3
set_option linter.unusedVariables false
set_option linter.unusedSimpArgs false
namespace Go.Proofs.YtedapgeabpadaaaDoor
open Go.RowKit Pl Go.Shelf Go.PlainAid


theorem St.setR {w : World} {R P : Nat} {s : ByteArray} {a b : Int} {p : Pk} {m : Hs} {X : World} (h : St w R P s a p m X) (hb : a ≤ b ∧ b ≤ s.size) : St w R P s b p m (X.setCell ⟨R, 1, none⟩ (.int .i64 b)) :=
  h.read (h.rB.set 1 (.int .i64 b)) ((Mod.refl (· = R) X).setCell (.inl rfl) _) ⟨hb.1, hb.2, h.a0⟩

theorem bR_assoc {α β γ : Type} {r : RR α} {f : α → Int → RR β} {g : β → Int → RR γ} : bindR (bindR r f) g = bindR r fun v a => bindR (f v a) g := by
  cases r with
  | error c => rfl
  | ok v => rfl

set_option maxHeartbeats 8000000 in
set_option maxRecDepth 100000 in
theorem body_1 {w : World} {R P : Nat} {s : ByteArray} {a : Int} {p : Pk} {m : Hs} {X : World} (h : St w R P s a p m X) (hw : Tabs w) (hL : p.subs.length + p.filters.length + p.codes.length ≤ 1000) (hK : p.kind = 1) :
    Calls Tryd.prog 35 #[.pointer (some ⟨R, 0, none⟩), .pointer (some ⟨P, 0, none⟩)] X (PkPost' w R P s (bindR (rConn s p a) fun p a => if a < s.size then .error 129 else .ok (p, a))) := by
  have H0 := Lib.hid h
  have HW := Lib.hid hw; have HLL := Lib.hid hL; have HKD := Lib.hid hK
  obtain ⟨RES, hres⟩ : ∃ RES, (bindR (rConn s p a) fun p a => if a < (s.size : Int) then (.error 129 : RR Pk) else .ok (p, a)) = RES := ⟨_, rfl⟩
  rw [hres]
  have HK0 := Lib.hid hres
  clear h hres hw hL hK
  have l1 : X.cell? ⟨P, 0, none⟩ = some (.int .i64 (1)) := (H0.out.pB.cell 0).trans (by show some (Value.int .i64 (p.kind)) = _; rw [HKD.out])
  go_enter Tryd.func35, Tryd.ntmps35
  obtain ⟨r2, e2⟩ : ∃ r, rConn s p a = r := ⟨_, rfl⟩
  have C2 := Lib.hid (rconn_any H0.out)
  rw [e2] at C2
  have hk2 := HK0.out
  rw [e2] at hk2
  have HKK2 := Lib.hid hk2; clear hk2 e2
  go_wp2_with fail
  (with_reducible refine C2.out.mono ?_)
  cases r2 with
  | error c =>
    rintro e Y2 ⟨rfl, hg2⟩
    refine ⟨rfl, ?_⟩
    have hk := HKK2.out
    simp only [bR_err] at hk
    rw [← hk]
    exact ⟨rfl, hg2⟩
  | ok v2 =>
    obtain ⟨p2, b2⟩ := v2
    rintro e Y2 ⟨rfl, m2, hh2⟩
    have HH2 := Lib.hid hh2
    have hk2 := HKK2.out
    simp only [bR_ok] at hk2
    have HK2 := Lib.hid hk2
    clear hh2 hk2 C2 HKK2 l1
    have CL3 := Lib.hid (left_any R s b2 Y2 HH2.out.rB)
    go_wp2_with fail
    (with_reducible refine CL3.out.mono ?_)
    rintro e Y3 ⟨rfl, hb3, hh3⟩
    have HL3 := Lib.hid (HH2.out.heap hb3)
    clear hb3 hh3 CL3 
    by_cases hl3 : b2 < (s.size : Int)
    · have hd3 : decide (b2 < (s.size : Int)) = true := by simp [hl3]
      rw [hd3]
      have hk := HK2.out
      rw [if_pos hl3] at hk
      go_wp2_with (first | (go_at_call 34; (with_reducible refine (must_false _).mono ?_); rintro e YM ⟨rfl, rfl⟩) | (fail))
      refine ⟨rfl, ?_⟩
      rw [← hk]
      exact ⟨rfl, HL3.out.gone⟩
    · have hd3 : decide (b2 < (s.size : Int)) = false := by simp [hl3]
      rw [hd3]
      have hk := HK2.out
      rw [if_neg hl3] at hk
      go_wp2_with (first | (go_at_call 34; (with_reducible refine (must_true _).mono ?_); rintro e YM ⟨rfl, rfl⟩) | (fail))
      go_end0
      rw [← hk]
      exact ⟨rfl, _, HL3.out⟩
set_option maxHeartbeats 8000000 in
set_option maxRecDepth 100000 in
theorem body_2 {w : World} {R P : Nat} {s : ByteArray} {a : Int} {p : Pk} {m : Hs} {X : World} (h : St w R P s a p m X) (hw : Tabs w) (hL : p.subs.length + p.filters.length + p.codes.length ≤ 1000) (hK : p.kind = 2) :
    Calls Tryd.prog 35 #[.pointer (some ⟨R, 0, none⟩), .pointer (some ⟨P, 0, none⟩)] X (PkPost' w R P s (bindR (rConnack s p a) fun p a => if a < s.size then .error 129 else .ok (p, a))) := by
  have H0 := Lib.hid h
  have HW := Lib.hid hw; have HLL := Lib.hid hL; have HKD := Lib.hid hK
  obtain ⟨RES, hres⟩ : ∃ RES, (bindR (rConnack s p a) fun p a => if a < (s.size : Int) then (.error 129 : RR Pk) else .ok (p, a)) = RES := ⟨_, rfl⟩
  rw [hres]
  have HK0 := Lib.hid hres
  clear h hres hw hL hK
  have l1 : X.cell? ⟨P, 0, none⟩ = some (.int .i64 (2)) := (H0.out.pB.cell 0).trans (by show some (Value.int .i64 (p.kind)) = _; rw [HKD.out])
  go_enter Tryd.func35, Tryd.ntmps35
  have hk := HK0.out
  unfold rConnack at hk
  rw [bR_assoc] at hk
  have HK2 := Lib.hid hk; clear hk
  obtain ⟨r3, e3⟩ : ∃ r, rNum s 1 a = r := ⟨_, rfl⟩
  have C3 := Lib.hid (rnum_any R s a 1 X H0.out.rB H0.out.sz H0.out.a0 H0.out.a1)
  rw [e3] at C3
  have hk3 := HK2.out
  rw [e3] at hk3
  have EE3 := Lib.hid e3
  clear e3
  have HKK3 := Lib.hid hk3; clear hk3
  go_wp2_with (first | (fail))
  (with_reducible refine C3.out.mono ?_)
  cases r3 with
  | error c =>
    rintro e Y3 ⟨rfl, hm3⟩
    refine ⟨rfl, ?_⟩
    have hk := HKK3.out
    simp only [bR_err] at hk
    rw [← hk]
    exact ⟨rfl, H0.out.goneR hm3⟩
  | ok v3 =>
    obtain ⟨x3, b3⟩ := v3
    rintro e Y3 ⟨u3, rfl, rfl, hb3, hm3⟩
    have HH3 := Lib.hid (H0.out.read hb3 hm3 (rNum_at EE3.out))
    have hk3 := HKK3.out
    simp only [bR_ok] at hk3
    have HK3 := Lib.hid hk3
    clear hb3 hm3 hk3 C3 HKK3 l1
    by_cases hn : x3 < 2
    · have hk := HK3.out
      rw [if_neg (show ¬ (2 : Int) ≤ x3 from by omega), bR_assoc] at hk
      have HK4 := Lib.hid hk; clear hk
      obtain ⟨bs, hbs⟩ : ∃ bs, decide (x3 = 1) = bs := ⟨_, rfl⟩
      have hbe : (x3 == 1) = bs := by rw [← hbs]; by_cases c : x3 = 1 <;> simp [c]
      have c5 : Y3.cell? ⟨P, 23, none⟩ = some (.bool (p.session)) := HH3.out.pB.cell 23
      have f5 := HH3.out.pB.frozen 23
      obtain ⟨q5, eq5⟩ : ∃ q : Pk, { p with session := bs } = q := ⟨_, rfl⟩
      obtain ⟨Z5, z5⟩ : ∃ Z, Y3.setCell ⟨P, 23, none⟩ (.bool (bs)) = Z := ⟨_, rfl⟩
      have hh5 := HH3.out.set 23 (.bool (bs)) ({ p with session := bs }) (m) rfl ⟨HH3.out.o.ps, HH3.out.o.wps, HH3.out.o.cs, HH3.out.o.ss, HH3.out.o.fs⟩
      rw [z5, eq5] at hh5
      have HH5 := Lib.hid hh5
      have EQ5 := Lib.hid eq5
      clear hh5 eq5
      obtain ⟨r6, e6⟩ : ∃ r, rNum s 1 b3 = r := ⟨_, rfl⟩
      have C6 := Lib.hid (rnum_any R s b3 1 Z5 HH5.out.rB HH5.out.sz HH5.out.a0 HH5.out.a1)
      rw [e6] at C6
      have hk6 := HK4.out
      rw [e6] at hk6
      have EE6 := Lib.hid e6
      clear e6
      have HKK6 := Lib.hid hk6; clear hk6
      go_wp2_with (first | (go_at_call 34; (with_reducible refine (must_true _).mono ?_); rintro e YM ⟨rfl, rfl⟩) | (fail))
      (with_reducible refine C6.out.mono ?_)
      cases r6 with
      | error c =>
        rintro e Y6 ⟨rfl, hm6⟩
        refine ⟨rfl, ?_⟩
        have hk := HKK6.out
        simp only [bR_err] at hk
        rw [← hk]
        exact ⟨rfl, HH5.out.goneR hm6⟩
      | ok v6 =>
        obtain ⟨x6, b6⟩ := v6
        rintro e Y6 ⟨u6, rfl, rfl, hb6, hm6⟩
        have HH6 := Lib.hid (HH5.out.read hb6 hm6 (rNum_at EE6.out))
        have hk6 := HKK6.out
        simp only [bR_ok] at hk6
        have HK6 := Lib.hid hk6
        clear hb6 hm6 hk6 C6 HKK6 c5 f5 z5
        have hk := HK6.out
        rw [bR_assoc] at hk
        have HK7 := Lib.hid hk; clear hk
        obtain ⟨hby0, hby1⟩ := rNum_byte EE6.out
        have hw6 : x6 % 256 = x6 := by omega
        have c8 : Y6.cell? ⟨P, 7, none⟩ = some (.int .u8 (q5.code)) := HH6.out.pB.cell 7
        have f8 := HH6.out.pB.frozen 7
        obtain ⟨q8, eq8⟩ : ∃ q : Pk, { q5 with code := x6 } = q := ⟨_, rfl⟩
        obtain ⟨Z8, z8⟩ : ∃ Z, Y6.setCell ⟨P, 7, none⟩ (.int .u8 (x6)) = Z := ⟨_, rfl⟩
        have hh8 := HH6.out.set 7 (.int .u8 (x6)) ({ q5 with code := x6 }) (m) rfl ⟨HH6.out.o.ps, HH6.out.o.wps, HH6.out.o.cs, HH6.out.o.ss, HH6.out.o.fs⟩
        rw [z8, eq8] at hh8
        have HH8 := Lib.hid hh8
        have EQ8 := Lib.hid eq8
        clear hh8 eq8
        obtain ⟨r9, e9⟩ : ∃ r, rProps 2 s b6 = r := ⟨_, rfl⟩
        have C9 := Lib.hid (rprops_any R s b6 2 Z8 HH8.out.rB HH8.out.sz HH8.out.a0 HH8.out.a1 HH8.out.tb)
        rw [e9] at C9
        have hk9 := HK7.out
        rw [e9] at hk9
        have EE9 := Lib.hid e9
        clear e9
        have HKK9 := Lib.hid hk9; clear hk9
        go_wp2_with (first | (fail))
        (with_reducible refine C9.out.mono ?_)
        cases r9 with
        | error c =>
          rintro e Y9 ⟨rfl, hm9⟩
          refine ⟨rfl, ?_⟩
          have hk := HKK9.out
          simp only [bR_err] at hk
          rw [← hk]
          exact ⟨rfl, HH8.out.goneR hm9⟩
        | ok v9 =>
          obtain ⟨x9, b9⟩ := v9
          rintro e Y9 ⟨u9, rfl, hps9, hb9, hm9⟩
          have HH9 := Lib.hid (HH8.out.read hb9 hm9 (rProps_at EE9.out HH8.out.a0))
          have hk9 := HKK9.out
          simp only [bR_ok] at hk9
          have HK9 := Lib.hid hk9
          obtain ⟨ao9, cp9, rfl, -⟩ := hps9.form
          have HS9 := Lib.hid (hps9.mono' HH8.out.md.size)
          clear hps9
          clear hb9 hm9 hk9 C9 HKK9 c8 f8 z8
          have c10 : Y9.cell? ⟨P, 9, none⟩ = some (.slice m.p.A m.p.n m.p.cap) := HH9.out.pB.cell 9
          have f10 := HH9.out.pB.frozen 9
          obtain ⟨q10, eq10⟩ : ∃ q : Pk, { q8 with ps := x9 } = q := ⟨_, rfl⟩
          obtain ⟨Z10, z10⟩ : ∃ Z, Y9.setCell ⟨P, 9, none⟩ (.slice ao9 x9.length cp9) = Z := ⟨_, rfl⟩
          have hh10 := HH9.out.set 9 (.slice ao9 x9.length cp9) ({ q8 with ps := x9 }) ({ m with p := ⟨ao9, x9.length, cp9⟩ }) rfl ⟨HS9.out, HH9.out.o.wps, HH9.out.o.cs, HH9.out.o.ss, HH9.out.o.fs⟩
          obtain ⟨M10, em10⟩ : ∃ M : Hs, { m with p := ⟨ao9, x9.length, cp9⟩ } = M := ⟨_, rfl⟩
          rw [z10, eq10, em10] at hh10
          clear em10
          have HH10 := Lib.hid hh10
          have EQ10 := Lib.hid eq10
          clear hh10 eq10
          have hk := HK9.out
          rw [hbs, show ({ p with session := bs, code := x6, ps := x9 } : Pk) = q10 from by rw [← EQ10.out, ← EQ8.out, ← EQ5.out]] at hk
          have HK11 := Lib.hid hk; clear hk
          have CL12 := Lib.hid (left_any R s b9 Z10 HH10.out.rB)
          go_wp2_with fail
          (with_reducible refine CL12.out.mono ?_)
          rintro e Y12 ⟨rfl, hb12, hh12⟩
          have HL12 := Lib.hid (HH10.out.heap hb12)
          clear hb12 hh12 CL12 c10 f10 z10
          by_cases hl12 : b9 < (s.size : Int)
          · have hd12 : decide (b9 < (s.size : Int)) = true := by simp [hl12]
            rw [hd12]
            have hk := HK11.out
            rw [if_pos hl12] at hk
            go_wp2_with (first | (go_at_call 34; (with_reducible refine (must_false _).mono ?_); rintro e YM ⟨rfl, rfl⟩) | (fail))
            refine ⟨rfl, ?_⟩
            rw [← hk]
            exact ⟨rfl, HL12.out.gone⟩
          · have hd12 : decide (b9 < (s.size : Int)) = false := by simp [hl12]
            rw [hd12]
            have hk := HK11.out
            rw [if_neg hl12] at hk
            go_wp2_with (first | (go_at_call 34; (with_reducible refine (must_true _).mono ?_); rintro e YM ⟨rfl, rfl⟩) | (fail))
            go_end0
            rw [← hk]
            exact ⟨rfl, _, HL12.out⟩
    · have hnd : decide (x3 < 2) = false := decide_eq_false hn
      have hk := HK3.out
      rw [if_pos (show (2 : Int) ≤ x3 from by omega)] at hk
      simp only [bR_err] at hk
      have HK13 := Lib.hid hk; clear hk
      go_wp2_with (first | (go_at_call 34; (with_reducible refine (must_false _).mono ?_); rintro e YM ⟨rfl, rfl⟩) | (fail))
      refine ⟨rfl, ?_⟩
      have hk := HK13.out
      rw [← hk]
      exact ⟨rfl, HH3.out.gone⟩
set_option maxHeartbeats 8000000 in
set_option maxRecDepth 100000 in
theorem body_4 {w : World} {R P : Nat} {s : ByteArray} {a : Int} {p : Pk} {m : Hs} {X : World} (h : St w R P s a p m X) (hw : Tabs w) (hL : p.subs.length + p.filters.length + p.codes.length ≤ 1000) (hK : p.kind = 4) :
    Calls Tryd.prog 35 #[.pointer (some ⟨R, 0, none⟩), .pointer (some ⟨P, 0, none⟩)] X (PkPost' w R P s (bindR (rAck s p a) fun p a => if a < s.size then .error 129 else .ok (p, a))) := by
  have H0 := Lib.hid h
  have HW := Lib.hid hw; have HLL := Lib.hid hL; have HKD := Lib.hid hK
  obtain ⟨RES, hres⟩ : ∃ RES, (bindR (rAck s p a) fun p a => if a < (s.size : Int) then (.error 129 : RR Pk) else .ok (p, a)) = RES := ⟨_, rfl⟩
  rw [hres]
  have HK0 := Lib.hid hres
  clear h hres hw hL hK
  have l1 : X.cell? ⟨P, 0, none⟩ = some (.int .i64 (4)) := (H0.out.pB.cell 0).trans (by show some (Value.int .i64 (p.kind)) = _; rw [HKD.out])
  go_enter Tryd.func35, Tryd.ntmps35
  have hk := HK0.out
  unfold rAck at hk
  rw [bR_assoc] at hk
  have HK2 := Lib.hid hk; clear hk
  obtain ⟨r3, e3⟩ : ∃ r, rId s a = r := ⟨_, rfl⟩
  have C3 := Lib.hid (rid_any R s a X H0.out.rB H0.out.sz H0.out.a0 H0.out.a1)
  rw [e3] at C3
  have hk3 := HK2.out
  rw [e3] at hk3
  have EE3 := Lib.hid e3
  clear e3
  have HKK3 := Lib.hid hk3; clear hk3
  go_wp2_with (first | (fail))
  (with_reducible refine C3.out.mono ?_)
  cases r3 with
  | error c =>
    rintro e Y3 ⟨rfl, hm3⟩
    refine ⟨rfl, ?_⟩
    have hk := HKK3.out
    simp only [bR_err] at hk
    rw [← hk]
    exact ⟨rfl, H0.out.goneR hm3⟩
  | ok v3 =>
    obtain ⟨x3, b3⟩ := v3
    rintro e Y3 ⟨u3, rfl, rfl, hb3, hm3⟩
    have HH3 := Lib.hid (H0.out.read hb3 hm3 (rId_at EE3.out))
    have hk3 := HKK3.out
    simp only [bR_ok] at hk3
    have HK3 := Lib.hid hk3
    clear hb3 hm3 hk3 C3 HKK3 l1
    have c4 : Y3.cell? ⟨P, 4, none⟩ = some (.int .i64 (p.id)) := HH3.out.pB.cell 4
    have f4 := HH3.out.pB.frozen 4
    obtain ⟨q4, eq4⟩ : ∃ q : Pk, { p with id := x3 } = q := ⟨_, rfl⟩
    obtain ⟨Z4, z4⟩ : ∃ Z, Y3.setCell ⟨P, 4, none⟩ (.int .i64 (x3)) = Z := ⟨_, rfl⟩
    have hh4 := HH3.out.set 4 (.int .i64 (x3)) ({ p with id := x3 }) (m) rfl ⟨HH3.out.o.ps, HH3.out.o.wps, HH3.out.o.cs, HH3.out.o.ss, HH3.out.o.fs⟩
    rw [z4, eq4] at hh4
    have HH4 := Lib.hid hh4
    have EQ4 := Lib.hid eq4
    clear hh4 eq4
    have hk5 := HK3.out
    rw [show ({ p with id := x3 } : Pk) = q4 from by rw [← EQ4.out]] at hk5
    have HK5 := Lib.hid hk5
    clear hk5
    obtain ⟨r6, e6⟩ : ∃ r, rEnd s q4 b3 = r := ⟨_, rfl⟩
    have C6 := Lib.hid (rend_any HH4.out)
    rw [e6] at C6
    have hk6 := HK5.out
    rw [e6] at hk6
    have HKK6 := Lib.hid hk6; clear hk6 e6
    go_wp2_with fail
    (with_reducible refine C6.out.mono ?_)
    cases r6 with
    | error c =>
      rintro e Y6 ⟨rfl, hg6⟩
      refine ⟨rfl, ?_⟩
      have hk := HKK6.out
      simp only [bR_err] at hk
      rw [← hk]
      exact ⟨rfl, hg6⟩
    | ok v6 =>
      obtain ⟨p6, b6⟩ := v6
      rintro e Y6 ⟨rfl, m6, hh6⟩
      have HH6 := Lib.hid hh6
      have hk6 := HKK6.out
      simp only [bR_ok] at hk6
      have HK6 := Lib.hid hk6
      clear hh6 hk6 C6 HKK6 c4 f4 z4
      have CL7 := Lib.hid (left_any R s b6 Y6 HH6.out.rB)
      go_wp2_with fail
      (with_reducible refine CL7.out.mono ?_)
      rintro e Y7 ⟨rfl, hb7, hh7⟩
      have HL7 := Lib.hid (HH6.out.heap hb7)
      clear hb7 hh7 CL7 
      by_cases hl7 : b6 < (s.size : Int)
      · have hd7 : decide (b6 < (s.size : Int)) = true := by simp [hl7]
        rw [hd7]
        have hk := HK6.out
        rw [if_pos hl7] at hk
        go_wp2_with (first | (go_at_call 34; (with_reducible refine (must_false _).mono ?_); rintro e YM ⟨rfl, rfl⟩) | (fail))
        refine ⟨rfl, ?_⟩
        rw [← hk]
        exact ⟨rfl, HL7.out.gone⟩
      · have hd7 : decide (b6 < (s.size : Int)) = false := by simp [hl7]
        rw [hd7]
        have hk := HK6.out
        rw [if_neg hl7] at hk
        go_wp2_with (first | (go_at_call 34; (with_reducible refine (must_true _).mono ?_); rintro e YM ⟨rfl, rfl⟩) | (fail))
        go_end0
        rw [← hk]
        exact ⟨rfl, _, HL7.out⟩
set_option maxHeartbeats 8000000 in
set_option maxRecDepth 100000 in
theorem body_5 {w : World} {R P : Nat} {s : ByteArray} {a : Int} {p : Pk} {m : Hs} {X : World} (h : St w R P s a p m X) (hw : Tabs w) (hL : p.subs.length + p.filters.length + p.codes.length ≤ 1000) (hK : p.kind = 5) :
    Calls Tryd.prog 35 #[.pointer (some ⟨R, 0, none⟩), .pointer (some ⟨P, 0, none⟩)] X (PkPost' w R P s (bindR (rAck s p a) fun p a => if a < s.size then .error 129 else .ok (p, a))) := by
  have H0 := Lib.hid h
  have HW := Lib.hid hw; have HLL := Lib.hid hL; have HKD := Lib.hid hK
  obtain ⟨RES, hres⟩ : ∃ RES, (bindR (rAck s p a) fun p a => if a < (s.size : Int) then (.error 129 : RR Pk) else .ok (p, a)) = RES := ⟨_, rfl⟩
  rw [hres]
  have HK0 := Lib.hid hres
  clear h hres hw hL hK
  have l1 : X.cell? ⟨P, 0, none⟩ = some (.int .i64 (5)) := (H0.out.pB.cell 0).trans (by show some (Value.int .i64 (p.kind)) = _; rw [HKD.out])
  go_enter Tryd.func35, Tryd.ntmps35
  have hk := HK0.out
  unfold rAck at hk
  rw [bR_assoc] at hk
  have HK2 := Lib.hid hk; clear hk
  obtain ⟨r3, e3⟩ : ∃ r, rId s a = r := ⟨_, rfl⟩
  have C3 := Lib.hid (rid_any R s a X H0.out.rB H0.out.sz H0.out.a0 H0.out.a1)
  rw [e3] at C3
  have hk3 := HK2.out
  rw [e3] at hk3
  have EE3 := Lib.hid e3
  clear e3
  have HKK3 := Lib.hid hk3; clear hk3
  go_wp2_with (first | (fail))
  (with_reducible refine C3.out.mono ?_)
  cases r3 with
  | error c =>
    rintro e Y3 ⟨rfl, hm3⟩
    refine ⟨rfl, ?_⟩
    have hk := HKK3.out
    simp only [bR_err] at hk
    rw [← hk]
    exact ⟨rfl, H0.out.goneR hm3⟩
  | ok v3 =>
    obtain ⟨x3, b3⟩ := v3
    rintro e Y3 ⟨u3, rfl, rfl, hb3, hm3⟩
    have HH3 := Lib.hid (H0.out.read hb3 hm3 (rId_at EE3.out))
    have hk3 := HKK3.out
    simp only [bR_ok] at hk3
    have HK3 := Lib.hid hk3
    clear hb3 hm3 hk3 C3 HKK3 l1
    have c4 : Y3.cell? ⟨P, 4, none⟩ = some (.int .i64 (p.id)) := HH3.out.pB.cell 4
    have f4 := HH3.out.pB.frozen 4
    obtain ⟨q4, eq4⟩ : ∃ q : Pk, { p with id := x3 } = q := ⟨_, rfl⟩
    obtain ⟨Z4, z4⟩ : ∃ Z, Y3.setCell ⟨P, 4, none⟩ (.int .i64 (x3)) = Z := ⟨_, rfl⟩
    have hh4 := HH3.out.set 4 (.int .i64 (x3)) ({ p with id := x3 }) (m) rfl ⟨HH3.out.o.ps, HH3.out.o.wps, HH3.out.o.cs, HH3.out.o.ss, HH3.out.o.fs⟩
    rw [z4, eq4] at hh4
    have HH4 := Lib.hid hh4
    have EQ4 := Lib.hid eq4
    clear hh4 eq4
    have hk5 := HK3.out
    rw [show ({ p with id := x3 } : Pk) = q4 from by rw [← EQ4.out]] at hk5
    have HK5 := Lib.hid hk5
    clear hk5
    obtain ⟨r6, e6⟩ : ∃ r, rEnd s q4 b3 = r := ⟨_, rfl⟩
    have C6 := Lib.hid (rend_any HH4.out)
    rw [e6] at C6
    have hk6 := HK5.out
    rw [e6] at hk6
    have HKK6 := Lib.hid hk6; clear hk6 e6
    go_wp2_with fail
    (with_reducible refine C6.out.mono ?_)
    cases r6 with
    | error c =>
      rintro e Y6 ⟨rfl, hg6⟩
      refine ⟨rfl, ?_⟩
      have hk := HKK6.out
      simp only [bR_err] at hk
      rw [← hk]
      exact ⟨rfl, hg6⟩
    | ok v6 =>
      obtain ⟨p6, b6⟩ := v6
      rintro e Y6 ⟨rfl, m6, hh6⟩
      have HH6 := Lib.hid hh6
      have hk6 := HKK6.out
      simp only [bR_ok] at hk6
      have HK6 := Lib.hid hk6
      clear hh6 hk6 C6 HKK6 c4 f4 z4
      have CL7 := Lib.hid (left_any R s b6 Y6 HH6.out.rB)
      go_wp2_with fail
      (with_reducible refine CL7.out.mono ?_)
      rintro e Y7 ⟨rfl, hb7, hh7⟩
      have HL7 := Lib.hid (HH6.out.heap hb7)
      clear hb7 hh7 CL7 
      by_cases hl7 : b6 < (s.size : Int)
      · have hd7 : decide (b6 < (s.size : Int)) = true := by simp [hl7]
        rw [hd7]
        have hk := HK6.out
        rw [if_pos hl7] at hk
        go_wp2_with (first | (go_at_call 34; (with_reducible refine (must_false _).mono ?_); rintro e YM ⟨rfl, rfl⟩) | (fail))
        refine ⟨rfl, ?_⟩
        rw [← hk]
        exact ⟨rfl, HL7.out.gone⟩
      · have hd7 : decide (b6 < (s.size : Int)) = false := by simp [hl7]
        rw [hd7]
        have hk := HK6.out
        rw [if_neg hl7] at hk
        go_wp2_with (first | (go_at_call 34; (with_reducible refine (must_true _).mono ?_); rintro e YM ⟨rfl, rfl⟩) | (fail))
        go_end0
        rw [← hk]
        exact ⟨rfl, _, HL7.out⟩
set_option maxHeartbeats 8000000 in
set_option maxRecDepth 100000 in
theorem body_6 {w : World} {R P : Nat} {s : ByteArray} {a : Int} {p : Pk} {m : Hs} {X : World} (h : St w R P s a p m X) (hw : Tabs w) (hL : p.subs.length + p.filters.length + p.codes.length ≤ 1000) (hK : p.kind = 6) :
    Calls Tryd.prog 35 #[.pointer (some ⟨R, 0, none⟩), .pointer (some ⟨P, 0, none⟩)] X (PkPost' w R P s (bindR (rAck s p a) fun p a => if a < s.size then .error 129 else .ok (p, a))) := by
  have H0 := Lib.hid h
  have HW := Lib.hid hw; have HLL := Lib.hid hL; have HKD := Lib.hid hK
  obtain ⟨RES, hres⟩ : ∃ RES, (bindR (rAck s p a) fun p a => if a < (s.size : Int) then (.error 129 : RR Pk) else .ok (p, a)) = RES := ⟨_, rfl⟩
  rw [hres]
  have HK0 := Lib.hid hres
  clear h hres hw hL hK
  have l1 : X.cell? ⟨P, 0, none⟩ = some (.int .i64 (6)) := (H0.out.pB.cell 0).trans (by show some (Value.int .i64 (p.kind)) = _; rw [HKD.out])
  go_enter Tryd.func35, Tryd.ntmps35
  have hk := HK0.out
  unfold rAck at hk
  rw [bR_assoc] at hk
  have HK2 := Lib.hid hk; clear hk
  obtain ⟨r3, e3⟩ : ∃ r, rId s a = r := ⟨_, rfl⟩
  have C3 := Lib.hid (rid_any R s a X H0.out.rB H0.out.sz H0.out.a0 H0.out.a1)
  rw [e3] at C3
  have hk3 := HK2.out
  rw [e3] at hk3
  have EE3 := Lib.hid e3
  clear e3
  have HKK3 := Lib.hid hk3; clear hk3
  go_wp2_with (first | (fail))
  (with_reducible refine C3.out.mono ?_)
  cases r3 with
  | error c =>
    rintro e Y3 ⟨rfl, hm3⟩
    refine ⟨rfl, ?_⟩
    have hk := HKK3.out
    simp only [bR_err] at hk
    rw [← hk]
    exact ⟨rfl, H0.out.goneR hm3⟩
  | ok v3 =>
    obtain ⟨x3, b3⟩ := v3
    rintro e Y3 ⟨u3, rfl, rfl, hb3, hm3⟩
    have HH3 := Lib.hid (H0.out.read hb3 hm3 (rId_at EE3.out))
    have hk3 := HKK3.out
    simp only [bR_ok] at hk3
    have HK3 := Lib.hid hk3
    clear hb3 hm3 hk3 C3 HKK3 l1
    have c4 : Y3.cell? ⟨P, 4, none⟩ = some (.int .i64 (p.id)) := HH3.out.pB.cell 4
    have f4 := HH3.out.pB.frozen 4
    obtain ⟨q4, eq4⟩ : ∃ q : Pk, { p with id := x3 } = q := ⟨_, rfl⟩
    obtain ⟨Z4, z4⟩ : ∃ Z, Y3.setCell ⟨P, 4, none⟩ (.int .i64 (x3)) = Z := ⟨_, rfl⟩
    have hh4 := HH3.out.set 4 (.int .i64 (x3)) ({ p with id := x3 }) (m) rfl ⟨HH3.out.o.ps, HH3.out.o.wps, HH3.out.o.cs, HH3.out.o.ss, HH3.out.o.fs⟩
    rw [z4, eq4] at hh4
    have HH4 := Lib.hid hh4
    have EQ4 := Lib.hid eq4
    clear hh4 eq4
    have hk5 := HK3.out
    rw [show ({ p with id := x3 } : Pk) = q4 from by rw [← EQ4.out]] at hk5
    have HK5 := Lib.hid hk5
    clear hk5
    obtain ⟨r6, e6⟩ : ∃ r, rEnd s q4 b3 = r := ⟨_, rfl⟩
    have C6 := Lib.hid (rend_any HH4.out)
    rw [e6] at C6
    have hk6 := HK5.out
    rw [e6] at hk6
    have HKK6 := Lib.hid hk6; clear hk6 e6
    go_wp2_with fail
    (with_reducible refine C6.out.mono ?_)
    cases r6 with
    | error c =>
      rintro e Y6 ⟨rfl, hg6⟩
      refine ⟨rfl, ?_⟩
      have hk := HKK6.out
      simp only [bR_err] at hk
      rw [← hk]
      exact ⟨rfl, hg6⟩
    | ok v6 =>
      obtain ⟨p6, b6⟩ := v6
      rintro e Y6 ⟨rfl, m6, hh6⟩
      have HH6 := Lib.hid hh6
      have hk6 := HKK6.out
      simp only [bR_ok] at hk6
      have HK6 := Lib.hid hk6
      clear hh6 hk6 C6 HKK6 c4 f4 z4
      have CL7 := Lib.hid (left_any R s b6 Y6 HH6.out.rB)
      go_wp2_with fail
      (with_reducible refine CL7.out.mono ?_)
      rintro e Y7 ⟨rfl, hb7, hh7⟩
      have HL7 := Lib.hid (HH6.out.heap hb7)
      clear hb7 hh7 CL7 
      by_cases hl7 : b6 < (s.size : Int)
      · have hd7 : decide (b6 < (s.size : Int)) = true := by simp [hl7]
        rw [hd7]
        have hk := HK6.out
        rw [if_pos hl7] at hk
        go_wp2_with (first | (go_at_call 34; (with_reducible refine (must_false _).mono ?_); rintro e YM ⟨rfl, rfl⟩) | (fail))
        refine ⟨rfl, ?_⟩
        rw [← hk]
        exact ⟨rfl, HL7.out.gone⟩
      · have hd7 : decide (b6 < (s.size : Int)) = false := by simp [hl7]
        rw [hd7]
        have hk := HK6.out
        rw [if_neg hl7] at hk
        go_wp2_with (first | (go_at_call 34; (with_reducible refine (must_true _).mono ?_); rintro e YM ⟨rfl, rfl⟩) | (fail))
        go_end0
        rw [← hk]
        exact ⟨rfl, _, HL7.out⟩
set_option maxHeartbeats 8000000 in
set_option maxRecDepth 100000 in
theorem body_7 {w : World} {R P : Nat} {s : ByteArray} {a : Int} {p : Pk} {m : Hs} {X : World} (h : St w R P s a p m X) (hw : Tabs w) (hL : p.subs.length + p.filters.length + p.codes.length ≤ 1000) (hK : p.kind = 7) :
    Calls Tryd.prog 35 #[.pointer (some ⟨R, 0, none⟩), .pointer (some ⟨P, 0, none⟩)] X (PkPost' w R P s (bindR (rAck s p a) fun p a => if a < s.size then .error 129 else .ok (p, a))) := by
  have H0 := Lib.hid h
  have HW := Lib.hid hw; have HLL := Lib.hid hL; have HKD := Lib.hid hK
  obtain ⟨RES, hres⟩ : ∃ RES, (bindR (rAck s p a) fun p a => if a < (s.size : Int) then (.error 129 : RR Pk) else .ok (p, a)) = RES := ⟨_, rfl⟩
  rw [hres]
  have HK0 := Lib.hid hres
  clear h hres hw hL hK
  have l1 : X.cell? ⟨P, 0, none⟩ = some (.int .i64 (7)) := (H0.out.pB.cell 0).trans (by show some (Value.int .i64 (p.kind)) = _; rw [HKD.out])
  go_enter Tryd.func35, Tryd.ntmps35
  have hk := HK0.out
  unfold rAck at hk
  rw [bR_assoc] at hk
  have HK2 := Lib.hid hk; clear hk
  obtain ⟨r3, e3⟩ : ∃ r, rId s a = r := ⟨_, rfl⟩
  have C3 := Lib.hid (rid_any R s a X H0.out.rB H0.out.sz H0.out.a0 H0.out.a1)
  rw [e3] at C3
  have hk3 := HK2.out
  rw [e3] at hk3
  have EE3 := Lib.hid e3
  clear e3
  have HKK3 := Lib.hid hk3; clear hk3
  go_wp2_with (first | (fail))
  (with_reducible refine C3.out.mono ?_)
  cases r3 with
  | error c =>
    rintro e Y3 ⟨rfl, hm3⟩
    refine ⟨rfl, ?_⟩
    have hk := HKK3.out
    simp only [bR_err] at hk
    rw [← hk]
    exact ⟨rfl, H0.out.goneR hm3⟩
  | ok v3 =>
    obtain ⟨x3, b3⟩ := v3
    rintro e Y3 ⟨u3, rfl, rfl, hb3, hm3⟩
    have HH3 := Lib.hid (H0.out.read hb3 hm3 (rId_at EE3.out))
    have hk3 := HKK3.out
    simp only [bR_ok] at hk3
    have HK3 := Lib.hid hk3
    clear hb3 hm3 hk3 C3 HKK3 l1
    have c4 : Y3.cell? ⟨P, 4, none⟩ = some (.int .i64 (p.id)) := HH3.out.pB.cell 4
    have f4 := HH3.out.pB.frozen 4
    obtain ⟨q4, eq4⟩ : ∃ q : Pk, { p with id := x3 } = q := ⟨_, rfl⟩
    obtain ⟨Z4, z4⟩ : ∃ Z, Y3.setCell ⟨P, 4, none⟩ (.int .i64 (x3)) = Z := ⟨_, rfl⟩
    have hh4 := HH3.out.set 4 (.int .i64 (x3)) ({ p with id := x3 }) (m) rfl ⟨HH3.out.o.ps, HH3.out.o.wps, HH3.out.o.cs, HH3.out.o.ss, HH3.out.o.fs⟩
    rw [z4, eq4] at hh4
    have HH4 := Lib.hid hh4
    have EQ4 := Lib.hid eq4
    clear hh4 eq4
    have hk5 := HK3.out
    rw [show ({ p with id := x3 } : Pk) = q4 from by rw [← EQ4.out]] at hk5
    have HK5 := Lib.hid hk5
    clear hk5
    obtain ⟨r6, e6⟩ : ∃ r, rEnd s q4 b3 = r := ⟨_, rfl⟩
    have C6 := Lib.hid (rend_any HH4.out)
    rw [e6] at C6
    have hk6 := HK5.out
    rw [e6] at hk6
    have HKK6 := Lib.hid hk6; clear hk6 e6
    go_wp2_with fail
    (with_reducible refine C6.out.mono ?_)
    cases r6 with
    | error c =>
      rintro e Y6 ⟨rfl, hg6⟩
      refine ⟨rfl, ?_⟩
      have hk := HKK6.out
      simp only [bR_err] at hk
      rw [← hk]
      exact ⟨rfl, hg6⟩
    | ok v6 =>
      obtain ⟨p6, b6⟩ := v6
      rintro e Y6 ⟨rfl, m6, hh6⟩
      have HH6 := Lib.hid hh6
      have hk6 := HKK6.out
      simp only [bR_ok] at hk6
      have HK6 := Lib.hid hk6
      clear hh6 hk6 C6 HKK6 c4 f4 z4
      have CL7 := Lib.hid (left_any R s b6 Y6 HH6.out.rB)
      go_wp2_with fail
      (with_reducible refine CL7.out.mono ?_)
      rintro e Y7 ⟨rfl, hb7, hh7⟩
      have HL7 := Lib.hid (HH6.out.heap hb7)
      clear hb7 hh7 CL7 
      by_cases hl7 : b6 < (s.size : Int)
      · have hd7 : decide (b6 < (s.size : Int)) = true := by simp [hl7]
        rw [hd7]
        have hk := HK6.out
        rw [if_pos hl7] at hk
        go_wp2_with (first | (go_at_call 34; (with_reducible refine (must_false _).mono ?_); rintro e YM ⟨rfl, rfl⟩) | (fail))
        refine ⟨rfl, ?_⟩
        rw [← hk]
        exact ⟨rfl, HL7.out.gone⟩
      · have hd7 : decide (b6 < (s.size : Int)) = false := by simp [hl7]
        rw [hd7]
        have hk := HK6.out
        rw [if_neg hl7] at hk
        go_wp2_with (first | (go_at_call 34; (with_reducible refine (must_true _).mono ?_); rintro e YM ⟨rfl, rfl⟩) | (fail))
        go_end0
        rw [← hk]
        exact ⟨rfl, _, HL7.out⟩
set_option maxHeartbeats 8000000 in
set_option maxRecDepth 100000 in
theorem body_14 {w : World} {R P : Nat} {s : ByteArray} {a : Int} {p : Pk} {m : Hs} {X : World} (h : St w R P s a p m X) (hw : Tabs w) (hL : p.subs.length + p.filters.length + p.codes.length ≤ 1000) (hK : p.kind = 14) :
    Calls Tryd.prog 35 #[.pointer (some ⟨R, 0, none⟩), .pointer (some ⟨P, 0, none⟩)] X (PkPost' w R P s (bindR (rEnd s p a) fun p a => if a < s.size then .error 129 else .ok (p, a))) := by
  have H0 := Lib.hid h
  have HW := Lib.hid hw; have HLL := Lib.hid hL; have HKD := Lib.hid hK
  obtain ⟨RES, hres⟩ : ∃ RES, (bindR (rEnd s p a) fun p a => if a < (s.size : Int) then (.error 129 : RR Pk) else .ok (p, a)) = RES := ⟨_, rfl⟩
  rw [hres]
  have HK0 := Lib.hid hres
  clear h hres hw hL hK
  have l1 : X.cell? ⟨P, 0, none⟩ = some (.int .i64 (14)) := (H0.out.pB.cell 0).trans (by show some (Value.int .i64 (p.kind)) = _; rw [HKD.out])
  go_enter Tryd.func35, Tryd.ntmps35
  obtain ⟨r2, e2⟩ : ∃ r, rEnd s p a = r := ⟨_, rfl⟩
  have C2 := Lib.hid (rend_any H0.out)
  rw [e2] at C2
  have hk2 := HK0.out
  rw [e2] at hk2
  have HKK2 := Lib.hid hk2; clear hk2 e2
  go_wp2_with fail
  (with_reducible refine C2.out.mono ?_)
  cases r2 with
  | error c =>
    rintro e Y2 ⟨rfl, hg2⟩
    refine ⟨rfl, ?_⟩
    have hk := HKK2.out
    simp only [bR_err] at hk
    rw [← hk]
    exact ⟨rfl, hg2⟩
  | ok v2 =>
    obtain ⟨p2, b2⟩ := v2
    rintro e Y2 ⟨rfl, m2, hh2⟩
    have HH2 := Lib.hid hh2
    have hk2 := HKK2.out
    simp only [bR_ok] at hk2
    have HK2 := Lib.hid hk2
    clear hh2 hk2 C2 HKK2 l1
    have CL3 := Lib.hid (left_any R s b2 Y2 HH2.out.rB)
    go_wp2_with fail
    (with_reducible refine CL3.out.mono ?_)
    rintro e Y3 ⟨rfl, hb3, hh3⟩
    have HL3 := Lib.hid (HH2.out.heap hb3)
    clear hb3 hh3 CL3 
    by_cases hl3 : b2 < (s.size : Int)
    · have hd3 : decide (b2 < (s.size : Int)) = true := by simp [hl3]
      rw [hd3]
      have hk := HK2.out
      rw [if_pos hl3] at hk
      go_wp2_with (first | (go_at_call 34; (with_reducible refine (must_false _).mono ?_); rintro e YM ⟨rfl, rfl⟩) | (fail))
      refine ⟨rfl, ?_⟩
      rw [← hk]
      exact ⟨rfl, HL3.out.gone⟩
    · have hd3 : decide (b2 < (s.size : Int)) = false := by simp [hl3]
      rw [hd3]
      have hk := HK2.out
      rw [if_neg hl3] at hk
      go_wp2_with (first | (go_at_call 34; (with_reducible refine (must_true _).mono ?_); rintro e YM ⟨rfl, rfl⟩) | (fail))
      go_end0
      rw [← hk]
      exact ⟨rfl, _, HL3.out⟩
set_option maxHeartbeats 8000000 in
set_option maxRecDepth 100000 in
theorem body_15 {w : World} {R P : Nat} {s : ByteArray} {a : Int} {p : Pk} {m : Hs} {X : World} (h : St w R P s a p m X) (hw : Tabs w) (hL : p.subs.length + p.filters.length + p.codes.length ≤ 1000) (hK : p.kind = 15) :
    Calls Tryd.prog 35 #[.pointer (some ⟨R, 0, none⟩), .pointer (some ⟨P, 0, none⟩)] X (PkPost' w R P s (bindR (rEnd s p a) fun p a => if a < s.size then .error 129 else .ok (p, a))) := by
  have H0 := Lib.hid h
  have HW := Lib.hid hw; have HLL := Lib.hid hL; have HKD := Lib.hid hK
  obtain ⟨RES, hres⟩ : ∃ RES, (bindR (rEnd s p a) fun p a => if a < (s.size : Int) then (.error 129 : RR Pk) else .ok (p, a)) = RES := ⟨_, rfl⟩
  rw [hres]
  have HK0 := Lib.hid hres
  clear h hres hw hL hK
  have l1 : X.cell? ⟨P, 0, none⟩ = some (.int .i64 (15)) := (H0.out.pB.cell 0).trans (by show some (Value.int .i64 (p.kind)) = _; rw [HKD.out])
  go_enter Tryd.func35, Tryd.ntmps35
  obtain ⟨r2, e2⟩ : ∃ r, rEnd s p a = r := ⟨_, rfl⟩
  have C2 := Lib.hid (rend_any H0.out)
  rw [e2] at C2
  have hk2 := HK0.out
  rw [e2] at hk2
  have HKK2 := Lib.hid hk2; clear hk2 e2
  go_wp2_with fail
  (with_reducible refine C2.out.mono ?_)
  cases r2 with
  | error c =>
    rintro e Y2 ⟨rfl, hg2⟩
    refine ⟨rfl, ?_⟩
    have hk := HKK2.out
    simp only [bR_err] at hk
    rw [← hk]
    exact ⟨rfl, hg2⟩
  | ok v2 =>
    obtain ⟨p2, b2⟩ := v2
    rintro e Y2 ⟨rfl, m2, hh2⟩
    have HH2 := Lib.hid hh2
    have hk2 := HKK2.out
    simp only [bR_ok] at hk2
    have HK2 := Lib.hid hk2
    clear hh2 hk2 C2 HKK2 l1
    have CL3 := Lib.hid (left_any R s b2 Y2 HH2.out.rB)
    go_wp2_with fail
    (with_reducible refine CL3.out.mono ?_)
    rintro e Y3 ⟨rfl, hb3, hh3⟩
    have HL3 := Lib.hid (HH2.out.heap hb3)
    clear hb3 hh3 CL3 
    by_cases hl3 : b2 < (s.size : Int)
    · have hd3 : decide (b2 < (s.size : Int)) = true := by simp [hl3]
      rw [hd3]
      have hk := HK2.out
      rw [if_pos hl3] at hk
      go_wp2_with (first | (go_at_call 34; (with_reducible refine (must_false _).mono ?_); rintro e YM ⟨rfl, rfl⟩) | (fail))
      refine ⟨rfl, ?_⟩
      rw [← hk]
      exact ⟨rfl, HL3.out.gone⟩
    · have hd3 : decide (b2 < (s.size : Int)) = false := by simp [hl3]
      rw [hd3]
      have hk := HK2.out
      rw [if_neg hl3] at hk
      go_wp2_with (first | (go_at_call 34; (with_reducible refine (must_true _).mono ?_); rintro e YM ⟨rfl, rfl⟩) | (fail))
      go_end0
      rw [← hk]
      exact ⟨rfl, _, HL3.out⟩
set_option maxHeartbeats 8000000 in
set_option maxRecDepth 100000 in
theorem body_8 {w : World} {R P : Nat} {s : ByteArray} {a : Int} {p : Pk} {m : Hs} {X : World} (h : St w R P s a p m X) (hw : Tabs w) (hL : p.subs.length + p.filters.length + p.codes.length ≤ 1000) (hK : p.kind = 8) :
    Calls Tryd.prog 35 #[.pointer (some ⟨R, 0, none⟩), .pointer (some ⟨P, 0, none⟩)] X (PkPost' w R P s (bindR (rLists s p a) fun p a => if a < s.size then .error 129 else .ok (p, a))) := by
  have H0 := Lib.hid h
  have HW := Lib.hid hw; have HLL := Lib.hid hL; have HKD := Lib.hid hK
  obtain ⟨RES, hres⟩ : ∃ RES, (bindR (rLists s p a) fun p a => if a < (s.size : Int) then (.error 129 : RR Pk) else .ok (p, a)) = RES := ⟨_, rfl⟩
  rw [hres]
  have HK0 := Lib.hid hres
  clear h hres hw hL hK
  have l1 : X.cell? ⟨P, 0, none⟩ = some (.int .i64 (8)) := (H0.out.pB.cell 0).trans (by show some (Value.int .i64 (p.kind)) = _; rw [HKD.out])
  go_enter Tryd.func35, Tryd.ntmps35
  obtain ⟨r2, e2⟩ : ∃ r, rLists s p a = r := ⟨_, rfl⟩
  have C2 := Lib.hid (rlists_any H0.out HW.out HLL.out)
  rw [e2] at C2
  have hk2 := HK0.out
  rw [e2] at hk2
  have HKK2 := Lib.hid hk2; clear hk2 e2
  go_wp2_with fail
  (with_reducible refine C2.out.mono ?_)
  cases r2 with
  | error c =>
    rintro e Y2 ⟨rfl, hg2⟩
    refine ⟨rfl, ?_⟩
    have hk := HKK2.out
    simp only [bR_err] at hk
    rw [← hk]
    exact ⟨rfl, hg2⟩
  | ok v2 =>
    obtain ⟨p2, b2⟩ := v2
    rintro e Y2 ⟨rfl, m2, hh2⟩
    have HH2 := Lib.hid hh2
    have hk2 := HKK2.out
    simp only [bR_ok] at hk2
    have HK2 := Lib.hid hk2
    clear hh2 hk2 C2 HKK2 l1
    have CL3 := Lib.hid (left_any R s b2 Y2 HH2.out.rB)
    go_wp2_with fail
    (with_reducible refine CL3.out.mono ?_)
    rintro e Y3 ⟨rfl, hb3, hh3⟩
    have HL3 := Lib.hid (HH2.out.heap hb3)
    clear hb3 hh3 CL3 
    by_cases hl3 : b2 < (s.size : Int)
    · have hd3 : decide (b2 < (s.size : Int)) = true := by simp [hl3]
      rw [hd3]
      have hk := HK2.out
      rw [if_pos hl3] at hk
      go_wp2_with (first | (go_at_call 34; (with_reducible refine (must_false _).mono ?_); rintro e YM ⟨rfl, rfl⟩) | (fail))
      refine ⟨rfl, ?_⟩
      rw [← hk]
      exact ⟨rfl, HL3.out.gone⟩
    · have hd3 : decide (b2 < (s.size : Int)) = false := by simp [hl3]
      rw [hd3]
      have hk := HK2.out
      rw [if_neg hl3] at hk
      go_wp2_with (first | (go_at_call 34; (with_reducible refine (must_true _).mono ?_); rintro e YM ⟨rfl, rfl⟩) | (fail))
      go_end0
      rw [← hk]
      exact ⟨rfl, _, HL3.out⟩
set_option maxHeartbeats 8000000 in
set_option maxRecDepth 100000 in
theorem body_9 {w : World} {R P : Nat} {s : ByteArray} {a : Int} {p : Pk} {m : Hs} {X : World} (h : St w R P s a p m X) (hw : Tabs w) (hL : p.subs.length + p.filters.length + p.codes.length ≤ 1000) (hK : p.kind = 9) :
    Calls Tryd.prog 35 #[.pointer (some ⟨R, 0, none⟩), .pointer (some ⟨P, 0, none⟩)] X (PkPost' w R P s (bindR (rLists s p a) fun p a => if a < s.size then .error 129 else .ok (p, a))) := by
  have H0 := Lib.hid h
  have HW := Lib.hid hw; have HLL := Lib.hid hL; have HKD := Lib.hid hK
  obtain ⟨RES, hres⟩ : ∃ RES, (bindR (rLists s p a) fun p a => if a < (s.size : Int) then (.error 129 : RR Pk) else .ok (p, a)) = RES := ⟨_, rfl⟩
  rw [hres]
  have HK0 := Lib.hid hres
  clear h hres hw hL hK
  have l1 : X.cell? ⟨P, 0, none⟩ = some (.int .i64 (9)) := (H0.out.pB.cell 0).trans (by show some (Value.int .i64 (p.kind)) = _; rw [HKD.out])
  go_enter Tryd.func35, Tryd.ntmps35
  obtain ⟨r2, e2⟩ : ∃ r, rLists s p a = r := ⟨_, rfl⟩
  have C2 := Lib.hid (rlists_any H0.out HW.out HLL.out)
  rw [e2] at C2
  have hk2 := HK0.out
  rw [e2] at hk2
  have HKK2 := Lib.hid hk2; clear hk2 e2
  go_wp2_with fail
  (with_reducible refine C2.out.mono ?_)
  cases r2 with
  | error c =>
    rintro e Y2 ⟨rfl, hg2⟩
    refine ⟨rfl, ?_⟩
    have hk := HKK2.out
    simp only [bR_err] at hk
    rw [← hk]
    exact ⟨rfl, hg2⟩
  | ok v2 =>
    obtain ⟨p2, b2⟩ := v2
    rintro e Y2 ⟨rfl, m2, hh2⟩
    have HH2 := Lib.hid hh2
    have hk2 := HKK2.out
    simp only [bR_ok] at hk2
    have HK2 := Lib.hid hk2
    clear hh2 hk2 C2 HKK2 l1
    have CL3 := Lib.hid (left_any R s b2 Y2 HH2.out.rB)
    go_wp2_with fail
    (with_reducible refine CL3.out.mono ?_)
    rintro e Y3 ⟨rfl, hb3, hh3⟩
    have HL3 := Lib.hid (HH2.out.heap hb3)
    clear hb3 hh3 CL3 
    by_cases hl3 : b2 < (s.size : Int)
    · have hd3 : decide (b2 < (s.size : Int)) = true := by simp [hl3]
      rw [hd3]
      have hk := HK2.out
      rw [if_pos hl3] at hk
      go_wp2_with (first | (go_at_call 34; (with_reducible refine (must_false _).mono ?_); rintro e YM ⟨rfl, rfl⟩) | (fail))
      refine ⟨rfl, ?_⟩
      rw [← hk]
      exact ⟨rfl, HL3.out.gone⟩
    · have hd3 : decide (b2 < (s.size : Int)) = false := by simp [hl3]
      rw [hd3]
      have hk := HK2.out
      rw [if_neg hl3] at hk
      go_wp2_with (first | (go_at_call 34; (with_reducible refine (must_true _).mono ?_); rintro e YM ⟨rfl, rfl⟩) | (fail))
      go_end0
      rw [← hk]
      exact ⟨rfl, _, HL3.out⟩
set_option maxHeartbeats 8000000 in
set_option maxRecDepth 100000 in
theorem body_10 {w : World} {R P : Nat} {s : ByteArray} {a : Int} {p : Pk} {m : Hs} {X : World} (h : St w R P s a p m X) (hw : Tabs w) (hL : p.subs.length + p.filters.length + p.codes.length ≤ 1000) (hK : p.kind = 10) :
    Calls Tryd.prog 35 #[.pointer (some ⟨R, 0, none⟩), .pointer (some ⟨P, 0, none⟩)] X (PkPost' w R P s (bindR (rLists s p a) fun p a => if a < s.size then .error 129 else .ok (p, a))) := by
  have H0 := Lib.hid h
  have HW := Lib.hid hw; have HLL := Lib.hid hL; have HKD := Lib.hid hK
  obtain ⟨RES, hres⟩ : ∃ RES, (bindR (rLists s p a) fun p a => if a < (s.size : Int) then (.error 129 : RR Pk) else .ok (p, a)) = RES := ⟨_, rfl⟩
  rw [hres]
  have HK0 := Lib.hid hres
  clear h hres hw hL hK
  have l1 : X.cell? ⟨P, 0, none⟩ = some (.int .i64 (10)) := (H0.out.pB.cell 0).trans (by show some (Value.int .i64 (p.kind)) = _; rw [HKD.out])
  go_enter Tryd.func35, Tryd.ntmps35
  obtain ⟨r2, e2⟩ : ∃ r, rLists s p a = r := ⟨_, rfl⟩
  have C2 := Lib.hid (rlists_any H0.out HW.out HLL.out)
  rw [e2] at C2
  have hk2 := HK0.out
  rw [e2] at hk2
  have HKK2 := Lib.hid hk2; clear hk2 e2
  go_wp2_with fail
  (with_reducible refine C2.out.mono ?_)
  cases r2 with
  | error c =>
    rintro e Y2 ⟨rfl, hg2⟩
    refine ⟨rfl, ?_⟩
    have hk := HKK2.out
    simp only [bR_err] at hk
    rw [← hk]
    exact ⟨rfl, hg2⟩
  | ok v2 =>
    obtain ⟨p2, b2⟩ := v2
    rintro e Y2 ⟨rfl, m2, hh2⟩
    have HH2 := Lib.hid hh2
    have hk2 := HKK2.out
    simp only [bR_ok] at hk2
    have HK2 := Lib.hid hk2
    clear hh2 hk2 C2 HKK2 l1
    have CL3 := Lib.hid (left_any R s b2 Y2 HH2.out.rB)
    go_wp2_with fail
    (with_reducible refine CL3.out.mono ?_)
    rintro e Y3 ⟨rfl, hb3, hh3⟩
    have HL3 := Lib.hid (HH2.out.heap hb3)
    clear hb3 hh3 CL3 
    by_cases hl3 : b2 < (s.size : Int)
    · have hd3 : decide (b2 < (s.size : Int)) = true := by simp [hl3]
      rw [hd3]
      have hk := HK2.out
      rw [if_pos hl3] at hk
      go_wp2_with (first | (go_at_call 34; (with_reducible refine (must_false _).mono ?_); rintro e YM ⟨rfl, rfl⟩) | (fail))
      refine ⟨rfl, ?_⟩
      rw [← hk]
      exact ⟨rfl, HL3.out.gone⟩
    · have hd3 : decide (b2 < (s.size : Int)) = false := by simp [hl3]
      rw [hd3]
      have hk := HK2.out
      rw [if_neg hl3] at hk
      go_wp2_with (first | (go_at_call 34; (with_reducible refine (must_true _).mono ?_); rintro e YM ⟨rfl, rfl⟩) | (fail))
      go_end0
      rw [← hk]
      exact ⟨rfl, _, HL3.out⟩
set_option maxHeartbeats 8000000 in
set_option maxRecDepth 100000 in
theorem body_11 {w : World} {R P : Nat} {s : ByteArray} {a : Int} {p : Pk} {m : Hs} {X : World} (h : St w R P s a p m X) (hw : Tabs w) (hL : p.subs.length + p.filters.length + p.codes.length ≤ 1000) (hK : p.kind = 11) :
    Calls Tryd.prog 35 #[.pointer (some ⟨R, 0, none⟩), .pointer (some ⟨P, 0, none⟩)] X (PkPost' w R P s (bindR (rLists s p a) fun p a => if a < s.size then .error 129 else .ok (p, a))) := by
  have H0 := Lib.hid h
  have HW := Lib.hid hw; have HLL := Lib.hid hL; have HKD := Lib.hid hK
  obtain ⟨RES, hres⟩ : ∃ RES, (bindR (rLists s p a) fun p a => if a < (s.size : Int) then (.error 129 : RR Pk) else .ok (p, a)) = RES := ⟨_, rfl⟩
  rw [hres]
  have HK0 := Lib.hid hres
  clear h hres hw hL hK
  have l1 : X.cell? ⟨P, 0, none⟩ = some (.int .i64 (11)) := (H0.out.pB.cell 0).trans (by show some (Value.int .i64 (p.kind)) = _; rw [HKD.out])
  go_enter Tryd.func35, Tryd.ntmps35
  obtain ⟨r2, e2⟩ : ∃ r, rLists s p a = r := ⟨_, rfl⟩
  have C2 := Lib.hid (rlists_any H0.out HW.out HLL.out)
  rw [e2] at C2
  have hk2 := HK0.out
  rw [e2] at hk2
  have HKK2 := Lib.hid hk2; clear hk2 e2
  go_wp2_with fail
  (with_reducible refine C2.out.mono ?_)
  cases r2 with
  | error c =>
    rintro e Y2 ⟨rfl, hg2⟩
    refine ⟨rfl, ?_⟩
    have hk := HKK2.out
    simp only [bR_err] at hk
    rw [← hk]
    exact ⟨rfl, hg2⟩
  | ok v2 =>
    obtain ⟨p2, b2⟩ := v2
    rintro e Y2 ⟨rfl, m2, hh2⟩
    have HH2 := Lib.hid hh2
    have hk2 := HKK2.out
    simp only [bR_ok] at hk2
    have HK2 := Lib.hid hk2
    clear hh2 hk2 C2 HKK2 l1
    have CL3 := Lib.hid (left_any R s b2 Y2 HH2.out.rB)
    go_wp2_with fail
    (with_reducible refine CL3.out.mono ?_)
    rintro e Y3 ⟨rfl, hb3, hh3⟩
    have HL3 := Lib.hid (HH2.out.heap hb3)
    clear hb3 hh3 CL3 
    by_cases hl3 : b2 < (s.size : Int)
    · have hd3 : decide (b2 < (s.size : Int)) = true := by simp [hl3]
      rw [hd3]
      have hk := HK2.out
      rw [if_pos hl3] at hk
      go_wp2_with (first | (go_at_call 34; (with_reducible refine (must_false _).mono ?_); rintro e YM ⟨rfl, rfl⟩) | (fail))
      refine ⟨rfl, ?_⟩
      rw [← hk]
      exact ⟨rfl, HL3.out.gone⟩
    · have hd3 : decide (b2 < (s.size : Int)) = false := by simp [hl3]
      rw [hd3]
      have hk := HK2.out
      rw [if_neg hl3] at hk
      go_wp2_with (first | (go_at_call 34; (with_reducible refine (must_true _).mono ?_); rintro e YM ⟨rfl, rfl⟩) | (fail))
      go_end0
      rw [← hk]
      exact ⟨rfl, _, HL3.out⟩
set_option maxHeartbeats 8000000 in
set_option maxRecDepth 100000 in
theorem body_12 {w : World} {R P : Nat} {s : ByteArray} {a : Int} {p : Pk} {m : Hs} {X : World} (h : St w R P s a p m X) (hw : Tabs w) (hL : p.subs.length + p.filters.length + p.codes.length ≤ 1000) (hK : p.kind = 12) :
    Calls Tryd.prog 35 #[.pointer (some ⟨R, 0, none⟩), .pointer (some ⟨P, 0, none⟩)] X (PkPost' w R P s (bindR (.ok (p, a)) fun p a => if a < s.size then .error 129 else .ok (p, a))) := by
  have H0 := Lib.hid h
  have HW := Lib.hid hw; have HLL := Lib.hid hL; have HKD := Lib.hid hK
  obtain ⟨RES, hres⟩ : ∃ RES, (bindR (.ok (p, a)) fun p a => if a < (s.size : Int) then (.error 129 : RR Pk) else .ok (p, a)) = RES := ⟨_, rfl⟩
  rw [hres]
  have HK0 := Lib.hid hres
  clear h hres hw hL hK
  have l1 : X.cell? ⟨P, 0, none⟩ = some (.int .i64 (12)) := (H0.out.pB.cell 0).trans (by show some (Value.int .i64 (p.kind)) = _; rw [HKD.out])
  go_enter Tryd.func35, Tryd.ntmps35
  have hk := HK0.out
  simp only [bR_ok] at hk
  have HK2 := Lib.hid hk; clear hk
  have CL3 := Lib.hid (left_any R s a X H0.out.rB)
  go_wp2_with fail
  (with_reducible refine CL3.out.mono ?_)
  rintro e Y3 ⟨rfl, hb3, hh3⟩
  have HL3 := Lib.hid (H0.out.heap hb3)
  clear hb3 hh3 CL3 l1
  by_cases hl3 : a < (s.size : Int)
  · have hd3 : decide (a < (s.size : Int)) = true := by simp [hl3]
    rw [hd3]
    have hk := HK2.out
    rw [if_pos hl3] at hk
    go_wp2_with (first | (go_at_call 34; (with_reducible refine (must_false _).mono ?_); rintro e YM ⟨rfl, rfl⟩) | (fail))
    refine ⟨rfl, ?_⟩
    rw [← hk]
    exact ⟨rfl, HL3.out.gone⟩
  · have hd3 : decide (a < (s.size : Int)) = false := by simp [hl3]
    rw [hd3]
    have hk := HK2.out
    rw [if_neg hl3] at hk
    go_wp2_with (first | (go_at_call 34; (with_reducible refine (must_true _).mono ?_); rintro e YM ⟨rfl, rfl⟩) | (fail))
    go_end0
    rw [← hk]
    exact ⟨rfl, _, HL3.out⟩
set_option maxHeartbeats 8000000 in
set_option maxRecDepth 100000 in
theorem body_13 {w : World} {R P : Nat} {s : ByteArray} {a : Int} {p : Pk} {m : Hs} {X : World} (h : St w R P s a p m X) (hw : Tabs w) (hL : p.subs.length + p.filters.length + p.codes.length ≤ 1000) (hK : p.kind = 13) :
    Calls Tryd.prog 35 #[.pointer (some ⟨R, 0, none⟩), .pointer (some ⟨P, 0, none⟩)] X (PkPost' w R P s (bindR (.ok (p, a)) fun p a => if a < s.size then .error 129 else .ok (p, a))) := by
  have H0 := Lib.hid h
  have HW := Lib.hid hw; have HLL := Lib.hid hL; have HKD := Lib.hid hK
  obtain ⟨RES, hres⟩ : ∃ RES, (bindR (.ok (p, a)) fun p a => if a < (s.size : Int) then (.error 129 : RR Pk) else .ok (p, a)) = RES := ⟨_, rfl⟩
  rw [hres]
  have HK0 := Lib.hid hres
  clear h hres hw hL hK
  have l1 : X.cell? ⟨P, 0, none⟩ = some (.int .i64 (13)) := (H0.out.pB.cell 0).trans (by show some (Value.int .i64 (p.kind)) = _; rw [HKD.out])
  go_enter Tryd.func35, Tryd.ntmps35
  have hk := HK0.out
  simp only [bR_ok] at hk
  have HK2 := Lib.hid hk; clear hk
  have CL3 := Lib.hid (left_any R s a X H0.out.rB)
  go_wp2_with fail
  (with_reducible refine CL3.out.mono ?_)
  rintro e Y3 ⟨rfl, hb3, hh3⟩
  have HL3 := Lib.hid (H0.out.heap hb3)
  clear hb3 hh3 CL3 l1
  by_cases hl3 : a < (s.size : Int)
  · have hd3 : decide (a < (s.size : Int)) = true := by simp [hl3]
    rw [hd3]
    have hk := HK2.out
    rw [if_pos hl3] at hk
    go_wp2_with (first | (go_at_call 34; (with_reducible refine (must_false _).mono ?_); rintro e YM ⟨rfl, rfl⟩) | (fail))
    refine ⟨rfl, ?_⟩
    rw [← hk]
    exact ⟨rfl, HL3.out.gone⟩
  · have hd3 : decide (a < (s.size : Int)) = false := by simp [hl3]
    rw [hd3]
    have hk := HK2.out
    rw [if_neg hl3] at hk
    go_wp2_with (first | (go_at_call 34; (with_reducible refine (must_true _).mono ?_); rintro e YM ⟨rfl, rfl⟩) | (fail))
    go_end0
    rw [← hk]
    exact ⟨rfl, _, HL3.out⟩
end Go.Proofs.YtedapgeabpadaaaDoor

set_option linter.unusedVariables false
set_option linter.unusedSimpArgs false
namespace Go.Proofs.YtedapgeabpadaaaDoor
open Go.RowKit Pl Go.Shelf Go.PlainAid


set_option maxHeartbeats 8000000 in
set_option maxRecDepth 100000 in
theorem body_3 {w : World} {R P : Nat} {s : ByteArray} {a : Int} {p : Pk} {m : Hs} {X : World} (h : St w R P s a p m X) (hw : Tabs w) (hL : p.subs.length + p.filters.length + p.codes.length ≤ 1000) (hK : p.kind = 3) :
    Calls Tryd.prog 35 #[.pointer (some ⟨R, 0, none⟩), .pointer (some ⟨P, 0, none⟩)] X (PkPost' w R P s (bindR (rPub s p a) fun p a => if a < s.size then .error 129 else .ok (p, a))) := by
  have H0 := Lib.hid h
  have HW := Lib.hid hw; have HLL := Lib.hid hL; have HKD := Lib.hid hK
  obtain ⟨RES, hres⟩ : ∃ RES, (bindR (rPub s p a) fun p a => if a < (s.size : Int) then (.error 129 : RR Pk) else .ok (p, a)) = RES := ⟨_, rfl⟩
  rw [hres]
  have HK0 := Lib.hid hres
  clear h hres hw hL hK
  have l1 : X.cell? ⟨P, 0, none⟩ = some (.int .i64 (3)) := (H0.out.pB.cell 0).trans (by show some (Value.int .i64 (p.kind)) = _; rw [HKD.out])
  go_enter Tryd.func35, Tryd.ntmps35
  have hk := HK0.out
  unfold rPub at hk
  rw [bR_assoc] at hk
  have HK2 := Lib.hid hk; clear hk
  obtain ⟨r3, e3⟩ : ∃ r, rText s a = r := ⟨_, rfl⟩
  have C3 := Lib.hid (rtext_any R s a X H0.out.rB H0.out.sz H0.out.a0 H0.out.a1 (H0.out.drew 1).tb)
  rw [e3] at C3
  have hk3 := HK2.out
  rw [e3] at hk3
  have EE3 := Lib.hid e3
  clear e3
  have HKK3 := Lib.hid hk3; clear hk3
  go_wp2_with (first | (fail))
  (with_reducible refine C3.out.mono ?_)
  cases r3 with
  | error c =>
    rintro e Y3 ⟨rfl, hm3⟩
    refine ⟨rfl, ?_⟩
    have hk := HKK3.out
    simp only [bR_err] at hk
    rw [← hk]
    exact ⟨rfl, H0.out.goneR hm3⟩
  | ok v3 =>
    obtain ⟨x3, b3⟩ := v3
    rintro e Y3 ⟨u3, rfl, rfl, hb3, hm3⟩
    have HH3 := Lib.hid (H0.out.read hb3 hm3 (rText_at EE3.out))
    have hk3 := HKK3.out
    simp only [bR_ok] at hk3
    have HK3 := Lib.hid hk3
    clear hb3 hm3 hk3 C3 HKK3 l1
    have c4 : Y3.cell? ⟨P, 5, none⟩ = some (.string (p.topic)) := HH3.out.pB.cell 5
    have f4 := HH3.out.pB.frozen 5
    obtain ⟨q4, eq4⟩ : ∃ q : Pk, { p with topic := x3 } = q := ⟨_, rfl⟩
    obtain ⟨Z4, z4⟩ : ∃ Z, Y3.setCell ⟨P, 5, none⟩ (.string (x3)) = Z := ⟨_, rfl⟩
    have hh4 := HH3.out.set 5 (.string (x3)) ({ p with topic := x3 }) (m) rfl ⟨HH3.out.o.ps, HH3.out.o.wps, HH3.out.o.cs, HH3.out.o.ss, HH3.out.o.fs⟩
    rw [z4, eq4] at hh4
    have HH4 := Lib.hid hh4
    have EQ4 := Lib.hid eq4
    clear hh4 eq4
    have HQQ := Lib.hid (show q4.q = p.q from by rw [← EQ4.out])
    have l5 : Z4.cell? ⟨P, 3, none⟩ = some (.int .i64 (p.q)) := (HH4.out.pB.cell 3).trans (by show some (Value.int .i64 (q4.q)) = _; rw [HQQ.out])
    by_cases hq : 0 < p.q
    · have hk := HK3.out
      rw [if_pos hq, bR_assoc] at hk
      have HK6 := Lib.hid hk; clear hk
      obtain ⟨r7, e7⟩ : ∃ r, rId s b3 = r := ⟨_, rfl⟩
      have C7 := Lib.hid (rid_any R s b3 Z4 HH4.out.rB HH4.out.sz HH4.out.a0 HH4.out.a1)
      rw [e7] at C7
      have hk7 := HK6.out
      rw [e7] at hk7
      have EE7 := Lib.hid e7
      clear e7
      have HKK7 := Lib.hid hk7; clear hk7
      go_wp2_with (first | (fail))
      (with_reducible refine C7.out.mono ?_)
      cases r7 with
      | error c =>
        rintro e Y7 ⟨rfl, hm7⟩
        refine ⟨rfl, ?_⟩
        have hk := HKK7.out
        simp only [bR_err] at hk
        rw [← hk]
        exact ⟨rfl, HH4.out.goneR hm7⟩
      | ok v7 =>
        obtain ⟨x7, b7⟩ := v7
        rintro e Y7 ⟨u7, rfl, rfl, hb7, hm7⟩
        have HH7 := Lib.hid (HH4.out.read hb7 hm7 (rId_at EE7.out))
        have hk7 := HKK7.out
        simp only [bR_ok] at hk7
        have HK7 := Lib.hid hk7
        clear hb7 hm7 hk7 C7 HKK7 c4 f4 z4 l5
        have c8 : Y7.cell? ⟨P, 4, none⟩ = some (.int .i64 (q4.id)) := HH7.out.pB.cell 4
        have f8 := HH7.out.pB.frozen 4
        obtain ⟨q8, eq8⟩ : ∃ q : Pk, { q4 with id := x7 } = q := ⟨_, rfl⟩
        obtain ⟨Z8, z8⟩ : ∃ Z, Y7.setCell ⟨P, 4, none⟩ (.int .i64 (x7)) = Z := ⟨_, rfl⟩
        have hh8 := HH7.out.set 4 (.int .i64 (x7)) ({ q4 with id := x7 }) (m) rfl ⟨HH7.out.o.ps, HH7.out.o.wps, HH7.out.o.cs, HH7.out.o.ss, HH7.out.o.fs⟩
        rw [z8, eq8] at hh8
        have HH8 := Lib.hid hh8
        have EQ8 := Lib.hid eq8
        clear hh8 eq8
        have hk9 := HK7.out
        rw [show ({ p with topic := x3, id := x7 } : Pk) = q8 from by rw [← EQ8.out, ← EQ4.out]] at hk9
        have HK9 := Lib.hid hk9
        clear hk9
        have hk := HK9.out
        unfold rPayl at hk
        rw [bR_assoc] at hk
        have HK10 := Lib.hid hk; clear hk
        obtain ⟨r11, e11⟩ : ∃ r, rProps 3 s b7 = r := ⟨_, rfl⟩
        have C11 := Lib.hid (rprops_any R s b7 3 Z8 HH8.out.rB HH8.out.sz HH8.out.a0 HH8.out.a1 HH8.out.tb)
        rw [e11] at C11
        have hk11 := HK10.out
        rw [e11] at hk11
        have EE11 := Lib.hid e11
        clear e11
        have HKK11 := Lib.hid hk11; clear hk11
        go_wp2_with (first | (fail))
        (with_reducible refine C11.out.mono ?_)
        cases r11 with
        | error c =>
          rintro e Y11 ⟨rfl, hm11⟩
          refine ⟨rfl, ?_⟩
          have hk := HKK11.out
          simp only [bR_err] at hk
          rw [← hk]
          exact ⟨rfl, HH8.out.goneR hm11⟩
        | ok v11 =>
          obtain ⟨x11, b11⟩ := v11
          rintro e Y11 ⟨u11, rfl, hps11, hb11, hm11⟩
          have HH11 := Lib.hid (HH8.out.read hb11 hm11 (rProps_at EE11.out HH8.out.a0))
          have hk11 := HKK11.out
          simp only [bR_ok] at hk11
          have HK11 := Lib.hid hk11
          obtain ⟨ao11, cp11, rfl, -⟩ := hps11.form
          have HS11 := Lib.hid (hps11.mono' HH8.out.md.size)
          clear hps11
          clear hb11 hm11 hk11 C11 HKK11 c8 f8 z8
          have c12 : Y11.cell? ⟨P, 9, none⟩ = some (.slice m.p.A m.p.n m.p.cap) := HH11.out.pB.cell 9
          have f12 := HH11.out.pB.frozen 9
          obtain ⟨q12, eq12⟩ : ∃ q : Pk, { q8 with ps := x11 } = q := ⟨_, rfl⟩
          obtain ⟨Z12, z12⟩ : ∃ Z, Y11.setCell ⟨P, 9, none⟩ (.slice ao11 x11.length cp11) = Z := ⟨_, rfl⟩
          have hh12 := HH11.out.set 9 (.slice ao11 x11.length cp11) ({ q8 with ps := x11 }) ({ m with p := ⟨ao11, x11.length, cp11⟩ }) rfl ⟨HS11.out, HH11.out.o.wps, HH11.out.o.cs, HH11.out.o.ss, HH11.out.o.fs⟩
          obtain ⟨M12, em12⟩ : ∃ M : Hs, { m with p := ⟨ao11, x11.length, cp11⟩ } = M := ⟨_, rfl⟩
          rw [z12, eq12, em12] at hh12
          clear em12
          have HH12 := Lib.hid hh12
          have EQ12 := Lib.hid eq12
          clear hh12 eq12
          go_wp2_with fail
          obtain ⟨XX, hXX⟩ : ∃ XX, Z12 = XX := ⟨_, rfl⟩
          have HHX := HH12
          rw [hXX] at HHX ⊢
          clear hXX c12 f12 z12
          have r0 : XX.cell? ⟨R, 0, none⟩ = some (.string s) := HHX.out.rB.cell 0
          have r1 : XX.cell? ⟨R, 1, none⟩ = some (.int .i64 b11) := HHX.out.rB.cell 1
          have p6 : XX.cell? ⟨P, 6, none⟩ = some (.string q12.payload) := HHX.out.pB.cell 6
          have p6f := HHX.out.pB.frozen 6
          have ha0 := HHX.out.a0; have ha1 := HHX.out.a1; have hsz := HHX.out.sz
          have hs0 : S2p XX R s b11 := ⟨r0, r1⟩
          have hsd : S2p XX.drew R s b11 := hs0
          have hst : ∀ v, S2p (XX.drew.setCell ⟨P, 6, none⟩ v) R s b11 := fun v => ⟨(World.cell?_of_block (Below.heap_setCell _ _ _ _ HHX.out.ne)).trans r0, (World.cell?_of_block (Below.heap_setCell _ _ _ _ HHX.out.ne)).trans r1⟩
          go_region_held3 (fun Z => S2p Z R s b11) (first | (with_reducible assumption) | exact hs0 | exact hsd | exact hst _) (fail)
          obtain ⟨q13, eq13⟩ : ∃ q : Pk, { q12 with payload := s.extract b11.toNat s.size } = q := ⟨_, rfl⟩
          have hh13 := (HHX.out.set 6 (.string (s.extract b11.toNat s.size)) ({ q12 with payload := s.extract b11.toNat s.size }) M12 rfl ⟨HHX.out.o.ps, HHX.out.o.wps, HHX.out.o.cs, HHX.out.o.ss, HHX.out.o.fs⟩).drew 1
          change St _ _ _ _ _ _ _ (XX.setCell ⟨P, 6, none⟩ (.string (s.extract b11.toNat s.size))).drew at hh13
          obtain ⟨Z13, z13⟩ : ∃ Z, (XX.setCell ⟨P, 6, none⟩ (.string (s.extract b11.toNat s.size))).drew = Z := ⟨_, rfl⟩
          rw [z13, eq13] at hh13
          rw [z13]
          have HH13 := Lib.hid hh13; have EQ13 := Lib.hid eq13
          clear hh13 z13 eq13 r0 r1 p6 p6f hs0 hsd hst
          have r0 : Z13.cell? ⟨R, 0, none⟩ = some (.string s) := HH13.out.rB.cell 0
          have r1 : Z13.cell? ⟨R, 1, none⟩ = some (.int .i64 b11) := HH13.out.rB.cell 1
          have r1f := HH13.out.rB.frozen 1
          have hh2 := HH13.out.setR ⟨ha1, Int.le_refl _⟩
          obtain ⟨ZR, zr⟩ : ∃ Z, Z13.setCell ⟨R, 1, none⟩ (.int .i64 (s.size : Int)) = Z := ⟨_, rfl⟩
          rw [zr] at hh2
          have HHR := Lib.hid hh2; clear hh2
          have hk := HK11.out
          rw [show ({ q8 with ps := x11, payload := s.extract b11.toNat s.size } : Pk) = q13 from by rw [← EQ13.out, ← EQ12.out], if_neg (by omega)] at hk
          have HK14 := Lib.hid hk; clear hk
          have CL := Lib.hid (left_any R s s.size ZR HHR.out.rB)
          go_wp2_with fail
          (with_reducible refine CL.out.mono ?_)
          rintro e YL ⟨rfl, hbL, hhL⟩
          have HL := Lib.hid (HHR.out.heap hbL)
          have hdL : decide ((s.size : Int) < (s.size : Int)) = false := by simp
          rw [hdL]
          clear hbL hhL CL r0 r1 r1f zr
          go_wp2_with (first | (go_at_call 34; (with_reducible refine (must_true _).mono ?_); rintro e YM ⟨rfl, rfl⟩) | (fail))
          go_end0
          have hk := HK14.out
          rw [← hk]
          exact ⟨rfl, _, HL.out⟩
    · have hqd : decide (0 < p.q) = false := decide_eq_false hq
      have hk := HK3.out
      rw [if_neg hq] at hk
      have HK15 := Lib.hid hk; clear hk
      have hk16 := HK15.out
      rw [show ({ p with topic := x3 } : Pk) = q4 from by rw [← EQ4.out]] at hk16
      have HK16 := Lib.hid hk16
      clear hk16
      have hk := HK16.out
      unfold rPayl at hk
      rw [bR_assoc] at hk
      have HK17 := Lib.hid hk; clear hk
      obtain ⟨r18, e18⟩ : ∃ r, rProps 3 s b3 = r := ⟨_, rfl⟩
      have C18 := Lib.hid (rprops_any R s b3 3 Z4 HH4.out.rB HH4.out.sz HH4.out.a0 HH4.out.a1 HH4.out.tb)
      rw [e18] at C18
      have hk18 := HK17.out
      rw [e18] at hk18
      have EE18 := Lib.hid e18
      clear e18
      have HKK18 := Lib.hid hk18; clear hk18
      go_wp2_with (first | (fail))
      (with_reducible refine C18.out.mono ?_)
      cases r18 with
      | error c =>
        rintro e Y18 ⟨rfl, hm18⟩
        refine ⟨rfl, ?_⟩
        have hk := HKK18.out
        simp only [bR_err] at hk
        rw [← hk]
        exact ⟨rfl, HH4.out.goneR hm18⟩
      | ok v18 =>
        obtain ⟨x18, b18⟩ := v18
        rintro e Y18 ⟨u18, rfl, hps18, hb18, hm18⟩
        have HH18 := Lib.hid (HH4.out.read hb18 hm18 (rProps_at EE18.out HH4.out.a0))
        have hk18 := HKK18.out
        simp only [bR_ok] at hk18
        have HK18 := Lib.hid hk18
        obtain ⟨ao18, cp18, rfl, -⟩ := hps18.form
        have HS18 := Lib.hid (hps18.mono' HH4.out.md.size)
        clear hps18
        clear hb18 hm18 hk18 C18 HKK18 c4 f4 z4 l5
        have c19 : Y18.cell? ⟨P, 9, none⟩ = some (.slice m.p.A m.p.n m.p.cap) := HH18.out.pB.cell 9
        have f19 := HH18.out.pB.frozen 9
        obtain ⟨q19, eq19⟩ : ∃ q : Pk, { q4 with ps := x18 } = q := ⟨_, rfl⟩
        obtain ⟨Z19, z19⟩ : ∃ Z, Y18.setCell ⟨P, 9, none⟩ (.slice ao18 x18.length cp18) = Z := ⟨_, rfl⟩
        have hh19 := HH18.out.set 9 (.slice ao18 x18.length cp18) ({ q4 with ps := x18 }) ({ m with p := ⟨ao18, x18.length, cp18⟩ }) rfl ⟨HS18.out, HH18.out.o.wps, HH18.out.o.cs, HH18.out.o.ss, HH18.out.o.fs⟩
        obtain ⟨M19, em19⟩ : ∃ M : Hs, { m with p := ⟨ao18, x18.length, cp18⟩ } = M := ⟨_, rfl⟩
        rw [z19, eq19, em19] at hh19
        clear em19
        have HH19 := Lib.hid hh19
        have EQ19 := Lib.hid eq19
        clear hh19 eq19
        go_wp2_with fail
        obtain ⟨XX, hXX⟩ : ∃ XX, Z19 = XX := ⟨_, rfl⟩
        have HHX := HH19
        rw [hXX] at HHX ⊢
        clear hXX c19 f19 z19
        have r0 : XX.cell? ⟨R, 0, none⟩ = some (.string s) := HHX.out.rB.cell 0
        have r1 : XX.cell? ⟨R, 1, none⟩ = some (.int .i64 b18) := HHX.out.rB.cell 1
        have p6 : XX.cell? ⟨P, 6, none⟩ = some (.string q19.payload) := HHX.out.pB.cell 6
        have p6f := HHX.out.pB.frozen 6
        have ha0 := HHX.out.a0; have ha1 := HHX.out.a1; have hsz := HHX.out.sz
        have hs0 : S2p XX R s b18 := ⟨r0, r1⟩
        have hsd : S2p XX.drew R s b18 := hs0
        have hst : ∀ v, S2p (XX.drew.setCell ⟨P, 6, none⟩ v) R s b18 := fun v => ⟨(World.cell?_of_block (Below.heap_setCell _ _ _ _ HHX.out.ne)).trans r0, (World.cell?_of_block (Below.heap_setCell _ _ _ _ HHX.out.ne)).trans r1⟩
        go_region_held3 (fun Z => S2p Z R s b18) (first | (with_reducible assumption) | exact hs0 | exact hsd | exact hst _) (fail)
        obtain ⟨q20, eq20⟩ : ∃ q : Pk, { q19 with payload := s.extract b18.toNat s.size } = q := ⟨_, rfl⟩
        have hh20 := (HHX.out.set 6 (.string (s.extract b18.toNat s.size)) ({ q19 with payload := s.extract b18.toNat s.size }) M19 rfl ⟨HHX.out.o.ps, HHX.out.o.wps, HHX.out.o.cs, HHX.out.o.ss, HHX.out.o.fs⟩).drew 1
        change St _ _ _ _ _ _ _ (XX.setCell ⟨P, 6, none⟩ (.string (s.extract b18.toNat s.size))).drew at hh20
        obtain ⟨Z20, z20⟩ : ∃ Z, (XX.setCell ⟨P, 6, none⟩ (.string (s.extract b18.toNat s.size))).drew = Z := ⟨_, rfl⟩
        rw [z20, eq20] at hh20
        rw [z20]
        have HH20 := Lib.hid hh20; have EQ20 := Lib.hid eq20
        clear hh20 z20 eq20 r0 r1 p6 p6f hs0 hsd hst
        have r0 : Z20.cell? ⟨R, 0, none⟩ = some (.string s) := HH20.out.rB.cell 0
        have r1 : Z20.cell? ⟨R, 1, none⟩ = some (.int .i64 b18) := HH20.out.rB.cell 1
        have r1f := HH20.out.rB.frozen 1
        have hh2 := HH20.out.setR ⟨ha1, Int.le_refl _⟩
        obtain ⟨ZR, zr⟩ : ∃ Z, Z20.setCell ⟨R, 1, none⟩ (.int .i64 (s.size : Int)) = Z := ⟨_, rfl⟩
        rw [zr] at hh2
        have HHR := Lib.hid hh2; clear hh2
        have hk := HK18.out
        rw [show ({ q4 with ps := x18, payload := s.extract b18.toNat s.size } : Pk) = q20 from by rw [← EQ20.out, ← EQ19.out], if_neg (by omega)] at hk
        have HK21 := Lib.hid hk; clear hk
        have CL := Lib.hid (left_any R s s.size ZR HHR.out.rB)
        go_wp2_with fail
        (with_reducible refine CL.out.mono ?_)
        rintro e YL ⟨rfl, hbL, hhL⟩
        have HL := Lib.hid (HHR.out.heap hbL)
        have hdL : decide ((s.size : Int) < (s.size : Int)) = false := by simp
        rw [hdL]
        clear hbL hhL CL r0 r1 r1f zr
        go_wp2_with (first | (go_at_call 34; (with_reducible refine (must_true _).mono ?_); rintro e YM ⟨rfl, rfl⟩) | (fail))
        go_end0
        have hk := HK21.out
        rw [← hk]
        exact ⟨rfl, _, HL.out⟩
theorem rbody_any {w : World} {R P : Nat} {s : ByteArray} {a : Int} {p : Pk} {m : Hs} {X : World} (h : St w R P s a p m X) (hw : Tabs w) (hL : p.subs.length + p.filters.length + p.codes.length ≤ 1000) (h1 : 1 ≤ p.kind) (h2 : p.kind ≤ 15) :
    Calls Tryd.prog 35 #[.pointer (some ⟨R, 0, none⟩), .pointer (some ⟨P, 0, none⟩)] X (PkPost' w R P s (rBody s p a)) := by
  unfold rBody rKind
  have hk : p.kind = 1 ∨ p.kind = 2 ∨ p.kind = 3 ∨ p.kind = 4 ∨ p.kind = 5 ∨ p.kind = 6 ∨ p.kind = 7 ∨ p.kind = 8 ∨ p.kind = 9 ∨ p.kind = 10 ∨ p.kind = 11 ∨ p.kind = 12 ∨ p.kind = 13 ∨ p.kind = 14 ∨ p.kind = 15 := by omega
  rcases hk with k | k | k | k | k | k | k | k | k | k | k | k | k | k | k
  · have := body_1 h hw hL k
    simpa [k] using this
  · have := body_2 h hw hL k
    simpa [k] using this
  · have := body_3 h hw hL k
    simpa [k] using this
  · have := body_4 h hw hL k
    simpa [k] using this
  · have := body_5 h hw hL k
    simpa [k] using this
  · have := body_6 h hw hL k
    simpa [k] using this
  · have := body_7 h hw hL k
    simpa [k] using this
  · have := body_8 h hw hL k
    simpa [k] using this
  · have := body_9 h hw hL k
    simpa [k] using this
  · have := body_10 h hw hL k
    simpa [k] using this
  · have := body_11 h hw hL k
    simpa [k] using this
  · have := body_12 h hw hL k
    simpa [k] using this
  · have := body_13 h hw hL k
    simpa [k] using this
  · have := body_14 h hw hL k
    simpa [k] using this
  · have := body_15 h hw hL k
    simpa [k] using this
end Go.Proofs.YtedapgeabpadaaaDoor

set_option linter.unusedVariables false
namespace Go.Proofs.YtedapgeabpadaaaDoor
open Go.Shelf Go.RowKit Pl

theorem Wst.drewN {W0 : World} {b : Nat} {o : Ot} {w : World} (h : Wst W0 b o w) (n : Nat) : Wst W0 b o (w.drewN n) :=
  ⟨⟨h.below.os, h.below.tape, h.below.output, h.below.size, h.below.block⟩, h.wr⟩
theorem ModT.drewN {T : TypeId → Prop} {a b : World} (h : ModT T a b) (n : Nat) : ModT T a (b.drewN n) := ⟨h.os, h.tape, h.output, h.size, h.block⟩

end Go.Proofs.YtedapgeabpadaaaDoor

set_option linter.unusedVariables false
namespace Go.Proofs.YtedapgeabpadaaaDoor
open Go.Shelf Go.RowKit Pl

abbrev S5b (X : World) (B : Nat) (x : Sb) : Prop := X.cell? ⟨B, 0, none⟩ = some (.string x.f) ∧ X.cell? ⟨B, 1, none⟩ = some (.int .i64 x.q) ∧ X.cell? ⟨B, 2, none⟩ = some (.bool x.nl) ∧ X.cell? ⟨B, 3, none⟩ = some (.bool x.ap) ∧ X.cell? ⟨B, 4, none⟩ = some (.int .i64 x.h)
theorem S5b.of {X : World} {B : Nat} {x : Sb} {T : TypeId} (h : Blk X B (sbA x) T) : S5b X B x := ⟨h.cell 0, h.cell 1, h.cell 2, h.cell 3, h.cell 4⟩
theorem Wst.drew {W0 : World} {b : Nat} {o : Ot} {w : World} (h : Wst W0 b o w) : Wst W0 b o w.drew :=
  ⟨⟨h.below.os, h.below.tape, h.below.output, h.below.size, h.below.block⟩, h.wr⟩
theorem ModT.drew {T : TypeId → Prop} {a b : World} (h : ModT T a b) : ModT T a b.drew := ⟨h.os, h.tape, h.output, h.size, h.block⟩
end Go.Proofs.YtedapgeabpadaaaDoor

set_option linter.unusedVariables false
namespace Go.Proofs.YtedapgeabpadaaaDoor
open Go.Shelf Go.RowKit Pl

theorem kflags_any (k : Int) (w : World) : Calls Tryd.prog 22 #[.int .i64 k] w fun e w' => e = .returned (.int .i64 (kFlags k)) ∧ w = w' := by
  obtain ⟨f, hf⟩ : ∃ f, kFlags k = f := ⟨_, rfl⟩
  rw [hf]
  unfold kFlags at hf
  by_cases h6 : k = 6
  · rw [if_pos (.inl h6)] at hf
    subst hf
    have t1 : (k == 6) = true := by rw [h6]; rfl
    clear h6
    go_enter Tryd.func22, Tryd.ntmps22
    go_wp2
    go_ret
    exact ⟨rfl, rfl⟩
  · have t1 : (k == 6) = false := beq_eq_false_iff_ne.2 h6
    by_cases h8 : k = 8
    · rw [if_pos (.inr (.inl h8))] at hf
      subst hf
      have t2 : (k == 8) = true := by rw [h8]; rfl
      clear h6 h8
      go_enter Tryd.func22, Tryd.ntmps22
      go_wp2
      go_ret
      exact ⟨rfl, rfl⟩
    · have t2 : (k == 8) = false := beq_eq_false_iff_ne.2 h8
      by_cases h10 : k = 10
      · rw [if_pos (.inr (.inr h10))] at hf
        subst hf
        have t3 : (k == 10) = true := by rw [h10]; rfl
        clear h6 h8 h10
        go_enter Tryd.func22, Tryd.ntmps22
        go_wp2
        go_ret
        exact ⟨rfl, rfl⟩
      · rw [if_neg (by omega)] at hf
        subst hf
        have t3 : (k == 10) = false := beq_eq_false_iff_ne.2 h10
        clear h6 h8 h10
        go_enter Tryd.func22, Tryd.ntmps22
        go_wp2
        go_ret
        exact ⟨rfl, rfl⟩
end Go.Proofs.YtedapgeabpadaaaDoor

