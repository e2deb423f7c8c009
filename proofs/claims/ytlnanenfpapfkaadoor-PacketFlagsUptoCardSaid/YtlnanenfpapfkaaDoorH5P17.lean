/- Parts of the proof, joined: Gw3, Gw4. -/
import Derived.Test.YtlnanenfpapfkaaDoorH5P16
/- A packet that is being read: what stands in memory; end. -/
set_option linter.unusedVariables false
namespace Go.Proofs.YtlnanenfpapfkaaDoor
open Go.RowKit Pl Go.Shelf Go.PlainAid

def sbF (L : List Sb) : List Value := L.flatMap fun x => (sbA x).toList
/-- A packet's lists, in memory of their own. -/
structure PkO (B : Nat) (w : World) (p : Pk) (m : Hs) : Prop where
  ps : Sl B w 99 4 m.p.v p.ps.length (flat p.ps)
  wps : Sl B w 99 4 m.w.v p.wps.length (flat p.wps)
  cs : Sl B w 31 1 m.c.v p.codes.length (p.codes.map (Value.int .u8))
  ss : Sl B w 63 5 m.s.v p.subs.length (sbF p.subs)
  fs : Sl B w 9 1 m.f.v p.filters.length (p.filters.map Value.string)
theorem PkO.same {B : Nat} {w w' : World} {p : Pk} {m : Hs} (h : PkO B w p m) (hk : ∀ (e : TypeId) (size : Nat) v n xs, Sl B w e size v n xs → (e = 99 ∨ e = 31 ∨ e = 63 ∨ e = 9) → Sl B w' e size v n xs) : PkO B w' p m :=
  ⟨hk _ _ _ _ _ h.ps (.inl rfl), hk _ _ _ _ _ h.wps (.inl rfl), hk _ _ _ _ _ h.cs (.inr (.inl rfl)), hk _ _ _ _ _ h.ss (.inr (.inr (.inl rfl))), hk _ _ _ _ _ h.fs (.inr (.inr (.inr rfl)))⟩
theorem Sl.mono' {B B' n size : Nat} {w : World} {e : TypeId} {v : Value} {xs : List Value} (h : Sl B w e size v n xs) (hB : B' ≤ B) : Sl B' w e size v n xs := by
  refine ⟨h.1, ?_⟩
  rcases h.2 with c | ⟨g, o, cap, cur, h1, h2, r⟩
  · exact .inl c
  · exact .inr ⟨g, o, cap, cur, h1, by omega, r⟩
theorem Sl.one_mod {B n size R : Nat} {w w' : World} {e T : TypeId} {v : Value} {xs : List Value} {cs : Array Value} (h : Sl B w e size v n xs) (hb : Blk w R cs T) (hT : T ≠ e) (m : Mod (· = R) w w') : Sl B w' e size v n xs :=
  h.same fun k hk => m.block k (h.lt k hk).2 fun c => h.ne hb hT (by rw [hk, c])
/-- The reader R (bytes s, place a) and the packet P (p, its lists m), in a world that has come of w. -/
structure St (w : World) (R P : Nat) (s : ByteArray) (a : Int) (p : Pk) (m : Hs) (X : World) : Prop where
  rB : Blk X R (rdrA s a) 94
  pB : Blk X P (pkA .u8 p m) 38
  o : PkO w.heap.size X p m
  md : Mod (fun k => k = R ∨ k = P) w X
  tb : Tabs X
  lR : R < w.heap.size
  lP : P < w.heap.size
  ne : R ≠ P
  nR : NoTab R
  nP : NoTab P
  a0 : 0 ≤ a
  a1 : a ≤ s.size
  sz : s.size ≤ 140737488351232
section
variable {w : World} {R P : Nat} {s : ByteArray} {a : Int} {p : Pk} {m : Hs} {X : World}
theorem St.read (h : St w R P s a p m X) {b : Int} {Y : World} (hb : Blk Y R (rdrA s b) 94) (hm : Mod (· = R) X Y) (ha : a ≤ b ∧ b ≤ s.size ∧ 0 ≤ a) : St w R P s b p m Y :=
  ⟨hb, (hm.block P h.pB.lt (fun c => h.ne c.symm)).trans h.pB,
    h.o.same (fun e size v n xs hs he => hs.one_mod h.rB (by rcases he with rfl | rfl | rfl | rfl <;> decide) hm),
    h.md.trans (hm.weaken (fun k _ c => .inl c)), tabs_mod h.tb hm h.nR, h.lR, h.lP, h.ne, h.nR, h.nP, by have := h.a0; omega, ha.2.1, h.sz⟩
theorem St.set (h : St w R P s a p m X) (i : Nat) (v : Value) (p' : Pk) (m' : Hs) (e : (pkA .u8 p m).setIfInBounds i v = pkA .u8 p' m') (ho : PkO w.heap.size X p' m') : St w R P s a p' m' (X.setCell ⟨P, i, none⟩ v) :=
  ⟨h.rB.other h.ne i v, by rw [← e]; exact h.pB.set i v,
    ho.same (fun e size u n xs hs he => hs.set i v (hs.ne h.pB (by rcases he with rfl | rfl | rfl | rfl <;> decide))),
    h.md.setCell (.inl (.inr rfl)) v, tabs_set h.tb h.nP v, h.lR, h.lP, h.ne, h.nR, h.nP, h.a0, h.a1, h.sz⟩
theorem St.drew (h : St w R P s a p m X) (n : Nat) : St w R P s a p m (X.drewN n) :=
  ⟨h.rB, h.pB, ⟨h.o.ps, h.o.wps, h.o.cs, h.o.ss, h.o.fs⟩, ⟨h.md.os, h.md.tape, h.md.output, h.md.size, h.md.block⟩, h.tb.below ⟨rfl, rfl, rfl, Nat.le_refl _, fun _ _ => rfl⟩, h.lR, h.lP, h.ne, h.nR, h.nP, h.a0, h.a1, h.sz⟩
theorem St.heap (h : St w R P s a p m X) {Y : World} (b : Below X.heap.size X Y) : St w R P s a p m Y :=
  ⟨h.rB.of_below b, h.pB.of_below b, h.o.same (fun e size v n xs hs he => hs.below b), h.md.add b, h.tb.below b, h.lR, h.lP, h.ne, h.nR, h.nP, h.a0, h.a1, h.sz⟩
/-- What is left where a code leaves it. -/
def Gone (w : World) (R P : Nat) (Y : World) : Prop := Mod (fun k => k = R ∨ k = P) w Y ∧ ∃ p m, Blk Y P (pkA .u8 p m) 38
theorem St.gone (h : St w R P s a p m X) : Gone w R P X := ⟨h.md, p, m, h.pB⟩
theorem St.goneR (h : St w R P s a p m X) {Y : World} (hm : Mod (· = R) X Y) : Gone w R P Y :=
  ⟨h.md.trans (hm.weaken (fun k _ c => .inl c)), p, m, (hm.block P h.pB.lt (fun c => h.ne c.symm)).trans h.pB⟩
end
/-- What a method that reads into a packet leaves. -/
def PkPost' (w : World) (R P : Nat) (s : ByteArray) (r : RR Pk) (e : Ending) (Y : World) : Prop :=
  match r with
  | .ok (p, a) => e = .returned (.tuple #[]) ∧ ∃ m, St w R P s a p m Y
  | .error c => e = .panicked (flt_ c) ∧ Gone w R P Y
theorem getP_at {s : ByteArray} {a : Int} (h : (getP s a).2.2 = 0) : a ≤ (getP s a).2.1 ∧ (getP s a).2.1 ≤ s.size := by
  unfold getP at h ⊢
  by_cases h1 : (getV s a).2.2 ≠ 0
  · rw [if_pos h1] at h; exact absurd h h1
  · rw [if_neg h1] at h ⊢
    by_cases h2 : (s.size : Int) - (getV s a).2.1 < (getV s a).1
    · rw [if_pos h2] at h; simp at h
    · rw [if_neg h2] at h ⊢
      obtain ⟨r, hr⟩ : ∃ r, pgs (s.extract (getV s a).2.1.toNat ((getV s a).2.1.toNat + (getV s a).1.toNat)) 66 [] 0 = r := ⟨_, rfl⟩
      rw [hr] at h ⊢
      by_cases h3 : r.2 ≠ 0
      · simp only at h; rw [if_pos h3] at h; exact absurd h h3
      · simp only
        rw [if_neg h3]
        have hc : (getV s a).2.2 = 0 := Classical.byContradiction h1
        obtain ⟨i, j, hi, hj, hij, hjs, _, hn0, hn1⟩ := getV_to (s := s) (a := a) (n := (getV s a).1) (tu := (getV s a).2.1) (Prod.ext rfl (Prod.ext rfl hc))
        simp only
        omega
theorem rProps_at {k : Int} {s : ByteArray} {a b : Int} {L : List Pp} (h : rProps k s a = .ok (L, b)) (ha : 0 ≤ a) : a ≤ b ∧ b ≤ s.size ∧ 0 ≤ a := by
  unfold rProps at h
  by_cases h1 : (getP s a).2.2 = 242
  · rw [if_pos h1] at h; cases h
  · rw [if_neg h1] at h
    by_cases h2 : (getP s a).2.2 ≠ 0
    · rw [if_pos h2] at h; cases h
    · rw [if_neg h2] at h
      by_cases h3 : okAll k (getP s a).1 = false
      · rw [if_pos h3] at h; cases h
      · rw [if_neg h3] at h
        cases h
        have := getP_at (s := s) (a := a) (Classical.byContradiction h2)
        exact ⟨this.1, this.2, ha⟩
theorem rId_at {s : ByteArray} {a n b : Int} (h : rId s a = .ok (n, b)) : a ≤ b ∧ b ≤ s.size ∧ 0 ≤ a := by
  unfold rId at h
  obtain ⟨r, hr⟩ : ∃ r, rNum s 2 a = r := ⟨_, rfl⟩
  rw [hr] at h
  cases r with
  | error c => cases h
  | ok v =>
    obtain ⟨x, y⟩ := v
    simp only [bindR] at h
    split at h
    · cases h
    · cases h; exact rNum_at hr
end Go.Proofs.YtlnanenfpapfkaaDoor

/- A packet's reader walked: end. -/
set_option linter.unusedVariables false
namespace Go.Proofs.YtlnanenfpapfkaaDoor
open Go.RowKit Pl Go.Shelf Go.PlainAid

theorem bR_ok {α β : Type} {v : α} {a : Int} {k : α → Int → RR β} : bindR (.ok (v, a)) k = k v a := rfl
theorem bR_err {α β : Type} {c : Int} {k : α → Int → RR β} : bindR (.error c) k = .error c := rfl

set_option maxHeartbeats 8000000 in
set_option maxRecDepth 100000 in
theorem rend_any {w : World} {R P : Nat} {s : ByteArray} {a : Int} {p : Pk} {m : Hs} {X : World} (h : St w R P s a p m X) :
    Calls Tryd.prog 59 #[.pointer (some ⟨R, 0, none⟩), .pointer (some ⟨P, 0, none⟩)] X (PkPost' w R P s (rEnd s p a)) := by
  have H0 := Lib.hid h
  obtain ⟨RES, hres⟩ : ∃ RES, rEnd s p a = RES := ⟨_, rfl⟩
  rw [hres]
  unfold rEnd at hres
  have HK0 := Lib.hid hres
  clear h hres
  go_enter Tryd.func59, Tryd.ntmps59
  have CL1 := Lib.hid (left_any R s a X H0.out.rB)
  go_wp2_with fail
  (with_reducible refine CL1.out.mono ?_)
  rintro e Y1 ⟨rfl, hb1, hh1⟩
  have HL1 := Lib.hid (H0.out.heap hb1)
  clear hb1 hh1 CL1 
  by_cases hl1 : a < (s.size : Int)
  · have hd1 : decide (a < (s.size : Int)) = true := by simp [hl1]
    rw [hd1]
    have hk1 := HK0.out
    rw [if_pos hl1] at hk1
    have HKY1 := Lib.hid hk1; clear hk1
    obtain ⟨r2, e2⟩ : ∃ r, rNum s 1 a = r := ⟨_, rfl⟩
    have C2 := Lib.hid (rnum_any R s a 1 Y1 HL1.out.rB HL1.out.sz HL1.out.a0 HL1.out.a1)
    rw [e2] at C2
    have hk2 := HKY1.out
    rw [e2] at hk2
    have EE2 := Lib.hid e2
    clear e2
    have HKK2 := Lib.hid hk2; clear hk2
    go_wp2_with (first | (fail))
    (with_reducible refine C2.out.mono ?_)
    cases r2 with
    | error c =>
      rintro e Y2 ⟨rfl, hm2⟩
      refine ⟨rfl, ?_⟩
      have hk := HKK2.out
      simp only [bR_err] at hk
      rw [← hk]
      exact ⟨rfl, HL1.out.goneR hm2⟩
    | ok v2 =>
      obtain ⟨x2, b2⟩ := v2
      rintro e Y2 ⟨u2, rfl, rfl, hb2, hm2⟩
      have HH2 := Lib.hid (HL1.out.read hb2 hm2 (rNum_at EE2.out))
      have hk2 := HKK2.out
      simp only [bR_ok] at hk2
      have HK2 := Lib.hid hk2
      clear hb2 hm2 hk2 C2 HKK2 
      have hby := rNum_byte EE2.out
      have hw2 : x2 % 256 = x2 := by omega
      have c3 : Y2.cell? ⟨P, 7, none⟩ = some (.int .u8 (p.code)) := HH2.out.pB.cell 7
      have f3 := HH2.out.pB.frozen 7
      obtain ⟨q3, eq3⟩ : ∃ q : Pk, { p with code := x2 } = q := ⟨_, rfl⟩
      obtain ⟨Z3, z3⟩ : ∃ Z, Y2.setCell ⟨P, 7, none⟩ (.int .u8 (x2)) = Z := ⟨_, rfl⟩
      have hh3 := HH2.out.set 7 (.int .u8 (x2)) ({ p with code := x2 }) (m) rfl ⟨HH2.out.o.ps, HH2.out.o.wps, HH2.out.o.cs, HH2.out.o.ss, HH2.out.o.fs⟩
      rw [z3, eq3] at hh3
      have HH3 := Lib.hid hh3
      have EQ3 := Lib.hid eq3
      clear hh3 eq3
      have hk4 := HK2.out
      rw [show ({ p with code := x2 } : Pk) = q3 from by rw [← EQ3.out]] at hk4
      have HK4 := Lib.hid hk4
      clear hk4
      have hkp := HK4.out
      unfold rEndP at hkp
      have HKP5 := Lib.hid hkp; clear hkp
      have CL6 := Lib.hid (left_any R s b2 Z3 HH3.out.rB)
      go_wp2_with fail
      (with_reducible refine CL6.out.mono ?_)
      rintro e Y6 ⟨rfl, hb6, hh6⟩
      have HL6 := Lib.hid (HH3.out.heap hb6)
      clear hb6 hh6 CL6 c3 f3 z3
      by_cases hl6 : b2 < (s.size : Int)
      · have hd6 : decide (b2 < (s.size : Int)) = true := by simp [hl6]
        rw [hd6]
        have hk6 := HKP5.out
        rw [if_pos hl6] at hk6
        have HKY6 := Lib.hid hk6; clear hk6
        have l7 : Y6.cell? ⟨P, 0, none⟩ = some (.int .i64 (q3.kind)) := HL6.out.pB.cell 0
        obtain ⟨r8, e8⟩ : ∃ r, rProps q3.kind s b2 = r := ⟨_, rfl⟩
        have C8 := Lib.hid (rprops_any R s b2 q3.kind Y6 HL6.out.rB HL6.out.sz HL6.out.a0 HL6.out.a1 HL6.out.tb)
        rw [e8] at C8
        have hk8 := HKY6.out
        rw [e8] at hk8
        have EE8 := Lib.hid e8
        clear e8
        have HKK8 := Lib.hid hk8; clear hk8
        go_wp2_with (first | (fail))
        (with_reducible refine C8.out.mono ?_)
        cases r8 with
        | error c =>
          rintro e Y8 ⟨rfl, hm8⟩
          refine ⟨rfl, ?_⟩
          have hk := HKK8.out
          simp only [bR_err] at hk
          rw [← hk]
          exact ⟨rfl, HL6.out.goneR hm8⟩
        | ok v8 =>
          obtain ⟨x8, b8⟩ := v8
          rintro e Y8 ⟨u8, rfl, hps8, hb8, hm8⟩
          have HH8 := Lib.hid (HL6.out.read hb8 hm8 (rProps_at EE8.out HL6.out.a0))
          have hk8 := HKK8.out
          simp only [bR_ok] at hk8
          have HK8 := Lib.hid hk8
          obtain ⟨ao8, cp8, rfl, -⟩ := hps8.form
          have HS8 := Lib.hid (hps8.mono' HL6.out.md.size)
          clear hps8
          clear hb8 hm8 hk8 C8 HKK8 l7
          have c9 : Y8.cell? ⟨P, 9, none⟩ = some (.slice m.p.A m.p.n m.p.cap) := HH8.out.pB.cell 9
          have f9 := HH8.out.pB.frozen 9
          obtain ⟨q9, eq9⟩ : ∃ q : Pk, { q3 with ps := x8 } = q := ⟨_, rfl⟩
          obtain ⟨Z9, z9⟩ : ∃ Z, Y8.setCell ⟨P, 9, none⟩ (.slice ao8 x8.length cp8) = Z := ⟨_, rfl⟩
          have hh9 := HH8.out.set 9 (.slice ao8 x8.length cp8) ({ q3 with ps := x8 }) ({ m with p := ⟨ao8, x8.length, cp8⟩ }) rfl ⟨HS8.out, HH8.out.o.wps, HH8.out.o.cs, HH8.out.o.ss, HH8.out.o.fs⟩
          obtain ⟨M9, em9⟩ : ∃ M : Hs, { m with p := ⟨ao8, x8.length, cp8⟩ } = M := ⟨_, rfl⟩
          rw [z9, eq9, em9] at hh9
          clear em9
          have HH9 := Lib.hid hh9
          have EQ9 := Lib.hid eq9
          clear hh9 eq9
          have hk10 := HK8.out
          rw [show ({ q3 with ps := x8 } : Pk) = q9 from by rw [← EQ9.out]] at hk10
          have HK10 := Lib.hid hk10
          clear hk10
          go_wp2
          go_end0
          have hk := HK10.out
          rw [← hk]
          exact ⟨rfl, _, HH9.out⟩
      · have hd6 : decide (b2 < (s.size : Int)) = false := by simp [hl6]
        rw [hd6]
        have hk6 := HKP5.out
        rw [if_neg hl6] at hk6
        have HKY6 := Lib.hid hk6; clear hk6
        go_wp2
        go_end0
        have hk := HKY6.out
        rw [← hk]
        exact ⟨rfl, _, HL6.out⟩
  · have hd1 : decide (a < (s.size : Int)) = false := by simp [hl1]
    rw [hd1]
    have hk1 := HK0.out
    rw [if_neg hl1] at hk1
    have HKY1 := Lib.hid hk1; clear hk1
    have hkp := HKY1.out
    unfold rEndP at hkp
    have HKP11 := Lib.hid hkp; clear hkp
    have CL12 := Lib.hid (left_any R s a Y1 HL1.out.rB)
    go_wp2_with fail
    (with_reducible refine CL12.out.mono ?_)
    rintro e Y12 ⟨rfl, hb12, hh12⟩
    have HL12 := Lib.hid (HL1.out.heap hb12)
    clear hb12 hh12 CL12 
    by_cases hl12 : a < (s.size : Int)
    · have hd12 : decide (a < (s.size : Int)) = true := by simp [hl12]
      rw [hd12]
      have hk12 := HKP11.out
      exact absurd hl12 (Int.not_lt.2 hl1)
    · have hd12 : decide (a < (s.size : Int)) = false := by simp [hl12]
      rw [hd12]
      have hk12 := HKP11.out
      rw [if_neg hl12] at hk12
      have HKY12 := Lib.hid hk12; clear hk12
      go_wp2
      go_end0
      have hk := HKY12.out
      rw [← hk]
      exact ⟨rfl, _, HL12.out⟩
end Go.Proofs.YtlnanenfpapfkaaDoor
