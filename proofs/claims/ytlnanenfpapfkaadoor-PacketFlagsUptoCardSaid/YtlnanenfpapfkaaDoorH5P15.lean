/- Parts of the proof, joined: Gw0, PReader, BackPlain, RdPlain, PRValue. -/
import Derived.Test.YtlnanenfpapfkaaDoorH5P14
import Derived.Test.YtlnanenfpapfkaaDoorH5P2
import Derived.Test.YtlnanenfpapfkaaDoorH5P3
import Derived.Deep.RegionHeld3
import Derived.Test.YtlnanenfpapfkaaDoorH5P4
import Derived.Test.YtlnanenfpapfkaaDoorH5P8
/- A packet's reader walked: fail, must, left, number, text, data, id. -/
set_option linter.unusedVariables false
namespace Go.Proofs.YtlnanenfpapfkaaDoor
open Go.RowKit Pl

def flt_ (c : Int) : List PanicEntry := [{ v := .iface 86 (.int .u8 c), recovered := false }]
/-- A reader's cells. -/
def rdrA (s : ByteArray) (a : Int) : Array Value := #[.string s, .int .i64 a]
/-- What a reader's method leaves. -/
def RrPost {α : Type} (R : Nat) (s : ByteArray) (V : α → Value → World → Prop) (w : World) (r : RR α) (e : Ending) (w' : World) : Prop :=
  match r with
  | .ok (v, a) => ∃ u, e = .returned u ∧ V v u w' ∧ Blk w' R (rdrA s a) 94 ∧ Mod (· = R) w w'
  | .error c => e = .panicked (flt_ c) ∧ Mod (· = R) w w'
theorem fail_any (c : Int) (w : World) : Calls Tryd.prog 53 #[.int .u8 c] w fun e w' => e = .panicked (flt_ c) ∧ w' = w := by
  go_enter Tryd.func53, Tryd.ntmps53
  go_wp2
  exact ⟨rfl, rfl, rfl⟩
theorem must_true (w : World) : Calls Tryd.prog 30 #[.bool true] w fun e w' => e = .returned (.tuple #[]) ∧ w' = w := by
  go_enter Tryd.func30, Tryd.ntmps30
  go_wp2
  go_end0
  exact ⟨rfl, rfl⟩
theorem must_false (w : World) : Calls Tryd.prog 30 #[.bool false] w fun e w' => e = .panicked (flt_ 129) ∧ w' = w := by
  go_enter Tryd.func30, Tryd.ntmps30
  go_wp2_with fail
  (with_reducible refine (fail_any _ _).mono ?_)
  rintro e w' ⟨rfl, rfl⟩
  exact ⟨rfl, rfl, rfl⟩
abbrev S2p (X : World) (R : Nat) (s : ByteArray) (a : Int) : Prop := X.cell? ⟨R, 0, none⟩ = some (.string s) ∧ X.cell? ⟨R, 1, none⟩ = some (.int .i64 a)
theorem s2p_blw {X Y : World} {R : Nat} {s : ByteArray} {a : Int} (h : S2p X R s a) (hR : R < X.heap.size) (hb : Below X.heap.size X Y) : S2p Y R s a :=
  ⟨(hb.cell (p := ⟨R, 0, none⟩) hR).trans h.1, (hb.cell (p := ⟨R, 1, none⟩) hR).trans h.2⟩
theorem left_any (R : Nat) (s : ByteArray) (a : Int) (w : World) (hR : Blk w R (rdrA s a) 94) :
    Calls Tryd.prog 61 #[.pointer (some ⟨R, 0, none⟩)] w fun e w' => e = .returned (.bool (decide (a < s.size))) ∧ Below w.heap.size w w' ∧ w'.heap = w.heap := by
  have h0 := hR.cell 0
  have h1 := hR.cell 1
  simp only [rdrA, List.getElem?_toArray, List.getElem?_cons_zero, List.getElem?_cons_succ] at h0 h1
  clear hR
  go_enter Tryd.func61, Tryd.ntmps61
  go_wp2_with fail
  go_quiet (fail)
  go_wp2
  go_ret
  exact ⟨rfl, ⟨rfl, rfl, rfl, Nat.le_refl _, fun _ _ => rfl⟩, rfl⟩
set_option maxHeartbeats 1000000 in
theorem rnum_any (R : Nat) (s : ByteArray) (a k : Int) (w : World) (hR : Blk w R (rdrA s a) 94) (hs : s.size ≤ 140737488351232) (h0 : 0 ≤ a) (h1 : a ≤ s.size) :
    Calls Tryd.prog 55 #[.pointer (some ⟨R, 0, none⟩), .int .i64 k] w (RrPost R s (fun n u _ => u = .int .i64 n) w (rNum s k a)) := by
  have c0 := hR.cell 0
  have c1 := hR.cell 1
  have f1 := hR.frozen 1
  have hl := hR.lt
  simp only [rdrA, List.getElem?_toArray, List.getElem?_cons_zero, List.getElem?_cons_succ] at c0 c1
  have hs0 : S2p w R s a := ⟨c0, c1⟩
  have hsd : S2p w.drew R s a := hs0
  have HB := Lib.hid (show Blk w.drew R (rdrA s a) 94 from hR)
  have CF := Lib.hid (getfixed_all s a k w.drew hs (by omega) (by omega))
  unfold rNum
  obtain ⟨⟨n, tu, c⟩, hg⟩ : ∃ g, getF s a k = g := ⟨_, rfl⟩
  rw [hg] at CF ⊢
  simp only at CF ⊢
  clear hg hR c0 c1 h0 h1 hs
  by_cases hc : c = 0
  · subst hc
    rw [if_pos rfl]
    go_enter Tryd.func55, Tryd.ntmps55
    go_wp2_with fail
    go_region_held3 (fun X => S2p X R s a) (first | (with_reducible assumption) | exact hs0 | exact hsd) (first | (go_at_call 79; refine CF.out.mono ?_; rintro e w1 ⟨rfl, rfl⟩) | (fail))
    all_goals
      obtain ⟨y0, y1⟩ := hsd
      have k1 := HB.out.frozen 1
      go_wp2_with (first | (go_at_call 30; (with_reducible refine (must_true _).mono ?_); rintro e w2 ⟨rfl, rfl⟩) | (fail))
      go_ret
      exact ⟨_, rfl, rfl, HB.out.set 1 _, ((Mod.refl (· = R) w).drew).setCell (.inl rfl) _⟩
  · have e0 : (c == 0) = false := by rw [beq_eq_false_iff_ne]; exact hc
    rw [if_neg hc]
    go_enter Tryd.func55, Tryd.ntmps55
    go_wp2_with fail
    go_region_held3 (fun X => S2p X R s a) (first | (with_reducible assumption) | exact hs0 | exact hsd) (first | (go_at_call 79; refine CF.out.mono ?_; rintro e w1 ⟨rfl, rfl⟩) | (fail))
    all_goals
      go_wp2_with (first | (go_at_call 30; (with_reducible refine (must_false _).mono ?_); rintro e w2 ⟨rfl, rfl⟩) | (fail))
      exact ⟨rfl, rfl, (Mod.refl (· = R) w).drew⟩
-- text, data (gen_gw0.py)
set_option maxHeartbeats 1000000 in
theorem rtext_any (R : Nat) (s : ByteArray) (a : Int) (w : World) (hR : Blk w R (rdrA s a) 94) (hs : s.size ≤ 140737488351232) (h0 : 0 ≤ a) (h1 : a ≤ s.size) (hT : Tabs w.drew) :
    Calls Tryd.prog 57 #[.pointer (some ⟨R, 0, none⟩)] w (RrPost R s (fun t u _ => u = .string t) w (rText s a)) := by
  have c0 := hR.cell 0
  have c1 := hR.cell 1
  have hl := hR.lt
  simp only [rdrA, List.getElem?_toArray, List.getElem?_cons_zero, List.getElem?_cons_succ] at c0 c1
  have hs0 : S2p w R s a := ⟨c0, c1⟩
  have hsd : S2p w.drew R s a := hs0
  have hld : R < w.drew.heap.size := hl
  have HB := Lib.hid (show Blk w.drew R (rdrA s a) 94 from hR)
  have CF := Lib.hid (tget_any s a w.drew hs (by omega) (by omega) hT)
  unfold rText
  obtain ⟨⟨n, tu, c⟩, hg⟩ : ∃ g, tget s a = g := ⟨_, rfl⟩
  rw [hg] at CF ⊢
  simp only at CF ⊢
  clear hg hR c0 c1 h0 h1 hs
  by_cases hc : c = 0
  · subst hc
    rw [if_pos rfl]
    go_enter Tryd.func57, Tryd.ntmps57
    go_wp2_with fail
    go_region_held3 (fun X => S2p X R s a) (first | (with_reducible assumption) | exact hs0 | exact hsd | exact y) (first | (go_at_call 82; refine CF.out.mono ?_; rintro e w1 ⟨rfl, b1⟩; have y : S2p w1 R s a := s2p_blw hsd hld b1) | (fail))
    all_goals
      obtain ⟨y0, y1⟩ := y
      have HB1 := Lib.hid (HB.out.of_below b1)
      have k1 := HB1.out.frozen 1
      have hm := Lib.hid (((Mod.refl (· = R) w).drew).add b1)
      clear b1
      go_wp2_with (first | (go_at_call 30; (with_reducible refine (must_true _).mono ?_); rintro e w2 ⟨rfl, rfl⟩) | (fail))
      go_ret
      exact ⟨_, rfl, rfl, HB1.out.set 1 _, hm.out.setCell (.inl rfl) _⟩
  · have e0 : (c == 0) = false := by rw [beq_eq_false_iff_ne]; exact hc
    rw [if_neg hc]
    go_enter Tryd.func57, Tryd.ntmps57
    go_wp2_with fail
    go_region_held3 (fun X => S2p X R s a) (first | (with_reducible assumption) | exact hs0 | exact hsd | exact y) (first | (go_at_call 82; refine CF.out.mono ?_; rintro e w1 ⟨rfl, b1⟩; have y : S2p w1 R s a := s2p_blw hsd hld b1) | (fail))
    all_goals
      have hm := Lib.hid (((Mod.refl (· = R) w).drew).add b1)
      clear b1
      go_wp2_with (first | (go_at_call 30; (with_reducible refine (must_false _).mono ?_); rintro e w2 ⟨rfl, rfl⟩) | (fail))
      exact ⟨rfl, rfl, hm.out⟩
set_option maxHeartbeats 1000000 in
theorem rdata_any (R : Nat) (s : ByteArray) (a : Int) (w : World) (hR : Blk w R (rdrA s a) 94) (hs : s.size ≤ 140737488351232) (h0 : 0 ≤ a) (h1 : a ≤ s.size) :
    Calls Tryd.prog 78 #[.pointer (some ⟨R, 0, none⟩)] w (RrPost R s (fun t u _ => u = .string t) w (rData s a)) := by
  have c0 := hR.cell 0
  have c1 := hR.cell 1
  have hl := hR.lt
  simp only [rdrA, List.getElem?_toArray, List.getElem?_cons_zero, List.getElem?_cons_succ] at c0 c1
  have hs0 : S2p w R s a := ⟨c0, c1⟩
  have hsd : S2p w.drew R s a := hs0
  have hld : R < w.drew.heap.size := hl
  have HB := Lib.hid (show Blk w.drew R (rdrA s a) 94 from hR)
  have CF := Lib.hid (getdata_all s a w.drew hs (by omega) (by omega))
  unfold rData
  obtain ⟨⟨n, tu, c⟩, hg⟩ : ∃ g, getD s a = g := ⟨_, rfl⟩
  rw [hg] at CF ⊢
  simp only at CF ⊢
  clear hg hR c0 c1 h0 h1 hs
  by_cases hc : c = 0
  · subst hc
    rw [if_pos rfl]
    go_enter Tryd.func78, Tryd.ntmps78
    go_wp2_with fail
    go_region_held3 (fun X => S2p X R s a) (first | (with_reducible assumption) | exact hs0 | exact hsd) (first | (go_at_call 98; refine CF.out.mono ?_; rintro e w1 ⟨rfl, rfl⟩) | (fail))
    all_goals
      have b1 : Below w.drew.heap.size w.drew w.drew := Below.refl _ _
      obtain ⟨y0, y1⟩ := hsd
      have HB1 := Lib.hid (HB.out.of_below b1)
      have k1 := HB1.out.frozen 1
      have hm := Lib.hid (((Mod.refl (· = R) w).drew).add b1)
      clear b1
      go_wp2_with (first | (go_at_call 30; (with_reducible refine (must_true _).mono ?_); rintro e w2 ⟨rfl, rfl⟩) | (fail))
      go_ret
      exact ⟨_, rfl, rfl, HB1.out.set 1 _, hm.out.setCell (.inl rfl) _⟩
  · have e0 : (c == 0) = false := by rw [beq_eq_false_iff_ne]; exact hc
    rw [if_neg hc]
    go_enter Tryd.func78, Tryd.ntmps78
    go_wp2_with fail
    go_region_held3 (fun X => S2p X R s a) (first | (with_reducible assumption) | exact hs0 | exact hsd) (first | (go_at_call 98; refine CF.out.mono ?_; rintro e w1 ⟨rfl, rfl⟩) | (fail))
    all_goals
      have b1 : Below w.drew.heap.size w.drew w.drew := Below.refl _ _
      have hm := Lib.hid (((Mod.refl (· = R) w).drew).add b1)
      clear b1
      go_wp2_with (first | (go_at_call 30; (with_reducible refine (must_false _).mono ?_); rintro e w2 ⟨rfl, rfl⟩) | (fail))
      exact ⟨rfl, rfl, hm.out⟩
theorem rid_any (R : Nat) (s : ByteArray) (a : Int) (w : World) (hR : Blk w R (rdrA s a) 94) (hs : s.size ≤ 140737488351232) (h0 : 0 ≤ a) (h1 : a ≤ s.size) :
    Calls Tryd.prog 58 #[.pointer (some ⟨R, 0, none⟩)] w (RrPost R s (fun n u _ => u = .int .i64 n) w (rId s a)) := by
  have C := Lib.hid (rnum_any R s a 2 w hR hs h0 h1)
  unfold rId
  obtain ⟨r, hr⟩ : ∃ r, rNum s 2 a = r := ⟨_, rfl⟩
  rw [hr] at C ⊢
  clear hR hs h0 h1 hr
  cases r with
  | error c =>
    show Calls _ _ _ _ (RrPost R s (fun n u _ => u = Value.int .i64 n) w (Except.error c : RR Int))
    go_enter Tryd.func58, Tryd.ntmps58
    go_wp2_with fail
    (with_reducible refine C.out.mono ?_)
    rintro e w1 ⟨rfl, hm⟩
    exact ⟨rfl, rfl, hm⟩
  | ok v =>
    obtain ⟨n, b⟩ := v
    show Calls _ _ _ _ (RrPost R s (fun n u _ => u = Value.int .i64 n) w (if n = 0 then (Except.error 130 : RR Int) else .ok (n, b)))
    by_cases hn : n = 0
    · subst hn
      rw [if_pos rfl]
      go_enter Tryd.func58, Tryd.ntmps58
      go_wp2_with fail
      (with_reducible refine C.out.mono ?_)
      rintro e w1 ⟨u, rfl, rfl, hb, hm⟩
      have HM := Lib.hid hm
      clear hm
      go_wp2_with fail
      (with_reducible refine (fail_any _ _).mono ?_)
      rintro e w2 ⟨rfl, rfl⟩
      exact ⟨rfl, rfl, HM.out⟩
    · have hn2 : (n == 0) = false := by rw [beq_eq_false_iff_ne]; exact hn
      rw [if_neg hn]
      go_enter Tryd.func58, Tryd.ntmps58
      go_wp2_with fail
      (with_reducible refine C.out.mono ?_)
      rintro e w1 ⟨u, rfl, rfl, hb, hm⟩
      have HM := Lib.hid hm
      have HB := Lib.hid hb
      clear hm hb
      go_wp2
      go_ret
      exact ⟨_, rfl, rfl, HB.out, HM.out⟩
end Go.Proofs.YtlnanenfpapfkaaDoor

/- The walks of a reader's number and string (package prop). -/
namespace Go.Proofs.YtlnanenfpapfkaaDoor
set_option linter.unusedVariables false
open Go.RowKit Pl

abbrev S2r (X : World) (R : Nat) (s : ByteArray) (a : Int) : Prop := X.cell? ⟨R, 0, none⟩ = some (.string s) ∧ X.cell? ⟨R, 1, none⟩ = some (.int .i64 a)
def rdA (s : ByteArray) (a : Int) (bad : Bool) : Array Value := #[.string s, .int .i64 a, .bool bad]
theorem s2r_blw {X Y : World} {R : Nat} {s : ByteArray} {a : Int} (h : S2r X R s a) (hR : R < X.heap.size) (hb : Below X.heap.size X Y) : S2r Y R s a :=
  ⟨(hb.cell (p := ⟨R, 0, none⟩) hR).trans h.1, (hb.cell (p := ⟨R, 1, none⟩) hR).trans h.2⟩
set_option maxHeartbeats 4000000 in
theorem number_any (fn : Nat) (cp : Array Value) (R : Nat) (s : ByteArray) (a n tu c : Int) (w : World) (hR : Blk w R (rdA s a false) 145)
    (he : ∀ args w, (callFunc fn args).run Tryd.prog w = .ok (.enter fn args) w)
    (hf : ∀ W, Below w.heap.size w W → Calls Tryd.prog fn (#[.string s, .int .i64 a] ++ cp) W fun e w' => e = .returned (.tuple #[.int .i64 n, .int .i64 tu, .int .u8 c]) ∧ Below W.heap.size W w') :
    Calls Tryd.prog 99 #[.pointer (some ⟨R, 0, none⟩), .func (.func fn) #[] cp] w fun e w' => e = .returned (.int .i64 (if c = 0 then n else 0)) ∧ Blk w' R (rdA s (if c = 0 then tu else a) (c != 0)) 145 ∧ Mod (· = R) w w' := by
  have h0 := hR.cell 0
  have h1 := hR.cell 1
  have h2 := hR.cell 2
  have f1 := hR.frozen 1
  have f2 := hR.frozen 2
  have hl := hR.lt
  simp only [rdA, List.getElem?_toArray, List.getElem?_cons_zero, List.getElem?_cons_succ] at h0 h1 h2
  have hs0 : S2r w R s a := ⟨h0, h1⟩
  have HF := Lib.hid hf
  have HB := Lib.hid hR
  have bd : Below w.heap.size w w.drew := (Below.refl _ _).drew
  have hsd : S2r w.drew R s a := hs0
  have h2d : w.drew.cell? ⟨R, 2, none⟩ = some (.bool false) := h2
  have CF := Lib.hid (hf w.drew bd)
  clear hf hR h0 h1
  by_cases hc : c = 0
  · subst hc
    go_enter Tryd.func99, Tryd.ntmps99
    go_wp2_with fail
    go_region_held3 (fun X => S2r X R s a) (first | (with_reducible assumption) | exact hs0 | exact hsd | exact y1) (first | (go_at_fn fn; refine CF.out.mono ?_; rintro e w1 ⟨rfl, b1⟩; have y1 : S2r w1 R s a := s2r_blw hsd hl b1) | (fail))
    all_goals
      have hB1 := Lib.hid (HB.out.of_below (bd.trans b1))
      have hm1 := Lib.hid (Mod.of_below (S := (· = R)) (bd.trans b1))
      have g2 := (b1.cell (p := ⟨R, 2, none⟩) hl).trans h2d
      have k1 := hB1.out.frozen 1
      have k2 := hB1.out.frozen 2
      obtain ⟨y10, y11⟩ := y1
      clear b1
      go_wp2
      go_ret
      exact ⟨rfl, (hB1.out.set 2 _).set 1 _, (hm1.out.setCell (.inl rfl) _).setCell (.inl rfl) _⟩
  · have e0 : (c == 0) = false := by rw [beq_eq_false_iff_ne]; exact hc
    have e1 : (c != 0) = true := by rw [bne, e0]; rfl
    rw [if_neg hc, if_neg hc, e1]
    go_enter Tryd.func99, Tryd.ntmps99
    go_wp2_with fail
    go_region_held3 (fun X => S2r X R s a) (first | (with_reducible assumption) | exact hs0 | exact hsd | exact y1) (first | (go_at_fn fn; refine CF.out.mono ?_; rintro e w1 ⟨rfl, b1⟩; have y1 : S2r w1 R s a := s2r_blw hsd hl b1) | (fail))
    all_goals
      have hB1 := Lib.hid (HB.out.of_below (bd.trans b1))
      have hm1 := Lib.hid (Mod.of_below (S := (· = R)) (bd.trans b1))
      have g2 := (b1.cell (p := ⟨R, 2, none⟩) hl).trans h2d
      have k1 := hB1.out.frozen 1
      have k2 := hB1.out.frozen 2
      obtain ⟨y10, y11⟩ := y1
      clear b1
      go_wp2
      go_ret
      exact ⟨rfl, (hB1.out.set 2 _), hm1.out.setCell (.inl rfl) _⟩
set_option maxHeartbeats 4000000 in
theorem string_any (fn : Nat) (cp : Array Value) (R : Nat) (s : ByteArray) (u : ByteArray) (a tu c : Int) (w : World) (hR : Blk w R (rdA s a false) 145)
    (he : ∀ args w, (callFunc fn args).run Tryd.prog w = .ok (.enter fn args) w)
    (hf : ∀ W, Below w.heap.size w W → Calls Tryd.prog fn (#[.string s, .int .i64 a] ++ cp) W fun e w' => e = .returned (.tuple #[.string u, .int .i64 tu, .int .u8 c]) ∧ Below W.heap.size W w') :
    Calls Tryd.prog 110 #[.pointer (some ⟨R, 0, none⟩), .func (.func fn) #[] cp] w fun e w' => e = .returned (.string (if c = 0 then u else noS)) ∧ Blk w' R (rdA s (if c = 0 then tu else a) (c != 0)) 145 ∧ Mod (· = R) w w' := by
  have h0 := hR.cell 0
  have h1 := hR.cell 1
  have h2 := hR.cell 2
  have f1 := hR.frozen 1
  have f2 := hR.frozen 2
  have hl := hR.lt
  simp only [rdA, List.getElem?_toArray, List.getElem?_cons_zero, List.getElem?_cons_succ] at h0 h1 h2
  have hs0 : S2r w R s a := ⟨h0, h1⟩
  have HF := Lib.hid hf
  have HB := Lib.hid hR
  have bd : Below w.heap.size w w.drew := (Below.refl _ _).drew
  have hsd : S2r w.drew R s a := hs0
  have h2d : w.drew.cell? ⟨R, 2, none⟩ = some (.bool false) := h2
  have CF := Lib.hid (hf w.drew bd)
  clear hf hR h0 h1
  by_cases hc : c = 0
  · subst hc
    go_enter Tryd.func110, Tryd.ntmps110
    go_wp2_with fail
    go_region_held3 (fun X => S2r X R s a) (first | (with_reducible assumption) | exact hs0 | exact hsd | exact y1) (first | (go_at_fn fn; refine CF.out.mono ?_; rintro e w1 ⟨rfl, b1⟩; have y1 : S2r w1 R s a := s2r_blw hsd hl b1) | (fail))
    all_goals
      have hB1 := Lib.hid (HB.out.of_below (bd.trans b1))
      have hm1 := Lib.hid (Mod.of_below (S := (· = R)) (bd.trans b1))
      have g2 := (b1.cell (p := ⟨R, 2, none⟩) hl).trans h2d
      have k1 := hB1.out.frozen 1
      have k2 := hB1.out.frozen 2
      obtain ⟨y10, y11⟩ := y1
      clear b1
      go_wp2
      go_ret
      exact ⟨rfl, (hB1.out.set 2 _).set 1 _, (hm1.out.setCell (.inl rfl) _).setCell (.inl rfl) _⟩
  · have e0 : (c == 0) = false := by rw [beq_eq_false_iff_ne]; exact hc
    have e1 : (c != 0) = true := by rw [bne, e0]; rfl
    rw [if_neg hc, if_neg hc, e1]
    go_enter Tryd.func110, Tryd.ntmps110
    go_wp2_with fail
    go_region_held3 (fun X => S2r X R s a) (first | (with_reducible assumption) | exact hs0 | exact hsd | exact y1) (first | (go_at_fn fn; refine CF.out.mono ?_; rintro e w1 ⟨rfl, b1⟩; have y1 : S2r w1 R s a := s2r_blw hsd hl b1) | (fail))
    all_goals
      have hB1 := Lib.hid (HB.out.of_below (bd.trans b1))
      have hm1 := Lib.hid (Mod.of_below (S := (· = R)) (bd.trans b1))
      have g2 := (b1.cell (p := ⟨R, 2, none⟩) hl).trans h2d
      have k1 := hB1.out.frozen 1
      have k2 := hB1.out.frozen 2
      obtain ⟨y10, y11⟩ := y1
      clear b1
      go_wp2
      go_ret
      exact ⟨rfl, (hB1.out.set 2 _), hm1.out.setCell (.inl rfl) _⟩
set_option maxHeartbeats 4000000 in
theorem string_bad (fn : Nat) (cp : Array Value) (R : Nat) (s : ByteArray) (u : ByteArray) (a tu c : Int) (w : World) (hR : Blk w R (rdA s a true) 145)
    (he : ∀ args w, (callFunc fn args).run Tryd.prog w = .ok (.enter fn args) w)
    (hf : ∀ W, Below w.heap.size w W → Calls Tryd.prog fn (#[.string s, .int .i64 a] ++ cp) W fun e w' => e = .returned (.tuple #[.string u, .int .i64 tu, .int .u8 c]) ∧ Below W.heap.size W w') :
    Calls Tryd.prog 110 #[.pointer (some ⟨R, 0, none⟩), .func (.func fn) #[] cp] w fun e w' => e = .returned (.string noS) ∧ Blk w' R (rdA s a true) 145 ∧ Mod (· = R) w w' := by
  have h0 := hR.cell 0
  have h1 := hR.cell 1
  have h2 := hR.cell 2
  have f1 := hR.frozen 1
  have f2 := hR.frozen 2
  have hl := hR.lt
  simp only [rdA, List.getElem?_toArray, List.getElem?_cons_zero, List.getElem?_cons_succ] at h0 h1 h2
  have hs0 : S2r w R s a := ⟨h0, h1⟩
  have HB := Lib.hid hR
  have bd : Below w.heap.size w w.drew := (Below.refl _ _).drew
  have hsd : S2r w.drew R s a := hs0
  have h2d : w.drew.cell? ⟨R, 2, none⟩ = some (.bool true) := h2
  have CF := Lib.hid (hf w.drew bd)
  clear hf hR h0 h1
  go_enter Tryd.func110, Tryd.ntmps110
  go_wp2_with fail
  go_region_held3 (fun X => S2r X R s a) (first | (with_reducible assumption) | exact hs0 | exact hsd | exact y1) (first | (go_at_fn fn; refine CF.out.mono ?_; rintro e w1 ⟨rfl, b1⟩; have y1 : S2r w1 R s a := s2r_blw hsd hl b1) | (fail))
  all_goals
    have hB1 := Lib.hid (HB.out.of_below (bd.trans b1))
    have hm1 := Lib.hid (Mod.of_below (S := (· = R)) (bd.trans b1))
    have g2 := (b1.cell (p := ⟨R, 2, none⟩) hl).trans h2d
    have k1 := hB1.out.frozen 1
    have k2 := hB1.out.frozen 2
    obtain ⟨y10, y11⟩ := y1
    clear b1
    go_wp2
    go_ret
    exact ⟨rfl, (hB1.out.set 2 _), hm1.out.setCell (.inl rfl) _⟩
end Go.Proofs.YtlnanenfpapfkaaDoor

/- Plain facts: a number is read back from its bytes; bytes that are read are just its bytes. -/
namespace Go.Proofs.YtlnanenfpapfkaaDoor.Pl
open Go.PlainAid (bt bt_nonneg bt_le get_bt bt_end)

theorem bt_list (l : List UInt8) (k : Nat) (h : k < l.length) : bt ⟨l.toArray⟩ k = ((l[k]).toNat : Int) := by
  unfold bt
  have h' : k < (⟨l.toArray⟩ : ByteArray).size := by simpa [ByteArray.size] using h
  rw [dif_pos h']
  rfl
/-- The bytes of n, written at place a with r of them left, are read as n on top of what has been gathered. -/
theorem gi_vb (s : ByteArray) : ∀ (r f k a : Nat) (n m : Int), 1 ≤ r → r ≤ f → 0 ≤ n → n < 128 ^ r → (1 < r ∨ 0 < k → 128 ^ (r - 1) ≤ n) →
    (∀ j (h : j < (vb n r).length), bt s (a + j) = (((vb n r)[j]).toNat : Int)) → a + r ≤ s.size →
    gi s f k m a = (m + n * 128 ^ k, ((a + r : Nat) : Int), 0) := by
  intro r
  induction r with
  | zero => intro f k a n m h; omega
  | succ r ih =>
    intro f k a n m _ hf h0 h1 hmin hb ha
    obtain ⟨f, rfl⟩ : ∃ g, f = g + 1 := ⟨f - 1, by omega⟩
    cases r with
    | zero =>
      have hb0 := hb 0 (by simp [vb])
      simp only [vb, List.getElem_cons_zero, by8_toNat, Nat.add_zero] at hb0
      simp at h1
      rw [show n % 128 % 256 = n from by omega] at hb0
      rw [gi_last (by omega) (by omega) (by rw [hb0]; rintro ⟨h2, h3⟩; have := hmin (.inr h2); simp at this; omega), hb0]
      simp
    | succ r =>
      have hb0 := hb 0 (by simp [vb])
      simp only [vb, List.getElem_cons_zero, by8_toNat, Nat.add_zero] at hb0
      rw [show (n % 128 + 128) % 256 = n % 128 + 128 from by omega] at hb0
      rw [gi_more (by omega) (by omega), hb0]
      have hp : (128 : Int) ^ (r + 1 + 1) = 128 ^ (r + 1) * 128 := Int.pow_succ _ _
      have hp2 : (128 : Int) ^ (r + 1) = 128 ^ r * 128 := Int.pow_succ _ _
      have h128 : (128 : Int) ^ (r + 1) ≤ n := hmin (.inl (by omega))
      rw [ih f (k + 1) (a + 1) (n / 128) _ (by omega) (by omega) (by omega) (by rw [hp] at h1; omega) (fun _ => by simp only [Nat.add_sub_cancel]; rw [hp2] at h128; omega) ?_ (by omega)]
      · have hk : (128 : Int) ^ (k + 1) = 128 ^ k * 128 := Int.pow_succ _ _
        congr 1
        · rw [hk, show (n % 128 + 128) % 128 = n % 128 from by omega]
          have : n % 128 + 128 * (n / 128) = n := by omega
          calc m + n % 128 * 128 ^ k + n / 128 * (128 ^ k * 128) = m + (n % 128 + 128 * (n / 128)) * 128 ^ k := by rw [Int.add_mul]; simp only [Int.mul_comm, Int.mul_left_comm, Int.mul_assoc, Int.add_assoc]
            _ = m + n * 128 ^ k := by rw [this]
        · congr 1
          omega
      · intro j hj
        have := hb (j + 1) (by simp only [vb, List.length_cons]; omega)
        simp only [vb, List.getElem_cons_succ] at this
        rw [show a + 1 + j = a + (j + 1) from by omega]
        exact this

theorem by8_bt (s : ByteArray) {a : Nat} (h : a < s.size) : by8 (bt s a) = s[a] := by
  have e := get_bt s a h
  rw [← e]
  unfold by8
  have := (s[a]).toNat_lt
  apply UInt8.toNat.inj
  rw [UInt8.toNat_ofNat']
  omega

/-- What is read stands there in its bytes. -/
theorem gi_back (s : ByteArray) : ∀ (f k a : Nat) (m v e : Int), gi s f k m a = (v, e, 0) →
    ∃ (r : Nat) (n : Int), 1 ≤ r ∧ r ≤ f ∧ v = m + n * 128 ^ k ∧ 0 ≤ n ∧ n < 128 ^ r ∧ (1 < r ∨ 0 < k → 128 ^ (r - 1) ≤ n) ∧ e = ((a + r : Nat) : Int) ∧ a + r ≤ s.size ∧
      ∀ j (h : j < (vb n r).length) (h2 : a + j < s.size), (vb n r)[j] = s[a + j] := by
  intro f
  induction f with
  | zero => intro k a m v e h; rw [gi_zero] at h; injection h with _ h; injection h with _ h; exact absurd h (by decide)
  | succ f ih =>
    intro k a m v e h
    have hb0 := bt_nonneg s a
    have hb1 := bt_le s a
    by_cases he : s.size ≤ a
    · rw [gi_end he] at h; injection h with _ h; injection h with _ h; exact absurd h (by decide)
    · by_cases hl : bt s a < 128
      · by_cases hk : 0 < k ∧ bt s a = 0
        · rw [gi_long he hl hk] at h; injection h with _ h; injection h with _ h; exact absurd h (by decide)
        · rw [gi_last he hl hk] at h
          injection h with h1 h
          injection h with h2 _
          refine ⟨1, bt s a, by omega, by omega, h1.symm, hb0, by simpa using hl, fun hc => ?_, by omega, by omega, ?_⟩
          · simp
            rcases hc with hc | hc
            · omega
            · have : bt s a ≠ 0 := fun h0 => hk ⟨hc, h0⟩
              omega
          · intro j hj h2
            obtain rfl : j = 0 := by simp [vb] at hj; omega
            simp only [vb, List.getElem_cons_zero, Nat.add_zero]
            rw [show bt s a % 128 = bt s a from by omega]
            exact by8_bt s (by omega)
      · rw [gi_more he (by omega)] at h
        obtain ⟨r, n, hr1, hrf, hv, hn0, hn1, hmin, hee, hsz, hby⟩ := ih (k + 1) (a + 1) _ v e h
        obtain ⟨q, rfl⟩ : ∃ q, r = q + 1 := ⟨r - 1, by omega⟩
        have hq : (128 : Int) ^ q ≤ n := hmin (.inr (by omega))
        have hp : (128 : Int) ^ (q + 1) = 128 ^ q * 128 := Int.pow_succ _ _
        have hp2 : (128 : Int) ^ (q + 1 + 1) = 128 ^ (q + 1) * 128 := Int.pow_succ _ _
        have hk : (128 : Int) ^ (k + 1) = 128 ^ k * 128 := Int.pow_succ _ _
        have hdiv : (bt s a % 128 + 128 * n) / 128 = n := by omega
        have hmod : (bt s a % 128 + 128 * n) % 128 = bt s a % 128 := by omega
        refine ⟨q + 1 + 1, bt s a % 128 + 128 * n, by omega, by omega, ?_, by omega, by rw [hp2]; omega, fun _ => by simp only [Nat.add_sub_cancel]; rw [hp]; omega, by omega, by omega, ?_⟩
        · rw [hv, hk, Int.add_mul]
          simp only [Int.mul_comm, Int.mul_assoc, Int.add_assoc]
        · intro j hj h2
          cases j with
          | zero =>
            simp only [vb, List.getElem_cons_zero, Nat.add_zero]
            rw [hmod, show bt s a % 128 + 128 = bt s a from by omega]
            exact by8_bt s (by omega)
          | succ j =>
            simp only [vb, List.getElem_cons_succ]
            have hl2 : j < (vb n (q + 1)).length := by rw [vb_length]; rw [vb_length] at hj; omega
            have h3 := hby j hl2 (by omega)
            have e1 : (vb ((bt s a % 128 + 128 * n) / 128) (q + 1)) = vb n (q + 1) := by rw [hdiv]
            have e2 : ∀ (l l' : List UInt8) (hl : j < l.length) (hll : l = l'), l[j] = l'[j]'(hll ▸ hl) := by intro l l' hl hll; subst hll; rfl
            rw [e2 _ _ _ e1, h3]
            congr 1
            omega

/-- A number is read back from its bytes. -/
theorem get_enc {n : Int} (h0 : 0 ≤ n) (h1 : n ≤ 268435455) : getV ⟨(enc n).toArray⟩ 0 = (n, sz n, 0) := by
  have hp := sz_pos h0 h1
  have hl : (⟨(enc n).toArray⟩ : ByteArray).size = (sz n).toNat := by simp [ByteArray.size, enc_length]
  obtain ⟨r, hr⟩ : ∃ r : Nat, sz n = r + 1 := ⟨(sz n - 1).toNat, by omega⟩
  have hr0 := hr
  have hlt : n < 128 ^ (r + 1) ∧ (0 < r → 128 ^ r ≤ n) := by
    obtain rfl | rfl | rfl | rfl : r = 0 ∨ r = 1 ∨ r = 2 ∨ r = 3 := by omega
    all_goals
      unfold sz at hr
      rw [if_neg (by omega)] at hr
      refine ⟨?_, ?_⟩
      all_goals simp
      all_goals (repeat' split at hr)
      all_goals omega
  have he : enc n = vb n (r + 1) := by unfold enc; rw [hr]; rfl
  have := gi_vb ⟨(enc n).toArray⟩ (r + 1) 4 0 0 n 0 (by omega) (by omega) h0 hlt.1 (fun hc => by simp only [Nat.add_sub_cancel]; exact hlt.2 (by omega)) (fun j hj => by
    rw [Nat.zero_add]
    have hj2 : j < (enc n).length := by rw [he]; exact hj
    rw [bt_list _ _ hj2]
    congr 2
    have e2 : ∀ (l l' : List UInt8) (hl : j < l.length) (hll : l = l'), l[j] = l'[j]'(hll ▸ hl) := by intro l l' hl hll; subst hll; rfl
    exact e2 _ _ _ he) (by rw [hl, hr]; omega)
  rw [show (0 : Int) = ((0 : Nat) : Int) from rfl, getV_ok (by omega), this, hr]
  simp

/-- What is read stands there in its bytes. -/
theorem enc_get {s : ByteArray} {v e : Int} (h : getV s 0 = (v, e, 0)) : 0 ≤ v ∧ v ≤ 268435455 ∧ ∃ k : Nat, e = k ∧ k ≤ s.size ∧ s.extract 0 k = ⟨(enc v).toArray⟩ := by
  rw [show (0 : Int) = ((0 : Nat) : Int) from rfl, getV_ok (by omega)] at h
  obtain ⟨r, n, hr1, hr4, hv, hn0, hn1, hmin, he, hsz, hby⟩ := gi_back s 4 0 0 0 v e h
  obtain rfl : v = n := by rw [hv]; simp
  have hmax : v ≤ 268435455 := by
    obtain rfl | rfl | rfl | rfl : r = 1 ∨ r = 2 ∨ r = 3 ∨ r = 4 := by omega
    all_goals (simp at hn1; omega)
  have hz : sz v = r := by
    have := sz_exact (n := v) (k := r - 1) hn0 (by rw [show r - 1 + 1 = r from by omega]; exact hn1) (by by_cases h1 : r = 1; exact .inl (by omega); exact .inr (hmin (.inl (by omega)))) (by omega)
    omega
  refine ⟨hn0, hmax, r, by omega, by omega, ?_⟩
  have hen : enc v = vb v r := by unfold enc; rw [hz]; rfl
  rw [hen]
  apply ByteArray.ext
  apply Array.ext
  · simp [vb_length]; omega
  · intro i h1 h2
    have h3 : i < (vb v r).length := by simpa using h2
    have h4 : i < r := by rw [vb_length] at h3; exact h3
    have := hby i h3 (by omega)
    simp only [Nat.zero_add] at this
    simp [this]
    rfl
end Go.Proofs.YtlnanenfpapfkaaDoor.Pl

/- Where a read ends: plain. -/
namespace Go.Proofs.YtlnanenfpapfkaaDoor
set_option linter.unusedVariables false
open Go.RowKit Pl

theorem getV_to {s : ByteArray} {a n tu : Int} (h : getV s a = (n, tu, 0)) : ∃ i j : Nat, a = i ∧ tu = j ∧ i < j ∧ j ≤ s.size ∧ j ≤ i + 4 ∧ 0 ≤ n ∧ n ≤ 268435455 := by
  by_cases hb : a < 0 ∨ (s.size : Int) < a
  · rw [getV_bad hb] at h; injection h with _ h; injection h with _ h; exact absurd h (by decide)
  · obtain ⟨i, rfl⟩ := Int.eq_ofNat_of_zero_le (show 0 ≤ a by omega)
    rw [getV_ok (by omega)] at h
    obtain ⟨r, v, hr1, hr4, hv, hn0, hn1, hmin, he, hsz, hby⟩ := gi_back s 4 0 i 0 n tu h
    obtain rfl : n = v := by rw [hv]; simp
    refine ⟨i, i + r, rfl, he, by omega, hsz, by omega, hn0, ?_⟩
    obtain rfl | rfl | rfl | rfl : r = 1 ∨ r = 2 ∨ r = 3 ∨ r = 4 := by omega
    all_goals (simp at hn1; omega)
theorem getF_to {s : ByteArray} {a d n tu : Int} (h : getF s a d = (n, tu, 0)) : ∃ i k : Nat, a = i ∧ d = k ∧ tu = (i + k : Nat) ∧ (k = 1 ∨ k = 2 ∨ k = 4) ∧ i + k ≤ s.size ∧ n = gv s i k := by
  by_cases hb : ¬ Wide d ∨ a < 0 ∨ (s.size : Int) < a
  · rw [getF_bad hb] at h; injection h with _ h; injection h with _ h; exact absurd h (by decide)
  · by_cases h2 : (s.size : Int) - a < d
    · rw [getF_none hb h2] at h; injection h with _ h; injection h with _ h; exact absurd h (by decide)
    · have hw : Wide d := by
        by_cases c : Wide d
        · exact c
        · exact absurd (.inl c) hb
      have ha : 0 ≤ a := by
        by_cases c : a < 0
        · exact absurd (.inr (.inl c)) hb
        · omega
      obtain ⟨i, rfl⟩ := Int.eq_ofNat_of_zero_le ha
      have hd : 0 ≤ d := by unfold Wide at hw; omega
      obtain ⟨k, rfl⟩ := Int.eq_ofNat_of_zero_le hd
      rw [getF_ok hw (by omega)] at h
      injection h with h1 h
      injection h with h3 _
      exact ⟨i, k, rfl, rfl, by omega, by unfold Wide at hw; omega, by omega, h1.symm⟩
theorem getD_to {s t : ByteArray} {a tu : Int} (h : getD s a = (t, tu, 0)) : ∃ i m : Nat, a = i ∧ tu = (i + 2 + m : Nat) ∧ i + 2 + m ≤ s.size ∧ m < 65536 ∧ gv s i 2 = m ∧ t = s.extract (i + 2) (i + 2 + m) := by
  rcases getF_two s a with e | e | ⟨i, m, rfl, e, hm, hi⟩
  · rw [getD_code e (by decide)] at h; injection h with _ h; injection h with _ h; exact absurd h (by decide)
  · rw [getD_code e (by decide)] at h; injection h with _ h; injection h with _ h; exact absurd h (by decide)
  · by_cases hn : (s.size : Int) - (i + 2 : Nat) < m
    · rw [getD_none e hn] at h; injection h with _ h; injection h with _ h; exact absurd h (by decide)
    · rw [getD_ok e (by omega)] at h
      injection h with h1 h
      injection h with h2 _
      obtain ⟨i', k, hi', hk, _, _, _, hg⟩ := getF_to e
      obtain rfl : i = i' := by omega
      obtain rfl : k = 2 := by omega
      exact ⟨i, m, rfl, by omega, by omega, hm, hg.symm, h1.symm⟩
theorem tget_getD {s t : ByteArray} {a tu : Int} (h : tget s a = (t, tu, 0)) : getD s a = (t, tu, 0) ∧ (flt t t.size 0).2 = false := by
  obtain ⟨⟨u, f, c⟩, hg⟩ : ∃ g, getD s a = g := ⟨_, rfl⟩
  by_cases hc : c = 0
  · subst hc
    by_cases hb : (flt u u.size 0).2 = true
    · rw [tget_bad hg hb] at h; injection h with _ h; injection h with _ h; exact absurd h (by decide)
    · have hb' : (flt u u.size 0).2 = false := by simpa using hb
      rw [tget_ok hg hb'] at h
      injection h with h1 h
      injection h with h2 _
      subst h1 h2
      exact ⟨hg, hb'⟩
  · rw [tget_code hg hc] at h; injection h with _ h; injection h with _ h; exact absurd h hc
theorem tget_to {s t : ByteArray} {a tu : Int} (h : tget s a = (t, tu, 0)) (hs : s.size ≤ 140737488351232) : -9223372036854775808 ≤ tu ∧ tu ≤ 9223372036854775807 := by
  obtain ⟨i, m, _, e, h1, _⟩ := getD_to (tget_getD h).1
  omega
theorem rdv_to {s : ByteArray} {id a tu : Int} {p : Pp} (h : rdv s id a = some (p, tu)) : ∃ i j : Nat, a = i ∧ tu = j ∧ i < j ∧ j ≤ s.size ∧ p.id = id := by
  unfold rdv at h
  split at h
  · split at h
    · rename_i hc
      obtain ⟨⟨n, f, c⟩, hg⟩ : ∃ g, getV s a = g := ⟨_, rfl⟩
      rw [hg] at h hc
      obtain rfl : c = 0 := hc
      injection h with h; injection h with h1 h2
      obtain ⟨i, j, e1, e2, e3, e4, _⟩ := getV_to hg
      exact ⟨i, j, e1, h2.symm.trans e2, e3, e4, by rw [← h1]⟩
    · cases h
  · split at h
    · split at h
      · rename_i hc
        obtain ⟨⟨n, f, c⟩, hg⟩ : ∃ g, getD s a = g := ⟨_, rfl⟩
        rw [hg] at h hc
        obtain rfl : c = 0 := hc
        injection h with h; injection h with h1 h2
        obtain ⟨i, m, e1, e2, e3, _⟩ := getD_to hg
        exact ⟨i, i + 2 + m, e1, h2.symm.trans e2, by omega, e3, by rw [← h1]⟩
      · cases h
    · split at h
      · split at h
        · rename_i hc
          obtain ⟨⟨n, f, c⟩, hg⟩ : ∃ g, tget s a = g := ⟨_, rfl⟩
          rw [hg] at h hc
          obtain rfl : c = 0 := hc
          injection h with h; injection h with h1 h2
          obtain ⟨i, m, e1, e2, e3, _⟩ := getD_to (tget_getD hg).1
          exact ⟨i, i + 2 + m, e1, h2.symm.trans e2, by omega, e3, by rw [← h1]⟩
        · cases h
      · split at h
        · split at h
          · split at h
            · rename_i hc hc2
              obtain ⟨⟨n, f, c⟩, hg⟩ : ∃ g, tget s a = g := ⟨_, rfl⟩
              rw [hg] at h hc hc2
              obtain rfl : c = 0 := hc
              obtain ⟨⟨n2, f2, c2⟩, hg2⟩ : ∃ g, tget s f = g := ⟨_, rfl⟩
              have hg2' : tget s (n, f, (0 : Int)).2.1 = (n2, f2, c2) := hg2
              rw [hg2'] at h hc2
              obtain rfl : c2 = 0 := hc2
              injection h with h; injection h with h1 h2
              obtain ⟨i, m, e1, e2, e3, _⟩ := getD_to (tget_getD hg).1
              obtain ⟨i', m', e1', e2', e3', _⟩ := getD_to (tget_getD hg2).1
              exact ⟨i, i' + 2 + m', e1, h2.symm.trans e2', by omega, e3', by rw [← h1]⟩
            · cases h
          · cases h
        · split at h
          · rename_i hc
            obtain ⟨⟨n, f, c⟩, hg⟩ : ∃ g, getF s a (wid (kindOf id)) = g := ⟨_, rfl⟩
            rw [hg] at h hc
            obtain rfl : c = 0 := hc
            injection h with h; injection h with h1 h2
            obtain ⟨i, k, e1, e2, e3, e4, e5, _⟩ := getF_to hg
            exact ⟨i, i + k, e1, h2.symm.trans e3, by omega, e5, by rw [← h1]⟩
          · cases h
end Go.Proofs.YtlnanenfpapfkaaDoor

/- The walk of a reader's value (package prop): one property's value is read. -/
namespace Go.Proofs.YtlnanenfpapfkaaDoor
set_option linter.unusedVariables false
open Go.RowKit Pl

theorem to_below {P : Program} {f : Nat} {args : Array Value} {w : World} {v : Ending} (h : Calls P f args w fun e w' => e = v ∧ w = w') : Calls P f args w fun e w' => e = v ∧ Below w.heap.size w w' :=
  h.mono fun _ _ h => ⟨h.1, h.2 ▸ Below.refl _ _⟩
/-- What a reader has behind a value, and the property. -/
def RdPost (w w' : World) (R Q : Nat) (s : ByteArray) (id : Int) : Option (Pp × Int) → Prop
  | some (p, tu) => Blk w' R (rdA s tu false) 145 ∧ Blk w' Q (ppA p) 99 ∧ Mod (fun k => k = R ∨ k = Q) w w'
  | none => (∃ a, Blk w' R (rdA s a true) 145) ∧ (∃ p, Blk w' Q (ppA p) 99) ∧ Mod (fun k => k = R ∨ k = Q) w w'
theorem S4b.of_blk {X : World} {B : Nat} {p : Pp} {T : TypeId} (h : Blk X B (ppA p) T) : S4b X B p := ⟨h.cell 0, h.cell 1, h.cell 2, h.cell 3⟩
theorem closure_any (s : ByteArray) (a k : Int) (B : Nat) (w : World) (hs : s.size ≤ 140737488351232) (h0 : -9223372036854775808 ≤ a) (h1 : a ≤ 9223372036854775807) (hB : w.cell? ⟨B, 0, none⟩ = some (.int .i64 k)) :
    Calls Tryd.prog 111 #[.string s, .int .i64 a, .pointer (some ⟨B, 0, none⟩)] w fun e w' => e = .returned (.tuple #[.int .i64 (getF s a (wid k)).1, .int .i64 (getF s a (wid k)).2.1, .int .u8 (getF s a (wid k)).2.2]) ∧ Below w.heap.size w w' := by
  have C := Lib.hid (getfixed_all s a (wid k) w hs h0 h1)
  clear h0 h1 hs
  go_enter Tryd.func111, Tryd.ntmps111
  go_wp2_with fail
  refine (width_any k _).mono ?_
  rintro e w1 ⟨rfl, rfl⟩
  go_wp2_with fail
  refine C.out.mono ?_
  rintro e w1 ⟨rfl, rfl⟩
  go_wp2
  go_ret3
  exact ⟨rfl, Below.refl _ _⟩

set_option maxRecDepth 100000 in
set_option maxHeartbeats 4000000 in
theorem prvalue_any (R Q : Nat) (s : ByteArray) (a id : Int) (w : World) (hs : s.size ≤ 140737488351232) (h0 : -9223372036854775808 ≤ a) (h1 : a ≤ 9223372036854775807) (hR : Blk w R (rdA s a false) 145) (hQ : Blk w Q (ppA ⟨id, 0, noS, noS⟩) 99) (hRQ : R ≠ Q) (hNR : NoTab R) (hNQ : NoTab Q) (hT : Tabs w) :
    Calls Tryd.prog 100 #[.pointer (some ⟨R, 0, none⟩), .pointer (some ⟨Q, 0, none⟩)] w fun e w' => e = .returned (.tuple #[]) ∧ RdPost w w' R Q s id (rdv s id a) := by
  obtain ⟨k, hk⟩ : ∃ k, kindOf id = k := ⟨_, rfl⟩
  have CK : ∀ X : World, Calls Tryd.prog 87 #[.int .i64 id] X fun e w' => e = .returned (.int .i64 k) ∧ X = w' := fun X => by rw [← hk]; exact kind_any id X
  have hq0 := hQ.cell 0
  simp only [ppA, List.getElem?_toArray, List.getElem?_cons_zero] at hq0
  have b0 : Below w.heap.size w (w.alloc (.cells #[.int .i64 k] 132)) := (Below.refl _ _).alloc (Nat.le_refl _) _
  have hK : Blk (w.alloc (.cells #[.int .i64 k] 132)) w.heap.size #[.int .i64 k] 132 := Blk.new _ _ _
  have hk0 := hK.cell 0
  simp only [List.getElem?_toArray, List.getElem?_cons_zero] at hk0
  obtain ⟨W, hW⟩ : ∃ W, w.alloc (.cells #[.int .i64 k] 132) = W := ⟨_, rfl⟩
  rw [hW] at b0 hK hk0
  have HR := Lib.hid (hR.of_below b0)
  have HQ := Lib.hid (hQ.of_below b0)
  have HK := Lib.hid hK
  have B0 := Lib.hid b0
  have HT := Lib.hid (hT.below b0)
  have CK := Lib.hid CK
  have HKD := Lib.hid hk
  have HW := Lib.hid hW
  have HS := Lib.hid hs
  have HNR := Lib.hid hNR
  have HNQ := Lib.hid hNQ
  have HA := Lib.hid (And.intro h0 h1)
  clear hR hQ hT hNR hNQ hK b0 hk hs h0 h1 hW
  by_cases h4 : k = 4
  · subst h4
    obtain ⟨⟨n, tu, c⟩, hg⟩ : ∃ g, getV s a = g := ⟨_, rfl⟩
    have CF := number_any 29 #[] R s a n tu c W HR.out (enters_of Tryd.func29 (by kernel_rfl) rfl) (fun X hb => by
      have h := to_below (get_all s a X HS.out HA.out.1 HA.out.2)
      rw [hg] at h
      exact h)
    have HG := Lib.hid hg
    by_cases hc : c = 0
    · subst hc
      rw [if_pos rfl, if_pos rfl, show ((0 : Int) != 0) = false from rfl] at CF
      have CF := Lib.hid CF
      have HV : Hid (rdv s id a = some (⟨id, n, noS, noS⟩, tu)) := Lib.hid (by unfold rdv; simp [HKD.out, HG.out])
      clear hg
      go_enter Tryd.func100, Tryd.ntmps100
      go_wp2_with fail
      refine (CK.out w).mono ?_
      rintro e w1 ⟨rfl, rfl⟩
      go_wp2_with fail
      rw [HW.out]
      refine CF.out.mono ?_
      rintro e w2 ⟨rfl, r2, m2⟩
      have Q2 := Lib.hid (HQ.out.mod m2 (fun e => hRQ e.symm))
      have q2 := Q2.out.cell 1
      simp only [ppA, List.getElem?_toArray, List.getElem?_cons_zero, List.getElem?_cons_succ] at q2
      have k2 := Q2.out.frozen 1
      have R2 := Lib.hid r2
      have M2 := Lib.hid ((Mod.of_below (S := fun k => k = R ∨ k = Q) B0.out).then m2 (fun _ _ h => .inl h))
      clear r2 m2
      go_wp2
      go_end0
      exact ⟨rfl, by rw [HV.out]; exact ⟨R2.out.other hRQ _ _, Q2.out.set _ _, M2.out.setCell (.inl (.inr rfl)) _⟩⟩
    · have e1 : (c != 0) = true := by rw [bne, beq_eq_false_iff_ne.2 hc]; rfl
      rw [if_neg hc, if_neg hc, e1] at CF
      have CF := Lib.hid CF
      have HV : Hid (rdv s id a = none) := Lib.hid (by unfold rdv; simp [HKD.out, HG.out, hc])
      clear hg e1
      go_enter Tryd.func100, Tryd.ntmps100
      go_wp2_with fail
      refine (CK.out w).mono ?_
      rintro e w1 ⟨rfl, rfl⟩
      go_wp2_with fail
      rw [HW.out]
      refine CF.out.mono ?_
      rintro e w2 ⟨rfl, r2, m2⟩
      have Q2 := Lib.hid (HQ.out.mod m2 (fun e => hRQ e.symm))
      have q2 := Q2.out.cell 1
      simp only [ppA, List.getElem?_toArray, List.getElem?_cons_zero, List.getElem?_cons_succ] at q2
      have k2 := Q2.out.frozen 1
      have R2 := Lib.hid r2
      have M2 := Lib.hid ((Mod.of_below (S := fun k => k = R ∨ k = Q) B0.out).then m2 (fun _ _ h => .inl h))
      clear r2 m2
      go_wp2
      go_end0
      exact ⟨rfl, by rw [HV.out]; exact ⟨⟨_, R2.out.other hRQ _ _⟩, ⟨⟨id, 0, noS, noS⟩, Q2.out.set _ _⟩, M2.out.setCell (.inl (.inr rfl)) _⟩⟩
  · by_cases h5 : k = 5
    · subst h5
      obtain ⟨⟨n, tu, c⟩, hg⟩ : ∃ g, getD s a = g := ⟨_, rfl⟩
      have CF := string_any 98 #[] R s n a tu c W HR.out (enters_of Tryd.func98 (by kernel_rfl) rfl) (fun X hb => by
        have h := to_below (getdata_all s a X HS.out HA.out.1 HA.out.2)
        rw [hg] at h
        exact h)
      have HG := Lib.hid hg
      by_cases hc : c = 0
      · subst hc
        rw [if_pos rfl, if_pos rfl, show ((0 : Int) != 0) = false from rfl] at CF
        have CF := Lib.hid CF
        have HV : Hid (rdv s id a = some (⟨id, 0, n, noS⟩, tu)) := Lib.hid (by unfold rdv; simp [HKD.out, HG.out])
        clear hg
        go_enter Tryd.func100, Tryd.ntmps100
        go_wp2_with fail
        refine (CK.out w).mono ?_
        rintro e w1 ⟨rfl, rfl⟩
        go_wp2_with fail
        rw [HW.out]
        refine CF.out.mono ?_
        rintro e w2 ⟨rfl, r2, m2⟩
        have Q2 := Lib.hid (HQ.out.mod m2 (fun e => hRQ e.symm))
        have q2 := Q2.out.cell 2
        simp only [ppA, List.getElem?_toArray, List.getElem?_cons_zero, List.getElem?_cons_succ] at q2
        have k2 := Q2.out.frozen 2
        have R2 := Lib.hid r2
        have M2 := Lib.hid ((Mod.of_below (S := fun k => k = R ∨ k = Q) B0.out).then m2 (fun _ _ h => .inl h))
        clear r2 m2
        go_wp2
        go_end0
        exact ⟨rfl, by rw [HV.out]; exact ⟨R2.out.other hRQ _ _, Q2.out.set _ _, M2.out.setCell (.inl (.inr rfl)) _⟩⟩
      · have e1 : (c != 0) = true := by rw [bne, beq_eq_false_iff_ne.2 hc]; rfl
        rw [if_neg hc, if_neg hc, e1] at CF
        have CF := Lib.hid CF
        have HV : Hid (rdv s id a = none) := Lib.hid (by unfold rdv; simp [HKD.out, HG.out, hc])
        clear hg e1
        go_enter Tryd.func100, Tryd.ntmps100
        go_wp2_with fail
        refine (CK.out w).mono ?_
        rintro e w1 ⟨rfl, rfl⟩
        go_wp2_with fail
        rw [HW.out]
        refine CF.out.mono ?_
        rintro e w2 ⟨rfl, r2, m2⟩
        have Q2 := Lib.hid (HQ.out.mod m2 (fun e => hRQ e.symm))
        have q2 := Q2.out.cell 2
        simp only [ppA, List.getElem?_toArray, List.getElem?_cons_zero, List.getElem?_cons_succ] at q2
        have k2 := Q2.out.frozen 2
        have R2 := Lib.hid r2
        have M2 := Lib.hid ((Mod.of_below (S := fun k => k = R ∨ k = Q) B0.out).then m2 (fun _ _ h => .inl h))
        clear r2 m2
        go_wp2
        go_end0
        exact ⟨rfl, by rw [HV.out]; exact ⟨⟨_, R2.out.other hRQ _ _⟩, ⟨⟨id, 0, noS, noS⟩, Q2.out.set _ _⟩, M2.out.setCell (.inl (.inr rfl)) _⟩⟩
    · by_cases h6 : k = 6
      · subst h6
        obtain ⟨⟨n, tu, c⟩, hg⟩ : ∃ g, tget s a = g := ⟨_, rfl⟩
        have CF := string_any 82 #[] R s n a tu c W HR.out (enters_of Tryd.func82 (by kernel_rfl) rfl) (fun X hb => by
          have h := (tget_any s a X HS.out HA.out.1 HA.out.2 (HT.out.below hb))
          rw [hg] at h
          exact h)
        have HG := Lib.hid hg
        by_cases hc : c = 0
        · subst hc
          rw [if_pos rfl, if_pos rfl, show ((0 : Int) != 0) = false from rfl] at CF
          have CF := Lib.hid CF
          have HV : Hid (rdv s id a = some (⟨id, 0, n, noS⟩, tu)) := Lib.hid (by unfold rdv; simp [HKD.out, HG.out])
          clear hg
          go_enter Tryd.func100, Tryd.ntmps100
          go_wp2_with fail
          refine (CK.out w).mono ?_
          rintro e w1 ⟨rfl, rfl⟩
          go_wp2_with fail
          rw [HW.out]
          refine CF.out.mono ?_
          rintro e w2 ⟨rfl, r2, m2⟩
          have Q2 := Lib.hid (HQ.out.mod m2 (fun e => hRQ e.symm))
          have q2 := Q2.out.cell 2
          simp only [ppA, List.getElem?_toArray, List.getElem?_cons_zero, List.getElem?_cons_succ] at q2
          have k2 := Q2.out.frozen 2
          have R2 := Lib.hid r2
          have M2 := Lib.hid ((Mod.of_below (S := fun k => k = R ∨ k = Q) B0.out).then m2 (fun _ _ h => .inl h))
          clear r2 m2
          go_wp2
          go_end0
          exact ⟨rfl, by rw [HV.out]; exact ⟨R2.out.other hRQ _ _, Q2.out.set _ _, M2.out.setCell (.inl (.inr rfl)) _⟩⟩
        · have e1 : (c != 0) = true := by rw [bne, beq_eq_false_iff_ne.2 hc]; rfl
          rw [if_neg hc, if_neg hc, e1] at CF
          have CF := Lib.hid CF
          have HV : Hid (rdv s id a = none) := Lib.hid (by unfold rdv; simp [HKD.out, HG.out, hc])
          clear hg e1
          go_enter Tryd.func100, Tryd.ntmps100
          go_wp2_with fail
          refine (CK.out w).mono ?_
          rintro e w1 ⟨rfl, rfl⟩
          go_wp2_with fail
          rw [HW.out]
          refine CF.out.mono ?_
          rintro e w2 ⟨rfl, r2, m2⟩
          have Q2 := Lib.hid (HQ.out.mod m2 (fun e => hRQ e.symm))
          have q2 := Q2.out.cell 2
          simp only [ppA, List.getElem?_toArray, List.getElem?_cons_zero, List.getElem?_cons_succ] at q2
          have k2 := Q2.out.frozen 2
          have R2 := Lib.hid r2
          have M2 := Lib.hid ((Mod.of_below (S := fun k => k = R ∨ k = Q) B0.out).then m2 (fun _ _ h => .inl h))
          clear r2 m2
          go_wp2
          go_end0
          exact ⟨rfl, by rw [HV.out]; exact ⟨⟨_, R2.out.other hRQ _ _⟩, ⟨⟨id, 0, noS, noS⟩, Q2.out.set _ _⟩, M2.out.setCell (.inl (.inr rfl)) _⟩⟩
      · by_cases h7 : k = 7
        · subst h7
          obtain ⟨⟨n, tu, c⟩, hg⟩ : ∃ g, tget s a = g := ⟨_, rfl⟩
          have CF := string_any 82 #[] R s n a tu c W HR.out (enters_of Tryd.func82 (by kernel_rfl) rfl) (fun X hb => by
            have h := tget_any s a X HS.out HA.out.1 HA.out.2 (HT.out.below hb)
            rw [hg] at h
            exact h)
          have HG := Lib.hid hg
          by_cases hc : c = 0
          · subst hc
            have HTO := Lib.hid (tget_to HG.out HS.out)
            obtain ⟨⟨n2, to2, c2⟩, hg2⟩ : ∃ g, tget s tu = g := ⟨_, rfl⟩
            have HG2 := Lib.hid hg2
            rw [if_pos rfl, if_pos rfl, show ((0 : Int) != 0) = false from rfl] at CF
            have CF := Lib.hid CF
            clear hg hg2
            by_cases hc2 : c2 = 0
            · subst hc2
              have HV : Hid (rdv s id a = some (⟨id, 0, n, n2⟩, to2)) := Lib.hid (by unfold rdv; simp [HKD.out, HG.out, HG2.out])
              go_enter Tryd.func100, Tryd.ntmps100
              go_wp2_with fail
              refine (CK.out w).mono ?_
              rintro e w1 ⟨rfl, rfl⟩
              go_wp2_with fail
              rw [HW.out]
              refine CF.out.mono ?_
              rintro e w2 ⟨rfl, r2, m2⟩
              have Q2 := Lib.hid (HQ.out.mod m2 (fun e => hRQ e.symm))
              have q2 := Q2.out.cell 2
              simp only [ppA, List.getElem?_toArray, List.getElem?_cons_zero, List.getElem?_cons_succ] at q2
              have k2 := Q2.out.frozen 2
              have R2 := Lib.hid r2
              have M2 := Lib.hid ((Mod.of_below (S := fun k => k = R ∨ k = Q) B0.out).then m2 (fun _ _ h => .inl h))
              have HT2 := Lib.hid (tabs_mod HT.out m2 HNR.out)
              have R3 := Lib.hid (R2.out.other (R' := Q) hRQ 2 (.string n))
              have Q3 : Hid (Blk _ Q (ppA ⟨id, 0, n, noS⟩) 99) := Lib.hid (Q2.out.set 2 (.string n))
              have M3 := Lib.hid (M2.out.setCell (p := ⟨Q, 2, none⟩) (.inl (.inr rfl)) (.string n))
              have HT3 := Lib.hid (tabs_set HT2.out (p := ⟨Q, 2, none⟩) HNQ.out (.string n))
              have CG := string_any 82 #[] R s n2 tu to2 0 _ R3.out (enters_of Tryd.func82 (by kernel_rfl) rfl) (fun X hb => by
                have h := (tget_any s tu X HS.out HTO.out.1 HTO.out.2 ((HT3.out).below hb))
                rw [HG2.out] at h
                exact h)
              rw [if_pos rfl, if_pos rfl, show ((0 : Int) != 0) = false from rfl] at CG
              have CG := Lib.hid CG
              clear r2 m2
              go_wp2_with fail
              refine CG.out.mono ?_
              rintro e w4 ⟨rfl, r4, m4⟩
              have Q4 := Lib.hid (Q3.out.mod m4 (fun e => hRQ e.symm))
              have q4 := Q4.out.cell 3
              simp only [ppA, List.getElem?_toArray, List.getElem?_cons_zero, List.getElem?_cons_succ] at q4
              have k4 := Q4.out.frozen 3
              have R4 := Lib.hid r4
              have M4 := Lib.hid (M3.out.then m4 (fun _ _ h => .inl h))
              clear r4 m4
              go_wp2
              go_end0
              exact ⟨rfl, by rw [HV.out]; exact ⟨R4.out.other hRQ _ _, Q4.out.set _ _, M4.out.setCell (.inl (.inr rfl)) _⟩⟩
            · have HV : Hid (rdv s id a = none) := Lib.hid (by unfold rdv; simp [HKD.out, HG.out, HG2.out, hc2])
              go_enter Tryd.func100, Tryd.ntmps100
              go_wp2_with fail
              refine (CK.out w).mono ?_
              rintro e w1 ⟨rfl, rfl⟩
              go_wp2_with fail
              rw [HW.out]
              refine CF.out.mono ?_
              rintro e w2 ⟨rfl, r2, m2⟩
              have Q2 := Lib.hid (HQ.out.mod m2 (fun e => hRQ e.symm))
              have q2 := Q2.out.cell 2
              simp only [ppA, List.getElem?_toArray, List.getElem?_cons_zero, List.getElem?_cons_succ] at q2
              have k2 := Q2.out.frozen 2
              have R2 := Lib.hid r2
              have M2 := Lib.hid ((Mod.of_below (S := fun k => k = R ∨ k = Q) B0.out).then m2 (fun _ _ h => .inl h))
              have HT2 := Lib.hid (tabs_mod HT.out m2 HNR.out)
              have R3 := Lib.hid (R2.out.other (R' := Q) hRQ 2 (.string n))
              have Q3 : Hid (Blk _ Q (ppA ⟨id, 0, n, noS⟩) 99) := Lib.hid (Q2.out.set 2 (.string n))
              have M3 := Lib.hid (M2.out.setCell (p := ⟨Q, 2, none⟩) (.inl (.inr rfl)) (.string n))
              have HT3 := Lib.hid (tabs_set HT2.out (p := ⟨Q, 2, none⟩) HNQ.out (.string n))
              have CG := string_any 82 #[] R s n2 tu to2 c2 _ R3.out (enters_of Tryd.func82 (by kernel_rfl) rfl) (fun X hb => by
                have h := (tget_any s tu X HS.out HTO.out.1 HTO.out.2 ((HT3.out).below hb))
                rw [HG2.out] at h
                exact h)
              rw [if_neg hc2, if_neg hc2, show (c2 != 0) = true from by rw [bne, beq_eq_false_iff_ne.2 hc2]; rfl] at CG
              have CG := Lib.hid CG
              clear r2 m2
              go_wp2_with fail
              refine CG.out.mono ?_
              rintro e w4 ⟨rfl, r4, m4⟩
              have Q4 := Lib.hid (Q3.out.mod m4 (fun e => hRQ e.symm))
              have q4 := Q4.out.cell 3
              simp only [ppA, List.getElem?_toArray, List.getElem?_cons_zero, List.getElem?_cons_succ] at q4
              have k4 := Q4.out.frozen 3
              have R4 := Lib.hid r4
              have M4 := Lib.hid (M3.out.then m4 (fun _ _ h => .inl h))
              clear r4 m4
              go_wp2
              go_end0
              exact ⟨rfl, by rw [HV.out]; exact ⟨⟨_, R4.out.other hRQ _ _⟩, ⟨⟨id, 0, n, noS⟩, Q4.out.set _ _⟩, M4.out.setCell (.inl (.inr rfl)) _⟩⟩
          · have e1 : (c != 0) = true := by rw [bne, beq_eq_false_iff_ne.2 hc]; rfl
            rw [if_neg hc, if_neg hc, e1] at CF
            have CF := Lib.hid CF
            have HV : Hid (rdv s id a = none) := Lib.hid (by unfold rdv; simp [HKD.out, HG.out, hc])
            clear hg e1
            go_enter Tryd.func100, Tryd.ntmps100
            go_wp2_with fail
            refine (CK.out w).mono ?_
            rintro e w1 ⟨rfl, rfl⟩
            go_wp2_with fail
            rw [HW.out]
            refine CF.out.mono ?_
            rintro e w2 ⟨rfl, r2, m2⟩
            have Q2 := Lib.hid (HQ.out.mod m2 (fun e => hRQ e.symm))
            have q2 := Q2.out.cell 2
            simp only [ppA, List.getElem?_toArray, List.getElem?_cons_zero, List.getElem?_cons_succ] at q2
            have k2 := Q2.out.frozen 2
            have R2 := Lib.hid r2
            have M2 := Lib.hid ((Mod.of_below (S := fun k => k = R ∨ k = Q) B0.out).then m2 (fun _ _ h => .inl h))
            have HT2 := Lib.hid (tabs_mod HT.out m2 HNR.out)
            have R3 := Lib.hid (R2.out.other (R' := Q) hRQ 2 (.string noS))
            have Q3 : Hid (Blk _ Q (ppA ⟨id, 0, noS, noS⟩) 99) := Lib.hid (Q2.out.set 2 (.string noS))
            have M3 := Lib.hid (M2.out.setCell (p := ⟨Q, 2, none⟩) (.inl (.inr rfl)) (.string noS))
            have HT3 := Lib.hid (tabs_set HT2.out (p := ⟨Q, 2, none⟩) HNQ.out (.string noS))
            have CG := string_bad 82 #[] R s (tget s a).1 a (tget s a).2.1 (tget s a).2.2 _ R3.out (enters_of Tryd.func82 (by kernel_rfl) rfl) (fun X hb => tget_any s a X HS.out HA.out.1 HA.out.2 ((HT3.out).below hb))

            have CG := Lib.hid CG
            clear r2 m2
            go_wp2_with fail
            refine CG.out.mono ?_
            rintro e w4 ⟨rfl, r4, m4⟩
            have Q4 := Lib.hid (Q3.out.mod m4 (fun e => hRQ e.symm))
            have q4 := Q4.out.cell 3
            simp only [ppA, List.getElem?_toArray, List.getElem?_cons_zero, List.getElem?_cons_succ] at q4
            have k4 := Q4.out.frozen 3
            have R4 := Lib.hid r4
            have M4 := Lib.hid (M3.out.then m4 (fun _ _ h => .inl h))
            clear r4 m4
            go_wp2
            go_end0
            exact ⟨rfl, by rw [HV.out]; exact ⟨⟨_, R4.out.other hRQ _ _⟩, ⟨⟨id, 0, noS, noS⟩, Q4.out.set _ _⟩, M4.out.setCell (.inl (.inr rfl)) _⟩⟩
        · obtain ⟨⟨n, tu, c⟩, hg⟩ : ∃ g, getF s a (wid k) = g := ⟨_, rfl⟩
          have CF := number_any 111 #[.pointer (some ⟨w.heap.size, 0, none⟩)] R s a n tu c W HR.out (enters_of Tryd.func111 (by kernel_rfl) rfl) (fun X hb => by
            have h := closure_any s a k w.heap.size X HS.out HA.out.1 HA.out.2 ((HK.out.of_below hb).cell 0)
            rw [hg] at h
            exact h)
          have HG := Lib.hid hg
          have HK' : Hid (¬ k = 4 ∧ ¬ k = 5 ∧ ¬ k = 6 ∧ ¬ k = 7) := Lib.hid ⟨h4, h5, h6, h7⟩
          have e4 : (k == 4) = false := beq_eq_false_iff_ne.2 h4
          have e5 : (k == 5) = false := beq_eq_false_iff_ne.2 h5
          have e6 : (k == 6) = false := beq_eq_false_iff_ne.2 h6
          have e7 : (k == 7) = false := beq_eq_false_iff_ne.2 h7
          clear h4 h5 h6 h7
          by_cases hc : c = 0
          · subst hc
            rw [if_pos rfl, if_pos rfl, show ((0 : Int) != 0) = false from rfl] at CF
            have CF := Lib.hid CF
            have HV : Hid (rdv s id a = some (⟨id, n, noS, noS⟩, tu)) := Lib.hid (by obtain ⟨a4, a5, a6, a7⟩ := HK'.out; unfold rdv; rw [HKD.out, if_neg a4, if_neg a5, if_neg a6, if_neg a7, HG.out]; rfl)
            clear hg
            go_enter Tryd.func100, Tryd.ntmps100
            go_wp2_with fail
            refine (CK.out w).mono ?_
            rintro e w1 ⟨rfl, rfl⟩
            go_wp2_with fail
            rw [HW.out]
            refine CF.out.mono ?_
            rintro e w2 ⟨rfl, r2, m2⟩
            have Q2 := Lib.hid (HQ.out.mod m2 (fun e => hRQ e.symm))
            have q2 := Q2.out.cell 1
            simp only [ppA, List.getElem?_toArray, List.getElem?_cons_zero, List.getElem?_cons_succ] at q2
            have k2 := Q2.out.frozen 1
            have R2 := Lib.hid r2
            have M2 := Lib.hid ((Mod.of_below (S := fun k => k = R ∨ k = Q) B0.out).then m2 (fun _ _ h => .inl h))
            clear r2 m2
            go_wp2
            go_end0
            exact ⟨rfl, by rw [HV.out]; exact ⟨R2.out.other hRQ _ _, Q2.out.set _ _, M2.out.setCell (.inl (.inr rfl)) _⟩⟩
          · have e1 : (c != 0) = true := by rw [bne, beq_eq_false_iff_ne.2 hc]; rfl
            rw [if_neg hc, if_neg hc, e1] at CF
            have CF := Lib.hid CF
            have HV : Hid (rdv s id a = none) := Lib.hid (by obtain ⟨a4, a5, a6, a7⟩ := HK'.out; unfold rdv; rw [HKD.out, if_neg a4, if_neg a5, if_neg a6, if_neg a7, HG.out]; exact if_neg hc)
            clear hg e1
            go_enter Tryd.func100, Tryd.ntmps100
            go_wp2_with fail
            refine (CK.out w).mono ?_
            rintro e w1 ⟨rfl, rfl⟩
            go_wp2_with fail
            rw [HW.out]
            refine CF.out.mono ?_
            rintro e w2 ⟨rfl, r2, m2⟩
            have Q2 := Lib.hid (HQ.out.mod m2 (fun e => hRQ e.symm))
            have q2 := Q2.out.cell 1
            simp only [ppA, List.getElem?_toArray, List.getElem?_cons_zero, List.getElem?_cons_succ] at q2
            have k2 := Q2.out.frozen 1
            have R2 := Lib.hid r2
            have M2 := Lib.hid ((Mod.of_below (S := fun k => k = R ∨ k = Q) B0.out).then m2 (fun _ _ h => .inl h))
            clear r2 m2
            go_wp2
            go_end0
            exact ⟨rfl, by rw [HV.out]; exact ⟨⟨_, R2.out.other hRQ _ _⟩, ⟨⟨id, 0, noS, noS⟩, Q2.out.set _ _⟩, M2.out.setCell (.inl (.inr rfl)) _⟩⟩
end Go.Proofs.YtlnanenfpapfkaaDoor
