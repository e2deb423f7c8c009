/- The walks of a reader's number and string (package prop). -/
import Derived.Test.YtifbkfkieppacaaDoorMod
import Derived.Test.YtifbkfkieppacaaDoorGetP
import Derived.Test.YtifbkfkieppacaaDoorPutV
import Derived.Deep.RegionHeld3
namespace Go.Proofs.YtifbkfkieppacaaDoor
set_option linter.unusedVariables false
open Go.RowKit Pl

abbrev S2r (X : World) (R : Nat) (s : ByteArray) (a : Int) : Prop := X.cell? ⟨R, 0, none⟩ = some (.string s) ∧ X.cell? ⟨R, 1, none⟩ = some (.int .i64 a)
def rdA (s : ByteArray) (a : Int) (bad : Bool) : Array Value := #[.string s, .int .i64 a, .bool bad]
theorem s2r_blw {X Y : World} {R : Nat} {s : ByteArray} {a : Int} (h : S2r X R s a) (hR : R < X.heap.size) (hb : Below X.heap.size X Y) : S2r Y R s a :=
  ⟨(hb.cell (p := ⟨R, 0, none⟩) hR).trans h.1, (hb.cell (p := ⟨R, 1, none⟩) hR).trans h.2⟩
set_option maxHeartbeats 4000000 in
theorem number_any (fn : Nat) (cp : Array Value) (R : Nat) (s : ByteArray) (a n to c : Int) (w : World) (hR : Blk w R (rdA s a false) 69)
    (he : ∀ args w, (callFunc fn args).run Tryd.prog w = .ok (.enter fn args) w)
    (hf : ∀ W, Below w.heap.size w W → Calls Tryd.prog fn (#[.string s, .int .i64 a] ++ cp) W fun e w' => e = .returned (.tuple #[.int .i64 n, .int .i64 to, .int .u8 c]) ∧ Below W.heap.size W w') :
    Calls Tryd.prog 26 #[.pointer (some ⟨R, 0, none⟩), .func (.func fn) #[] cp] w fun e w' => e = .returned (.int .i64 (if c = 0 then n else 0)) ∧ Blk w' R (rdA s (if c = 0 then to else a) (c != 0)) 69 ∧ Mod (· = R) w w' := by
  have h0 := hR.cell 0
  have h1 := hR.cell 1
  have h2 := hR.cell 2
  have f1 := hR.frozen 1
  have f2 := hR.frozen 2
  have hl := hR.lt
  simp only [rdA, List.getElem?_toArray, List.getElem?_cons_zero, List.getElem?_cons_succ] at h0 h1 h2
  have hs0 : S2r w R s a := ⟨h0, h1⟩
  have HF := Lib.hid hf
  have HB := Lib.hid hR
  have bd : Below w.heap.size w w.drew := (Below.refl _ _).drew
  have hsd : S2r w.drew R s a := hs0
  have h2d : w.drew.cell? ⟨R, 2, none⟩ = some (.bool false) := h2
  have CF := Lib.hid (hf w.drew bd)
  clear hf hR h0 h1
  by_cases hc : c = 0
  · subst hc
    go_enter Tryd.func26, Tryd.ntmps26
    go_wp2_with fail
    go_region_held3 (fun X => S2r X R s a) (first | (with_reducible assumption) | exact hs0 | exact hsd | exact y1) (first | (go_at_fn fn; refine CF.out.mono ?_; rintro e w1 ⟨rfl, b1⟩; have y1 : S2r w1 R s a := s2r_blw hsd hl b1) | (fail))
    all_goals
      have hB1 := Lib.hid (HB.out.of_below (bd.trans b1))
      have hm1 := Lib.hid (Mod.of_below (S := (· = R)) (bd.trans b1))
      have g2 := (b1.cell (p := ⟨R, 2, none⟩) hl).trans h2d
      have k1 := hB1.out.frozen 1
      have k2 := hB1.out.frozen 2
      obtain ⟨y10, y11⟩ := y1
      clear b1
      go_wp2
      go_ret
      exact ⟨rfl, (hB1.out.set 2 _).set 1 _, (hm1.out.setCell (.inl rfl) _).setCell (.inl rfl) _⟩
  · have e0 : (c == 0) = false := by rw [beq_eq_false_iff_ne]; exact hc
    have e1 : (c != 0) = true := by rw [bne, e0]; rfl
    rw [if_neg hc, if_neg hc, e1]
    go_enter Tryd.func26, Tryd.ntmps26
    go_wp2_with fail
    go_region_held3 (fun X => S2r X R s a) (first | (with_reducible assumption) | exact hs0 | exact hsd | exact y1) (first | (go_at_fn fn; refine CF.out.mono ?_; rintro e w1 ⟨rfl, b1⟩; have y1 : S2r w1 R s a := s2r_blw hsd hl b1) | (fail))
    all_goals
      have hB1 := Lib.hid (HB.out.of_below (bd.trans b1))
      have hm1 := Lib.hid (Mod.of_below (S := (· = R)) (bd.trans b1))
      have g2 := (b1.cell (p := ⟨R, 2, none⟩) hl).trans h2d
      have k1 := hB1.out.frozen 1
      have k2 := hB1.out.frozen 2
      obtain ⟨y10, y11⟩ := y1
      clear b1
      go_wp2
      go_ret
      exact ⟨rfl, (hB1.out.set 2 _), hm1.out.setCell (.inl rfl) _⟩
set_option maxHeartbeats 4000000 in
theorem string_any (fn : Nat) (cp : Array Value) (R : Nat) (s : ByteArray) (u : ByteArray) (a to c : Int) (w : World) (hR : Blk w R (rdA s a false) 69)
    (he : ∀ args w, (callFunc fn args).run Tryd.prog w = .ok (.enter fn args) w)
    (hf : ∀ W, Below w.heap.size w W → Calls Tryd.prog fn (#[.string s, .int .i64 a] ++ cp) W fun e w' => e = .returned (.tuple #[.string u, .int .i64 to, .int .u8 c]) ∧ Below W.heap.size W w') :
    Calls Tryd.prog 43 #[.pointer (some ⟨R, 0, none⟩), .func (.func fn) #[] cp] w fun e w' => e = .returned (.string (if c = 0 then u else noS)) ∧ Blk w' R (rdA s (if c = 0 then to else a) (c != 0)) 69 ∧ Mod (· = R) w w' := by
  have h0 := hR.cell 0
  have h1 := hR.cell 1
  have h2 := hR.cell 2
  have f1 := hR.frozen 1
  have f2 := hR.frozen 2
  have hl := hR.lt
  simp only [rdA, List.getElem?_toArray, List.getElem?_cons_zero, List.getElem?_cons_succ] at h0 h1 h2
  have hs0 : S2r w R s a := ⟨h0, h1⟩
  have HF := Lib.hid hf
  have HB := Lib.hid hR
  have bd : Below w.heap.size w w.drew := (Below.refl _ _).drew
  have hsd : S2r w.drew R s a := hs0
  have h2d : w.drew.cell? ⟨R, 2, none⟩ = some (.bool false) := h2
  have CF := Lib.hid (hf w.drew bd)
  clear hf hR h0 h1
  by_cases hc : c = 0
  · subst hc
    go_enter Tryd.func43, Tryd.ntmps43
    go_wp2_with fail
    go_region_held3 (fun X => S2r X R s a) (first | (with_reducible assumption) | exact hs0 | exact hsd | exact y1) (first | (go_at_fn fn; refine CF.out.mono ?_; rintro e w1 ⟨rfl, b1⟩; have y1 : S2r w1 R s a := s2r_blw hsd hl b1) | (fail))
    all_goals
      have hB1 := Lib.hid (HB.out.of_below (bd.trans b1))
      have hm1 := Lib.hid (Mod.of_below (S := (· = R)) (bd.trans b1))
      have g2 := (b1.cell (p := ⟨R, 2, none⟩) hl).trans h2d
      have k1 := hB1.out.frozen 1
      have k2 := hB1.out.frozen 2
      obtain ⟨y10, y11⟩ := y1
      clear b1
      go_wp2
      go_ret
      exact ⟨rfl, (hB1.out.set 2 _).set 1 _, (hm1.out.setCell (.inl rfl) _).setCell (.inl rfl) _⟩
  · have e0 : (c == 0) = false := by rw [beq_eq_false_iff_ne]; exact hc
    have e1 : (c != 0) = true := by rw [bne, e0]; rfl
    rw [if_neg hc, if_neg hc, e1]
    go_enter Tryd.func43, Tryd.ntmps43
    go_wp2_with fail
    go_region_held3 (fun X => S2r X R s a) (first | (with_reducible assumption) | exact hs0 | exact hsd | exact y1) (first | (go_at_fn fn; refine CF.out.mono ?_; rintro e w1 ⟨rfl, b1⟩; have y1 : S2r w1 R s a := s2r_blw hsd hl b1) | (fail))
    all_goals
      have hB1 := Lib.hid (HB.out.of_below (bd.trans b1))
      have hm1 := Lib.hid (Mod.of_below (S := (· = R)) (bd.trans b1))
      have g2 := (b1.cell (p := ⟨R, 2, none⟩) hl).trans h2d
      have k1 := hB1.out.frozen 1
      have k2 := hB1.out.frozen 2
      obtain ⟨y10, y11⟩ := y1
      clear b1
      go_wp2
      go_ret
      exact ⟨rfl, (hB1.out.set 2 _), hm1.out.setCell (.inl rfl) _⟩
set_option maxHeartbeats 4000000 in
theorem string_bad (fn : Nat) (cp : Array Value) (R : Nat) (s : ByteArray) (u : ByteArray) (a to c : Int) (w : World) (hR : Blk w R (rdA s a true) 69)
    (he : ∀ args w, (callFunc fn args).run Tryd.prog w = .ok (.enter fn args) w)
    (hf : ∀ W, Below w.heap.size w W → Calls Tryd.prog fn (#[.string s, .int .i64 a] ++ cp) W fun e w' => e = .returned (.tuple #[.string u, .int .i64 to, .int .u8 c]) ∧ Below W.heap.size W w') :
    Calls Tryd.prog 43 #[.pointer (some ⟨R, 0, none⟩), .func (.func fn) #[] cp] w fun e w' => e = .returned (.string noS) ∧ Blk w' R (rdA s a true) 69 ∧ Mod (· = R) w w' := by
  have h0 := hR.cell 0
  have h1 := hR.cell 1
  have h2 := hR.cell 2
  have f1 := hR.frozen 1
  have f2 := hR.frozen 2
  have hl := hR.lt
  simp only [rdA, List.getElem?_toArray, List.getElem?_cons_zero, List.getElem?_cons_succ] at h0 h1 h2
  have hs0 : S2r w R s a := ⟨h0, h1⟩
  have HB := Lib.hid hR
  have bd : Below w.heap.size w w.drew := (Below.refl _ _).drew
  have hsd : S2r w.drew R s a := hs0
  have h2d : w.drew.cell? ⟨R, 2, none⟩ = some (.bool true) := h2
  have CF := Lib.hid (hf w.drew bd)
  clear hf hR h0 h1
  go_enter Tryd.func43, Tryd.ntmps43
  go_wp2_with fail
  go_region_held3 (fun X => S2r X R s a) (first | (with_reducible assumption) | exact hs0 | exact hsd | exact y1) (first | (go_at_fn fn; refine CF.out.mono ?_; rintro e w1 ⟨rfl, b1⟩; have y1 : S2r w1 R s a := s2r_blw hsd hl b1) | (fail))
  all_goals
    have hB1 := Lib.hid (HB.out.of_below (bd.trans b1))
    have hm1 := Lib.hid (Mod.of_below (S := (· = R)) (bd.trans b1))
    have g2 := (b1.cell (p := ⟨R, 2, none⟩) hl).trans h2d
    have k1 := hB1.out.frozen 1
    have k2 := hB1.out.frozen 2
    obtain ⟨y10, y11⟩ := y1
    clear b1
    go_wp2
    go_ret
    exact ⟨rfl, (hB1.out.set 2 _), hm1.out.setCell (.inl rfl) _⟩
end Go.Proofs.YtifbkfkieppacaaDoor
