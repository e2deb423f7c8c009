/- ChaseWants: the law's walk. -/
import Derived.Test.YtenoaonlngndpaaDoorH2P10
namespace Go.Proofs.YtenoaonlngndpaaDoor
set_option linter.unusedVariables false
set_option linter.unusedSimpArgs false
open Go.RowKit Go.Maps Pl Go.Shelf

theorem AvRow.below {w w' : World} {v : Value} {l : List Ad} (h : AvRow w v l) (m : Below w.heap.size w w') : AvRow w' v l := by
  obtain ⟨A, cap, e, h1, h2, h3⟩ := h
  refine ⟨A, cap, e, h1, h2, fun hp => ?_⟩
  obtain ⟨b, o, e1, hb, hc⟩ := h3 hp
  refine ⟨b, o, e1, Nat.lt_of_lt_of_le hb m.size, fun i a hi => ?_⟩
  obtain ⟨vf, vl, c0, c1, c2, c3, hs, hl⟩ := hc i a hi
  have u := fun j => m.cell (p := ⟨b, j, none⟩) hb
  exact ⟨vf, vl, (u _).trans c0, (u _).trans c1, (u _).trans c2, (u _).trans c3, hs.below m, hl.below m⟩
/-- A pair of numbers in a box. -/
abbrev S2b (X : World) (b : Nat) (x y : Int) : Prop := X.cell? ⟨b, 0, none⟩ = some (.int .i64 x) ∧ X.cell? ⟨b, 1, none⟩ = some (.int .i64 y)
theorem s2b_below {X X' : World} {b : Nat} {x y : Int} (h : S2b X b x y) (m : Below X.heap.size X X') (hb : b < X.heap.size) : S2b X' b x y := ⟨(m.cell (p := ⟨b, 0, none⟩) hb).trans h.1, (m.cell (p := ⟨b, 1, none⟩) hb).trans h.2⟩
/-- A world behind the base, and what a box holds there. -/
structure Kq (w1 : World) (b : Nat) (x y : Int) (X : World) : Prop where
  bl : Below w1.heap.size w1 X
  s : S2b X b x y
theorem Kq.step {w1 X X' : World} {b : Nat} {x y : Int} (h : Kq w1 b x y X) (m : Below X.heap.size X X') (hb : b < w1.heap.size) : Kq w1 b x y X' := ⟨h.bl.trans (m.mono h.bl.size), s2b_below h.s m (Nat.lt_of_lt_of_le hb h.bl.size)⟩
set_option maxHeartbeats 8000000 in
set_option maxRecDepth 100000 in
theorem chaseWants_walk (v0 : Value) (l : List Ad) (name : ByteArray) (hn : name.size ≤ 140737488351232) (v2 : Value) (z : Int × Int) (w : World) (h0 : AvRow w v0 l ∧ ∀ a ∈ l, AvFits a)
    (h2 : v2 = .agg #[.int .i64 z.1, .int .i64 z.2] ∧ -9223372036854775808 ≤ z.1 ∧ z.1 ≤ 9223372036854775807 ∧ -9223372036854775808 ≤ z.2 ∧ z.2 ≤ 9223372036854775807) (hT : Tabs w) :
    Calls Tryd.prog 4 #[v0, .string name, v2] w fun e w' => e = .returned (.bool true) ∧ Below w.heap.size w w' := by
  obtain ⟨at', h⟩ := z
  obtain ⟨rfl, z1, z2, z3, z4⟩ := h2
  simp only at z1 z2 z3 z4 ⊢
  have bY := (Below.refl w.heap.size w).alloc (Nat.le_refl _) (.cells #[.int .i64 at', .int .i64 h] 23)
  have kY := blk_at w #[.int .i64 at', .int .i64 h] 23 rfl
  obtain ⟨Y, hY⟩ : ∃ Y, w.alloc (.cells #[.int .i64 at', .int .i64 h] 23) = Y := ⟨_, rfl⟩
  rw [hY] at bY kY
  have HE := Lib.hid hY
  have HKY := Lib.hid kY
  have HBY := Lib.hid bY
  have HTY := Lib.hid (hT.below bY)
  have CB := Lib.hid (base_any l v0 Y (h0.1.below bY) h0.2 HTY.out)
  clear hT h0 bY kY hY
  go_enter Tryd.func4, Tryd.ntmps4
  go_wp2_with (first | (rw [HE.out]) | fail)
  refine CB.out.mono ?_
  rintro e w1 ⟨bp, mb, n, dp, E, rfl, hk, hn12, hd, hr, hE, hb⟩
  have HK := Lib.hid hk
  have HB := Lib.hid (HBY.out.trans (hb.mono HBY.out.size))
  have HT1 := Lib.hid (HTY.out.below hb)
  have HD := Lib.hid hd
  have HR := Lib.hid hr
  obtain ⟨K, hKK⟩ : ∃ K, baseK l = K := ⟨_, rfl⟩
  rw [hKK] at HK HR
  have hbx : w.heap.size < w1.heap.size := Nat.lt_of_lt_of_le HKY.out.lt hb.size
  have k1 := HKY.out.of_below hb
  have K1 : Hid (Kq w1 w.heap.size at' h w1) := Lib.hid ⟨Below.refl _ _, k1.cell 0, k1.cell 1⟩
  have K1d : Hid (Kq w1 w.heap.size at' h w1.drew) := Lib.hid (K1.out.step (Below.refl _ _).drew hbx)
  obtain ⟨s00, s01⟩ := K1.out.s
  obtain ⟨t00, t01⟩ := K1d.out.s
  have s0 := K1.out.s
  have sd := K1d.out.s
  obtain ⟨y, hy⟩ : ∃ y, wants K at' name h = y := ⟨_, rfl⟩
  have CL : ∀ X, Hid (Kq w1 w.heap.size at' h X) → Calls Tryd.prog 10 #[] X fun e w' => e = .returned (.bool true) ∧ Below X.heap.size X w' := fun X hx => lwakes_any X (HT1.out.below hx.out.bl)
  have CW : ∀ X, Hid (Kq w1 w.heap.size at' h X) → Calls Tryd.prog 11 #[.pointer (some ⟨bp, 0, none⟩), .int .i64 at', .string name, .int .i64 h] X fun e w' => e = .returned (.bool y) ∧ Below X.heap.size X w' := fun X hx => by
    rw [← hy]; exact wants_any Y.heap.size bp mb n K at' h name X (HK.out.below hx.out.bl) z1 z2 z3 z4 (by omega) (HT1.out.below hx.out.bl)
  have CD : ∀ X, Hid (Kq w1 w.heap.size at' h X) → Calls Tryd.prog 12 #[.pointer (some ⟨dp, 0, none⟩), .int .i64 at', .string name, .int .i64 h] X fun e w' => e = .returned (.bool y) ∧ Below X.heap.size X w' := fun X hx => by
    rw [← hy]; exact dwants_any Y.heap.size dp E K at' h name X (HD.out.below hx.out.bl) HR.out HK.out.ok (by omega) z1 z2 z3 z4 hn
  have CL := Lib.hid CL
  have CW := Lib.hid CW
  have CD := Lib.hid CD
  have hyy : (y == y) = true := by simp
  clear hk hd hr hE hb k1 CB hy hKK
  go_wp2_with fail
  go_region_held3 (fun X => S2b X w.heap.size at' h) (first | (with_reducible assumption)) (first
    | (go_at_call 10; (with_reducible refine (CL.out _ (by with_reducible assumption)).mono ?_); rintro e xa ⟨rfl, ya⟩; have ra : Hid (Kq w1 w.heap.size at' h xa) := Lib.hid ((show Hid (Kq w1 w.heap.size at' h _) by with_reducible assumption).out.step ya hbx); have sa := ra.out.s)
    | (go_at_call 11; (with_reducible refine (CW.out _ (by with_reducible assumption)).mono ?_); rintro e xb ⟨rfl, yb⟩; have rb : Hid (Kq w1 w.heap.size at' h xb) := Lib.hid ((show Hid (Kq w1 w.heap.size at' h _) by with_reducible assumption).out.step yb hbx); have sb := rb.out.s)
    | (go_at_call 12; (with_reducible refine (CD.out _ (by with_reducible assumption)).mono ?_); rintro e xc ⟨rfl, yc⟩; have rc : Hid (Kq w1 w.heap.size at' h xc) := Lib.hid ((show Hid (Kq w1 w.heap.size at' h _) by with_reducible assumption).out.step yc hbx); have sc := rc.out.s)
    | (fail))
  go_wp2_with fail
  go_ret
  exact ⟨rfl, HB.out.trans (rc.out.bl.mono HB.out.size)⟩
end Go.Proofs.YtenoaonlngndpaaDoor
