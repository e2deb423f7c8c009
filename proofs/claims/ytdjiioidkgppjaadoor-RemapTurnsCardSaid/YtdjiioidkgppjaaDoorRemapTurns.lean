/- RemapTurns: the law's walk. -/
import Derived.Test.YtdjiioidkgppjaaDoorRemapLaw1
import Derived.Test.YtdjiioidkgppjaaDoorFive
namespace Go.Proofs.YtdjiioidkgppjaaDoor
set_option linter.unusedVariables false
open Go.RowKit Pl Go.Shelf
attribute [local go_sem ↓] Go.wp_at_zero Go.wp_at_succ

theorem bcell {W w1 : World} (hb : Below W.heap.size W w1) : (∀ b o, b < W.heap.size → w1.cell? ⟨b, o, none⟩ = W.cell? ⟨b, o, none⟩) ∧ (∀ b o, b < W.heap.size → w1.frozen? ⟨b, o, none⟩ = W.frozen? ⟨b, o, none⟩) :=
  ⟨fun b o h => hb.cell (p := ⟨b, o, none⟩) h, fun b o h => hb.frozen (p := ⟨b, o, none⟩) h⟩

/-- Two rules lie in blocks of their own. -/
abbrev S10 (w' : World) (A B : Nat) (r : Rl) : Prop := w'.cell? ⟨A, 0, none⟩ = some (.string r.pat) ∧ w'.cell? ⟨A, 1, none⟩ = some (.int .i64 r.dir) ∧ w'.cell? ⟨A, 2, none⟩ = some (.int .i64 r.qos) ∧ w'.cell? ⟨A, 3, none⟩ = some (.string r.loc) ∧ w'.cell? ⟨A, 4, none⟩ = some (.string r.rem) ∧ w'.cell? ⟨B, 0, none⟩ = some (.string r.pat) ∧ w'.cell? ⟨B, 1, none⟩ = some (.int .i64 r.dir) ∧ w'.cell? ⟨B, 2, none⟩ = some (.int .i64 r.qos) ∧ w'.cell? ⟨B, 3, none⟩ = some (.string r.loc) ∧ w'.cell? ⟨B, 4, none⟩ = some (.string r.rem)
theorem held10 {X w' : World} {A B : Nat} {r : Rl} (hb : Below X.heap.size X w') (h : S10 X A B r) (hA : A < X.heap.size) (hB : B < X.heap.size) : S10 w' A B r := by
  obtain ⟨h0, h1, h2, h3, h4, h5, h6, h7, h8, h9⟩ := h
  exact ⟨(hb.cell (p := ⟨A, 0, none⟩) hA).trans h0, (hb.cell (p := ⟨A, 1, none⟩) hA).trans h1, (hb.cell (p := ⟨A, 2, none⟩) hA).trans h2, (hb.cell (p := ⟨A, 3, none⟩) hA).trans h3, (hb.cell (p := ⟨A, 4, none⟩) hA).trans h4,
    (hb.cell (p := ⟨B, 0, none⟩) hB).trans h5, (hb.cell (p := ⟨B, 1, none⟩) hB).trans h6, (hb.cell (p := ⟨B, 2, none⟩) hB).trans h7, (hb.cell (p := ⟨B, 3, none⟩) hB).trans h8, (hb.cell (p := ⟨B, 4, none⟩) hB).trans h9⟩

theorem held10_alloc {X : World} {A B : Nat} {r : Rl} {o : Obj} (h : S10 X A B r) (hA : A < X.heap.size) (hB : B < X.heap.size) : S10 (X.alloc o) A B r := held10 ((Below.refl _ _).alloc (Nat.le_refl _) _) h hA hB
theorem held10_set {X : World} {A B : Nat} {r : Rl} {p : Addr} {v : Value} (h : S10 X A B r) (hA : p.block ≠ A) (hB : p.block ≠ B) : S10 (X.setCell p v) A B r := by
  have e : ∀ (b o : Nat), p.block ≠ b → (X.setCell p v).cell? ⟨b, o, none⟩ = X.cell? ⟨b, o, none⟩ := fun b o hb => World.cell?_setCell_other X p ⟨b, o, none⟩ v (fun e => hb (by rw [e]))
  obtain ⟨h0, h1, h2, h3, h4, h5, h6, h7, h8, h9⟩ := h
  exact ⟨(e A 0 hA).trans h0, (e A 1 hA).trans h1, (e A 2 hA).trans h2, (e A 3 hA).trans h3, (e A 4 hA).trans h4, (e B 0 hB).trans h5, (e B 1 hB).trans h6, (e B 2 hB).trans h7, (e B 3 hB).trans h8, (e B 4 hB).trans h9⟩

theorem held10_drew {X : World} {A B : Nat} {r : Rl} (h : S10 X A B r) : S10 X.drew A B r := h

theorem belStep {w X Y : World} (b : Below X.heap.size X Y) (hX : Below w.heap.size w X) : Below w.heap.size w Y := hX.trans (b.mono hX.size)
theorem belDrew {w X : World} (hX : Below w.heap.size w X) : Below w.heap.size w X.drew := hX.drew
theorem belSet {w X : World} {p : Addr} {u : Value} (hX : Below w.heap.size w X) (hp : w.heap.size ≤ p.block) : Below w.heap.size w (X.setCell p u) := hX.setCell hp u
theorem belAlloc {w X : World} {o : Obj} (hX : Below w.heap.size w X) : Below w.heap.size w (X.alloc o) := hX.alloc hX.size o
theorem rwakes_cells {w W : World} {F G : Nat} {fr : Rl} (hT : Tabs w) (hb : Below w.heap.size w W) (hc : S10 W F G fr) (hF : F < W.heap.size) (hG : G < W.heap.size) :
    Calls Tryd.prog 10 #[] W fun e w' => e = .returned (.bool true) ∧ Below w.heap.size w w' ∧ S10 w' F G fr :=
  (rwakes_any W (hT.below hb)).mono fun e w' h => ⟨h.1, hb.trans (h.2.mono hb.size), held10 h.2 hc hF hG⟩

theorem c5_s10 {W : World} {F G : Nat} {r : Rl} (h : C5 W F r) (k : C5 W G r) : S10 W F G r :=
  ⟨h.1, h.2.1, h.2.2.1, h.2.2.2.1, h.2.2.2.2, k.1, k.2.1, k.2.2.1, k.2.2.2.1, k.2.2.2.2⟩
theorem rwakes_c5 {w W : World} (F G : Nat) {fr : Rl} (hT : Tabs w) (hb : Below w.heap.size w W) (hF : F < W.heap.size) (hG : G < W.heap.size) (h1 : C5 W F fr) (h2 : C5 W G fr) :
    Calls Tryd.prog 10 #[] W fun e w' => e = .returned (.bool true) ∧ Below w.heap.size w w' ∧ S10 w' F G fr := rwakes_cells hT hb (c5_s10 h1 h2) hF hG

set_option maxHeartbeats 8000000 in
theorem remapTurns_core (r : Rl) (hr : r.fits) (n : ByteArray) (hn : n.size ≤ 140737488351232) (w : World) (hT : Tabs w) :
    Calls Tryd.prog 6 #[ruV r, .string n] w fun e w' => e = .returned (.bool true) ∧ Below w.heap.size w w' := by
  have HF := Lib.hid hr
  obtain ⟨x1, y1, h1⟩ : ∃ x y, toRem r n = (x, y) := ⟨_, _, rfl⟩
  obtain ⟨x2, y2, h2⟩ : ∃ x y, toLoc r n = (x, y) := ⟨_, _, rfl⟩
  have H1 := Lib.hid h1
  have H2 := Lib.hid h2
  obtain ⟨fr, hfr⟩ : ∃ x, flp r = x := ⟨_, rfl⟩
  have hfd : -9223372036854775808 ≤ fr.dir ∧ fr.dir ≤ 9223372036854775807 := by
    rw [← hfr]
    show -9223372036854775808 ≤ (if r.dir = 0 then 1 else if r.dir = 1 then 0 else r.dir) ∧ (if r.dir = 0 then 1 else if r.dir = 1 then 0 else r.dir) ≤ 9223372036854775807
    have h0 := hr.2.2.2.1
    have h1 := hr.2.2.2.2.1
    split
    · omega
    · split <;> omega
  have hfd0 := hfd.1
  have hfd1 := hfd.2
  have hwr : IntKind.i64.wrap fr.dir = fr.dir := IntWalk.i64_in _ (by omega)
  have Hfr := Lib.hid hfr
  clear hfr hfd
  have b0 : Below w.heap.size w (w.alloc (.cells (ruC r) 23)) := (Below.refl _ _).alloc (Nat.le_refl _) _
  have HT := Lib.hid (hT.below b0)
  obtain ⟨W0, hW0⟩ : ∃ W0, w.alloc (.cells (ruC r) 23) = W0 := ⟨_, rfl⟩
  have HW := Lib.hid hW0
  rw [hW0] at b0 HT
  clear hT hW0 hr h1 h2
  unfold ruV
  unfold ruC at HW
  go_enter Tryd.func6, Tryd.ntmps6
  go_wp2_with fail
  rw [HW.out]
  refine (rule_any r _ HF.out).mono ?_
  rintro e w1 ⟨rfl, b1⟩
  have c1 := b0.trans (b1.mono b0.size)
  have HT1 := Lib.hid (HT.out.below b1)
  obtain ⟨W2, hW2⟩ : ∃ W2, (w1.alloc (.cells (ruC r) 26)).alloc (.cells (ruC r) 27) = W2 := ⟨_, rfl⟩
  have HW2 := Lib.hid hW2
  have hnew := RuAt.new2 w1 r 26 27
  have e2 : Below w1.heap.size w1 W2 := by rw [← hW2]; exact ((Below.refl _ _).alloc (Nat.le_refl _) _).alloc (by simp) _
  rw [hW2] at hnew
  have HA := Lib.hid hnew.1
  have HB := Lib.hid hnew.2
  have HT2 := Lib.hid (HT1.out.below e2)
  have c2 := c1.trans (e2.mono c1.size)
  clear hW2 hnew e2
  unfold ruC at HW2
  unfold ruV
  go_wp2_with fail
  rw [HW2.out]
  refine (toremote_any r n _ HF.out hn HT2.out).mono ?_
  rintro e w3 ⟨rfl, b3⟩
  rw [H1.out]
  have c3 := c2.trans (b3.mono c2.size)
  have HT3 := Lib.hid (HT2.out.below b3)
  have HA3 := Lib.hid (HA.out.below b3)
  have HB3 := Lib.hid (HB.out.below b3)
  obtain ⟨_, q0, q1, q2, q3, q4⟩ := HA3.out
  obtain ⟨_, r0, r1, r2, r3, r4⟩ := HB3.out
  go_wp2_with fail
  refine (reftoremote_any r n _ HF.out hn).mono ?_
  rintro e w4 ⟨rfl, b4⟩
  rw [H1.out]
  have c4 := c3.trans (b4.mono c3.size)
  have HT4 := Lib.hid (HT3.out.below b4)
  have HA4 := Lib.hid (HA3.out.below b4)
  have HB4 := Lib.hid (HB3.out.below b4)
  clear q0 q1 q2 q3 q4 r0 r1 r2 r3 r4
  obtain ⟨_, q0, q1, q2, q3, q4⟩ := HA4.out
  obtain ⟨_, r0, r1, r2, r3, r4⟩ := HB4.out
  go_wp2_with fail
  refine (tolocal_any r n _ HF.out hn HT4.out).mono ?_
  rintro e w5 ⟨rfl, b5⟩
  rw [H2.out]
  have c5 := c4.trans (b5.mono c4.size)
  have HT5 := Lib.hid (HT4.out.below b5)
  have HA5 := Lib.hid (HA4.out.below b5)
  have HB5 := Lib.hid (HB4.out.below b5)
  clear q0 q1 q2 q3 q4 r0 r1 r2 r3 r4
  obtain ⟨_, q0, q1, q2, q3, q4⟩ := HA5.out
  obtain ⟨_, r0, r1, r2, r3, r4⟩ := HB5.out
  go_wp2_with fail
  refine (reftolocal_any r n _ HF.out hn).mono ?_
  rintro e w6 ⟨rfl, b6⟩
  rw [H2.out]
  have c6 := c5.trans (b6.mono c5.size)
  have HT6 := Lib.hid (HT5.out.below b6)
  have HA6 := Lib.hid (HA5.out.below b6)
  have HB6 := Lib.hid (HB5.out.below b6)
  clear q0 q1 q2 q3 q4 r0 r1 r2 r3 r4
  obtain ⟨ga, q0, q1, q2, q3, q4⟩ := HA6.out
  obtain ⟨gb, r0, r1, r2, r3, r4⟩ := HB6.out
  obtain ⟨A, hA⟩ : ∃ A, w1.heap.size = A := ⟨_, rfl⟩
  obtain ⟨B, hB⟩ : ∃ B, A + 1 = B := ⟨_, rfl⟩
  rw [hA] at ga gb q0 q1 q2 q3 q4 r0 r1 r2 r3 r4 ⊢
  rw [hB] at gb r0 r1 r2 r3 r4 ⊢
  clear hA hB b0 b1 b3 b4 b5 b6 c1 c2 c3 c4 c5 HT HT1 HT2 HT3 HT4 HT5 HA HB HA3 HB3 HA4 HB4 HA5 HB5 HA6 HB6 HW HW2
  go_wp2
  have hstart6 : S10 w6 A B r := ⟨q0, q1, q2, q3, q4, r0, r1, r2, r3, r4⟩
  have hstart : S10 w6.drew A B r := ⟨q0, q1, q2, q3, q4, r0, r1, r2, r3, r4⟩
  clear q0 q1 q2 q3 q4 r0 r1 r2 r3 r4
  go_region_held3 (fun w' => S10 w' A B r) (first | (with_reducible exact hstart) | (change S10 _ A B r; repeat (first | (with_reducible refine held10_drew ?_) | (with_reducible exact hstart6) | (with_reducible exact s8) | (with_reducible exact s7) | (with_reducible exact hstart) | (with_reducible refine held10_alloc ?_ (by first | omega | (simp; omega) | (simp; done)) (by first | omega | (simp; omega) | (simp; done))) | (with_reducible refine held10_set ?_ (by first | omega | (simp; omega) | (simp; done)) (by first | omega | (simp; omega) | (simp; done))))))
    (first | (go_at_call 20; refine (flip_any r _ HF.out).mono ?_; rintro e w7 ⟨rfl, b7⟩; rw [Hfr.out]; unfold ruV; have z7 := b7.size; (try simp at z7); obtain ⟨k1, k2⟩ := bcell b7; (first | (refine (fun (y1 : w6.heap.size < w7.heap.size) => ?_) ?_; rotate_left 1; (· omega)) | skip); (first | (refine (fun (y2 : w6.heap.size + 1 < w7.heap.size) => ?_) ?_; rotate_left 1; (· omega)) | skip); have s7 : S10 w7 A B r := held10 b7 (by assumption) (by first | omega | (simp; omega) | (simp; done)) (by first | omega | (simp; omega) | (simp; done))) | (go_at_call 21; refine (refflip_any r _ HF.out).mono ?_; rintro e w8 ⟨rfl, b8⟩; rw [Hfr.out]; unfold ruV; have z8 := b8.size; (try simp at z8); obtain ⟨k3, k4⟩ := bcell b8; (first | (refine (fun (y3 : w7.heap.size < w8.heap.size) => ?_) ?_; rotate_left 1; (· omega)) | skip); (first | (refine (fun (y4 : w7.heap.size + 1 < w8.heap.size) => ?_) ?_; rotate_left 1; (· omega)) | skip); (first | (refine (fun (y5 : w6.heap.size < w8.heap.size) => ?_) ?_; rotate_left 1; (· omega)) | skip); (first | (refine (fun (y6 : w6.heap.size + 1 < w8.heap.size) => ?_) ?_; rotate_left 1; (· omega)) | skip); have s8 : S10 w8 A B r := held10 b8 (by assumption) (by first | omega | (simp; omega) | (simp; done)) (by first | omega | (simp; omega) | (simp; done))))
  all_goals go_wp2_with fail
  all_goals first
    | (refine (rwakes_c5 w8.heap.size (w8.heap.size + 1) (fr := fr) HT6.out ?_ ?_ ?_ ?_ ?_).mono ?_
       rotate_left 1
       · ((repeat (first | (with_reducible refine lt_set ?_) | (with_reducible refine lt_alloc ?_) | (with_reducible refine lt_set1 ?_) | (with_reducible refine lt_alloc1 ?_))); first | (with_reducible assumption) | omega)
       · ((repeat (first | (with_reducible refine lt_set ?_) | (with_reducible refine lt_alloc ?_) | (with_reducible refine lt_set1 ?_) | (with_reducible refine lt_alloc1 ?_))); first | (with_reducible assumption) | omega)
       · repeat (first | (with_reducible refine c5_five ?_) | (with_reducible refine c5_alloc ?_; ((repeat (first | (with_reducible refine eq_set ?_) | (with_reducible refine eq_alloc ?_) | (with_reducible refine eq_drew ?_))); with_reducible rfl)) | (with_reducible refine c5_past ?_ ?_; · ((repeat (first | (with_reducible refine lt_set ?_) | (with_reducible refine lt_alloc ?_) | (with_reducible refine lt_set1 ?_) | (with_reducible refine lt_alloc1 ?_))); first | (with_reducible assumption) | omega)) | (with_reducible refine c5_other (ne_eta ?_) ?_; · omega) | (with_reducible refine z5_set ?_) | (with_reducible refine z5_below b8 ?_) | (with_reducible refine z5_below b7 ?_) | (with_reducible refine z5_drew ?_) | (with_reducible refine z5_alloc ?_; ((repeat (first | (with_reducible refine eq_set ?_) | (with_reducible refine eq_alloc ?_) | (with_reducible refine eq_drew ?_))); with_reducible rfl)) | (with_reducible refine z5_past ?_))
       · repeat (first | (with_reducible refine c5_five ?_) | (with_reducible refine c5_alloc ?_; ((repeat (first | (with_reducible refine eq_set ?_) | (with_reducible refine eq_alloc ?_) | (with_reducible refine eq_drew ?_))); with_reducible rfl)) | (with_reducible refine c5_past ?_ ?_; · ((repeat (first | (with_reducible refine lt_set ?_) | (with_reducible refine lt_alloc ?_) | (with_reducible refine lt_set1 ?_) | (with_reducible refine lt_alloc1 ?_))); first | (with_reducible assumption) | omega)) | (with_reducible refine c5_other (ne_eta ?_) ?_; · omega) | (with_reducible refine z5_set ?_) | (with_reducible refine z5_below b8 ?_) | (with_reducible refine z5_below b7 ?_) | (with_reducible refine z5_drew ?_) | (with_reducible refine z5_alloc ?_; ((repeat (first | (with_reducible refine eq_set ?_) | (with_reducible refine eq_alloc ?_) | (with_reducible refine eq_drew ?_))); with_reducible rfl)) | (with_reducible refine z5_past ?_))
       rotate_left 1
       · repeat (first | (with_reducible refine belSet ?_ ?_; rotate_left 1; · (refine le_eta ?_; omega)) | (with_reducible apply belAlloc) | (with_reducible apply belDrew) | (with_reducible apply belStep b8) | (with_reducible apply belStep b7) | (with_reducible exact Below.refl _ _)))
    | (refine (rwakes_c5 w7.heap.size w8.heap.size (fr := fr) HT6.out ?_ ?_ ?_ ?_ ?_).mono ?_
       rotate_left 1
       · ((repeat (first | (with_reducible refine lt_set ?_) | (with_reducible refine lt_alloc ?_) | (with_reducible refine lt_set1 ?_) | (with_reducible refine lt_alloc1 ?_))); first | (with_reducible assumption) | omega)
       · ((repeat (first | (with_reducible refine lt_set ?_) | (with_reducible refine lt_alloc ?_) | (with_reducible refine lt_set1 ?_) | (with_reducible refine lt_alloc1 ?_))); first | (with_reducible assumption) | omega)
       · repeat (first | (with_reducible refine c5_five ?_) | (with_reducible refine c5_alloc ?_; ((repeat (first | (with_reducible refine eq_set ?_) | (with_reducible refine eq_alloc ?_) | (with_reducible refine eq_drew ?_))); with_reducible rfl)) | (with_reducible refine c5_past ?_ ?_; · ((repeat (first | (with_reducible refine lt_set ?_) | (with_reducible refine lt_alloc ?_) | (with_reducible refine lt_set1 ?_) | (with_reducible refine lt_alloc1 ?_))); first | (with_reducible assumption) | omega)) | (with_reducible refine c5_other (ne_eta ?_) ?_; · omega) | (with_reducible refine z5_set ?_) | (with_reducible refine z5_below b8 ?_) | (with_reducible refine z5_below b7 ?_) | (with_reducible refine z5_drew ?_) | (with_reducible refine z5_alloc ?_; ((repeat (first | (with_reducible refine eq_set ?_) | (with_reducible refine eq_alloc ?_) | (with_reducible refine eq_drew ?_))); with_reducible rfl)) | (with_reducible refine z5_past ?_))
       · repeat (first | (with_reducible refine c5_five ?_) | (with_reducible refine c5_alloc ?_; ((repeat (first | (with_reducible refine eq_set ?_) | (with_reducible refine eq_alloc ?_) | (with_reducible refine eq_drew ?_))); with_reducible rfl)) | (with_reducible refine c5_past ?_ ?_; · ((repeat (first | (with_reducible refine lt_set ?_) | (with_reducible refine lt_alloc ?_) | (with_reducible refine lt_set1 ?_) | (with_reducible refine lt_alloc1 ?_))); first | (with_reducible assumption) | omega)) | (with_reducible refine c5_other (ne_eta ?_) ?_; · omega) | (with_reducible refine z5_set ?_) | (with_reducible refine z5_below b8 ?_) | (with_reducible refine z5_below b7 ?_) | (with_reducible refine z5_drew ?_) | (with_reducible refine z5_alloc ?_; ((repeat (first | (with_reducible refine eq_set ?_) | (with_reducible refine eq_alloc ?_) | (with_reducible refine eq_drew ?_))); with_reducible rfl)) | (with_reducible refine z5_past ?_))
       rotate_left 1
       · repeat (first | (with_reducible refine belSet ?_ ?_; rotate_left 1; · (refine le_eta ?_; omega)) | (with_reducible apply belAlloc) | (with_reducible apply belDrew) | (with_reducible apply belStep b8) | (with_reducible apply belStep b7) | (with_reducible exact Below.refl _ _)))
    | (refine (rwakes_c5 w7.heap.size (w7.heap.size + 1) (fr := fr) HT6.out ?_ ?_ ?_ ?_ ?_).mono ?_
       rotate_left 1
       · ((repeat (first | (with_reducible refine lt_set ?_) | (with_reducible refine lt_alloc ?_) | (with_reducible refine lt_set1 ?_) | (with_reducible refine lt_alloc1 ?_))); first | (with_reducible assumption) | omega)
       · ((repeat (first | (with_reducible refine lt_set ?_) | (with_reducible refine lt_alloc ?_) | (with_reducible refine lt_set1 ?_) | (with_reducible refine lt_alloc1 ?_))); first | (with_reducible assumption) | omega)
       · repeat (first | (with_reducible refine c5_five ?_) | (with_reducible refine c5_alloc ?_; ((repeat (first | (with_reducible refine eq_set ?_) | (with_reducible refine eq_alloc ?_) | (with_reducible refine eq_drew ?_))); with_reducible rfl)) | (with_reducible refine c5_past ?_ ?_; · ((repeat (first | (with_reducible refine lt_set ?_) | (with_reducible refine lt_alloc ?_) | (with_reducible refine lt_set1 ?_) | (with_reducible refine lt_alloc1 ?_))); first | (with_reducible assumption) | omega)) | (with_reducible refine c5_other (ne_eta ?_) ?_; · omega) | (with_reducible refine z5_set ?_) | (with_reducible refine z5_below b8 ?_) | (with_reducible refine z5_below b7 ?_) | (with_reducible refine z5_drew ?_) | (with_reducible refine z5_alloc ?_; ((repeat (first | (with_reducible refine eq_set ?_) | (with_reducible refine eq_alloc ?_) | (with_reducible refine eq_drew ?_))); with_reducible rfl)) | (with_reducible refine z5_past ?_))
       · repeat (first | (with_reducible refine c5_five ?_) | (with_reducible refine c5_alloc ?_; ((repeat (first | (with_reducible refine eq_set ?_) | (with_reducible refine eq_alloc ?_) | (with_reducible refine eq_drew ?_))); with_reducible rfl)) | (with_reducible refine c5_past ?_ ?_; · ((repeat (first | (with_reducible refine lt_set ?_) | (with_reducible refine lt_alloc ?_) | (with_reducible refine lt_set1 ?_) | (with_reducible refine lt_alloc1 ?_))); first | (with_reducible assumption) | omega)) | (with_reducible refine c5_other (ne_eta ?_) ?_; · omega) | (with_reducible refine z5_set ?_) | (with_reducible refine z5_below b8 ?_) | (with_reducible refine z5_below b7 ?_) | (with_reducible refine z5_drew ?_) | (with_reducible refine z5_alloc ?_; ((repeat (first | (with_reducible refine eq_set ?_) | (with_reducible refine eq_alloc ?_) | (with_reducible refine eq_drew ?_))); with_reducible rfl)) | (with_reducible refine z5_past ?_))
       rotate_left 1
       · repeat (first | (with_reducible refine belSet ?_ ?_; rotate_left 1; · (refine le_eta ?_; omega)) | (with_reducible apply belAlloc) | (with_reducible apply belDrew) | (with_reducible apply belStep b8) | (with_reducible apply belStep b7) | (with_reducible exact Below.refl _ _)))
    | (refine (rwakes_c5 w6.heap.size w8.heap.size (fr := fr) HT6.out ?_ ?_ ?_ ?_ ?_).mono ?_
       rotate_left 1
       · ((repeat (first | (with_reducible refine lt_set ?_) | (with_reducible refine lt_alloc ?_) | (with_reducible refine lt_set1 ?_) | (with_reducible refine lt_alloc1 ?_))); first | (with_reducible assumption) | omega)
       · ((repeat (first | (with_reducible refine lt_set ?_) | (with_reducible refine lt_alloc ?_) | (with_reducible refine lt_set1 ?_) | (with_reducible refine lt_alloc1 ?_))); first | (with_reducible assumption) | omega)
       · repeat (first | (with_reducible refine c5_five ?_) | (with_reducible refine c5_alloc ?_; ((repeat (first | (with_reducible refine eq_set ?_) | (with_reducible refine eq_alloc ?_) | (with_reducible refine eq_drew ?_))); with_reducible rfl)) | (with_reducible refine c5_past ?_ ?_; · ((repeat (first | (with_reducible refine lt_set ?_) | (with_reducible refine lt_alloc ?_) | (with_reducible refine lt_set1 ?_) | (with_reducible refine lt_alloc1 ?_))); first | (with_reducible assumption) | omega)) | (with_reducible refine c5_other (ne_eta ?_) ?_; · omega) | (with_reducible refine z5_set ?_) | (with_reducible refine z5_below b8 ?_) | (with_reducible refine z5_below b7 ?_) | (with_reducible refine z5_drew ?_) | (with_reducible refine z5_alloc ?_; ((repeat (first | (with_reducible refine eq_set ?_) | (with_reducible refine eq_alloc ?_) | (with_reducible refine eq_drew ?_))); with_reducible rfl)) | (with_reducible refine z5_past ?_))
       · repeat (first | (with_reducible refine c5_five ?_) | (with_reducible refine c5_alloc ?_; ((repeat (first | (with_reducible refine eq_set ?_) | (with_reducible refine eq_alloc ?_) | (with_reducible refine eq_drew ?_))); with_reducible rfl)) | (with_reducible refine c5_past ?_ ?_; · ((repeat (first | (with_reducible refine lt_set ?_) | (with_reducible refine lt_alloc ?_) | (with_reducible refine lt_set1 ?_) | (with_reducible refine lt_alloc1 ?_))); first | (with_reducible assumption) | omega)) | (with_reducible refine c5_other (ne_eta ?_) ?_; · omega) | (with_reducible refine z5_set ?_) | (with_reducible refine z5_below b8 ?_) | (with_reducible refine z5_below b7 ?_) | (with_reducible refine z5_drew ?_) | (with_reducible refine z5_alloc ?_; ((repeat (first | (with_reducible refine eq_set ?_) | (with_reducible refine eq_alloc ?_) | (with_reducible refine eq_drew ?_))); with_reducible rfl)) | (with_reducible refine z5_past ?_))
       rotate_left 1
       · repeat (first | (with_reducible refine belSet ?_ ?_; rotate_left 1; · (refine le_eta ?_; omega)) | (with_reducible apply belAlloc) | (with_reducible apply belDrew) | (with_reducible apply belStep b8) | (with_reducible apply belStep b7) | (with_reducible exact Below.refl _ _)))
    | (refine (rwakes_c5 w6.heap.size w7.heap.size (fr := fr) HT6.out ?_ ?_ ?_ ?_ ?_).mono ?_
       rotate_left 1
       · ((repeat (first | (with_reducible refine lt_set ?_) | (with_reducible refine lt_alloc ?_) | (with_reducible refine lt_set1 ?_) | (with_reducible refine lt_alloc1 ?_))); first | (with_reducible assumption) | omega)
       · ((repeat (first | (with_reducible refine lt_set ?_) | (with_reducible refine lt_alloc ?_) | (with_reducible refine lt_set1 ?_) | (with_reducible refine lt_alloc1 ?_))); first | (with_reducible assumption) | omega)
       · repeat (first | (with_reducible refine c5_five ?_) | (with_reducible refine c5_alloc ?_; ((repeat (first | (with_reducible refine eq_set ?_) | (with_reducible refine eq_alloc ?_) | (with_reducible refine eq_drew ?_))); with_reducible rfl)) | (with_reducible refine c5_past ?_ ?_; · ((repeat (first | (with_reducible refine lt_set ?_) | (with_reducible refine lt_alloc ?_) | (with_reducible refine lt_set1 ?_) | (with_reducible refine lt_alloc1 ?_))); first | (with_reducible assumption) | omega)) | (with_reducible refine c5_other (ne_eta ?_) ?_; · omega) | (with_reducible refine z5_set ?_) | (with_reducible refine z5_below b8 ?_) | (with_reducible refine z5_below b7 ?_) | (with_reducible refine z5_drew ?_) | (with_reducible refine z5_alloc ?_; ((repeat (first | (with_reducible refine eq_set ?_) | (with_reducible refine eq_alloc ?_) | (with_reducible refine eq_drew ?_))); with_reducible rfl)) | (with_reducible refine z5_past ?_))
       · repeat (first | (with_reducible refine c5_five ?_) | (with_reducible refine c5_alloc ?_; ((repeat (first | (with_reducible refine eq_set ?_) | (with_reducible refine eq_alloc ?_) | (with_reducible refine eq_drew ?_))); with_reducible rfl)) | (with_reducible refine c5_past ?_ ?_; · ((repeat (first | (with_reducible refine lt_set ?_) | (with_reducible refine lt_alloc ?_) | (with_reducible refine lt_set1 ?_) | (with_reducible refine lt_alloc1 ?_))); first | (with_reducible assumption) | omega)) | (with_reducible refine c5_other (ne_eta ?_) ?_; · omega) | (with_reducible refine z5_set ?_) | (with_reducible refine z5_below b8 ?_) | (with_reducible refine z5_below b7 ?_) | (with_reducible refine z5_drew ?_) | (with_reducible refine z5_alloc ?_; ((repeat (first | (with_reducible refine eq_set ?_) | (with_reducible refine eq_alloc ?_) | (with_reducible refine eq_drew ?_))); with_reducible rfl)) | (with_reducible refine z5_past ?_))
       rotate_left 1
       · repeat (first | (with_reducible refine belSet ?_ ?_; rotate_left 1; · (refine le_eta ?_; omega)) | (with_reducible apply belAlloc) | (with_reducible apply belDrew) | (with_reducible apply belStep b8) | (with_reducible apply belStep b7) | (with_reducible exact Below.refl _ _)))
    | (refine (rwakes_c5 w6.heap.size (w6.heap.size + 1) (fr := fr) HT6.out ?_ ?_ ?_ ?_ ?_).mono ?_
       rotate_left 1
       · ((repeat (first | (with_reducible refine lt_set ?_) | (with_reducible refine lt_alloc ?_) | (with_reducible refine lt_set1 ?_) | (with_reducible refine lt_alloc1 ?_))); first | (with_reducible assumption) | omega)
       · ((repeat (first | (with_reducible refine lt_set ?_) | (with_reducible refine lt_alloc ?_) | (with_reducible refine lt_set1 ?_) | (with_reducible refine lt_alloc1 ?_))); first | (with_reducible assumption) | omega)
       · repeat (first | (with_reducible refine c5_five ?_) | (with_reducible refine c5_alloc ?_; ((repeat (first | (with_reducible refine eq_set ?_) | (with_reducible refine eq_alloc ?_) | (with_reducible refine eq_drew ?_))); with_reducible rfl)) | (with_reducible refine c5_past ?_ ?_; · ((repeat (first | (with_reducible refine lt_set ?_) | (with_reducible refine lt_alloc ?_) | (with_reducible refine lt_set1 ?_) | (with_reducible refine lt_alloc1 ?_))); first | (with_reducible assumption) | omega)) | (with_reducible refine c5_other (ne_eta ?_) ?_; · omega) | (with_reducible refine z5_set ?_) | (with_reducible refine z5_below b8 ?_) | (with_reducible refine z5_below b7 ?_) | (with_reducible refine z5_drew ?_) | (with_reducible refine z5_alloc ?_; ((repeat (first | (with_reducible refine eq_set ?_) | (with_reducible refine eq_alloc ?_) | (with_reducible refine eq_drew ?_))); with_reducible rfl)) | (with_reducible refine z5_past ?_))
       · repeat (first | (with_reducible refine c5_five ?_) | (with_reducible refine c5_alloc ?_; ((repeat (first | (with_reducible refine eq_set ?_) | (with_reducible refine eq_alloc ?_) | (with_reducible refine eq_drew ?_))); with_reducible rfl)) | (with_reducible refine c5_past ?_ ?_; · ((repeat (first | (with_reducible refine lt_set ?_) | (with_reducible refine lt_alloc ?_) | (with_reducible refine lt_set1 ?_) | (with_reducible refine lt_alloc1 ?_))); first | (with_reducible assumption) | omega)) | (with_reducible refine c5_other (ne_eta ?_) ?_; · omega) | (with_reducible refine z5_set ?_) | (with_reducible refine z5_below b8 ?_) | (with_reducible refine z5_below b7 ?_) | (with_reducible refine z5_drew ?_) | (with_reducible refine z5_alloc ?_; ((repeat (first | (with_reducible refine eq_set ?_) | (with_reducible refine eq_alloc ?_) | (with_reducible refine eq_drew ?_))); with_reducible rfl)) | (with_reducible refine z5_past ?_))
       rotate_left 1
       · repeat (first | (with_reducible refine belSet ?_ ?_; rotate_left 1; · (refine le_eta ?_; omega)) | (with_reducible apply belAlloc) | (with_reducible apply belDrew) | (with_reducible apply belStep b8) | (with_reducible apply belStep b7) | (with_reducible exact Below.refl _ _)))
  all_goals
    rintro e w9 ⟨rfl, b9, t0, t1, t2, t3, t4, u0, u1, u2, u3, u4⟩
    clear z7 z8 k1 k2 k3 k4 b7 b8 hstart hstart6 s7 s8
    go_wp2
    go_ret
    exact ⟨rfl, c6.trans (b9.mono c6.size)⟩

theorem remapTurns_walk (v : Value) (r : Rl) (n : ByteArray) (hn : n.size ≤ 140737488351232) (w : World) (h : v = ruV r ∧ r.fits) (hT : Tabs w) :
    Calls Tryd.prog 6 #[v, .string n] w fun e w' => e = .returned (.bool true) ∧ Below w.heap.size w w' := by
  rw [h.1]
  exact remapTurns_core r h.2 n hn w hT
end Go.Proofs.YtdjiioidkgppjaaDoor
