/- Parts of the proof, joined: Gw2, Gw3, Gw4. -/
import Derived.Test.YtedapgeabpadaaaDoorH6P6
import Derived.Laws.Rows
import Derived.Great.BuildSlice
/- A packet's reader walked: sub. -/
set_option linter.unusedVariables false
namespace Go.Proofs.YtedapgeabpadaaaDoor
open Go.RowKit Pl Go.Shelf Go.PlainAid

theorem hb_1 : ∀ n : Fin 256, bits .and .i64 ((n.val : Nat) : Int) 1 = ((n.val % 2 : Nat) : Int) := by decide +kernel
theorem hb_2 : ∀ n : Fin 256, bits .and .i64 ((n.val : Nat) : Int) 2 = ((n.val / 2 % 2 * 2 : Nat) : Int) := by decide +kernel
theorem hb_3 : ∀ n : Fin 256, bits .and .i64 ((n.val : Nat) : Int) 3 = ((n.val % 4 : Nat) : Int) := by decide +kernel
theorem hb_4 : ∀ n : Fin 256, bits .and .i64 ((n.val : Nat) : Int) 4 = ((n.val / 4 % 2 * 4 : Nat) : Int) := by decide +kernel
theorem hb_8 : ∀ n : Fin 256, bits .and .i64 ((n.val : Nat) : Int) 8 = ((n.val / 8 % 2 * 8 : Nat) : Int) := by decide +kernel
theorem hb_15 : ∀ n : Fin 256, bits .and .i64 ((n.val : Nat) : Int) 15 = ((n.val % 16 : Nat) : Int) := by decide +kernel
theorem hb_32 : ∀ n : Fin 256, bits .and .i64 ((n.val : Nat) : Int) 32 = ((n.val / 32 % 2 * 32 : Nat) : Int) := by decide +kernel
theorem hb_56 : ∀ n : Fin 256, bits .and .i64 ((n.val : Nat) : Int) 56 = ((n.val / 8 % 8 * 8 : Nat) : Int) := by decide +kernel
theorem hb_64 : ∀ n : Fin 256, bits .and .i64 ((n.val : Nat) : Int) 64 = ((n.val / 64 % 2 * 64 : Nat) : Int) := by decide +kernel
theorem hb_128 : ∀ n : Fin 256, bits .and .i64 ((n.val : Nat) : Int) 128 = ((n.val / 128 % 2 * 128 : Nat) : Int) := by decide +kernel
theorem hb_fin {b : Int} (h0 : 0 ≤ b) (h1 : b < 256) : ∃ n : Fin 256, b = ((n.val : Nat) : Int) := ⟨⟨b.toNat, by omega⟩, by simp; omega⟩
section
variable {n : Int} (h0 : 0 ≤ n) (h1 : n < 256)
include h0 h1
theorem nb_1 : bits .and .i64 n 1 = n % 2 := by obtain ⟨k, rfl⟩ := hb_fin h0 h1; rw [hb_1]; omega
theorem nb_2 : bits .and .i64 n 2 = n / 2 % 2 * 2 := by obtain ⟨k, rfl⟩ := hb_fin h0 h1; rw [hb_2]; omega
theorem nb_3 : bits .and .i64 n 3 = n % 4 := by obtain ⟨k, rfl⟩ := hb_fin h0 h1; rw [hb_3]; omega
theorem nb_4 : bits .and .i64 n 4 = n / 4 % 2 * 4 := by obtain ⟨k, rfl⟩ := hb_fin h0 h1; rw [hb_4]; omega
theorem nb_8 : bits .and .i64 n 8 = n / 8 % 2 * 8 := by obtain ⟨k, rfl⟩ := hb_fin h0 h1; rw [hb_8]; omega
theorem nb_15 : bits .and .i64 n 15 = n % 16 := by obtain ⟨k, rfl⟩ := hb_fin h0 h1; rw [hb_15]; omega
theorem nb_32 : bits .and .i64 n 32 = n / 32 % 2 * 32 := by obtain ⟨k, rfl⟩ := hb_fin h0 h1; rw [hb_32]; omega
theorem nb_56 : bits .and .i64 n 56 = n / 8 % 8 * 8 := by obtain ⟨k, rfl⟩ := hb_fin h0 h1; rw [hb_56]; omega
theorem nb_64 : bits .and .i64 n 64 = n / 64 % 2 * 64 := by obtain ⟨k, rfl⟩ := hb_fin h0 h1; rw [hb_64]; omega
theorem nb_128 : bits .and .i64 n 128 = n / 128 % 2 * 128 := by obtain ⟨k, rfl⟩ := hb_fin h0 h1; rw [hb_128]; omega
end
theorem nz_dec {x y : Int} {p : Prop} [Decidable p] (h : x = y) (hp : (y ≠ 0) ↔ p) : (x != 0) = decide p := by
  subst h
  by_cases c : x = 0
  · have : ¬ p := fun hc => hp.2 hc c
    simp [c, this]
  · have : p := hp.1 c
    simp [c, this]
/-- A byte is one. -/
theorem rNum_byte {s : ByteArray} {a n b : Int} (h : rNum s 1 a = .ok (n, b)) : 0 ≤ n ∧ n < 256 := by
  unfold rNum at h
  split at h
  · rename_i h1
    cases h
    obtain ⟨⟨n, tu, c⟩, hg⟩ : ∃ g, getF s a 1 = g := ⟨_, rfl⟩
    rw [hg] at h1 ⊢
    simp only at h1
    subst h1
    obtain ⟨i, k, rfl, hk, rfl, _, _, rfl⟩ := getF_to hg
    have hk1 : k = 1 := by omega
    subst hk1
    have := gv_bd s i 1
    simpa using this
  · cases h
theorem sbi_size : (Tryd.prog.info? 84).map (·.size) = some 5 := by kernel_rfl
theorem sb_one (x : Sb) : (sbA x).all (·.oneCell') = true := by simp [sbA]; simp [Value.oneCell']
theorem blkAt (w : World) (cs : Array Value) (T : TypeId) {b : Nat} (h : b = w.heap.size) : Blk (w.alloc (.cells cs T)) b cs T := by subst h; exact Blk.new w cs T
theorem Blk.row0 {w : World} {g : Nat} {cs : Array Value} {t : TypeId} (h : Blk w g cs t) (cs' : Array Value) : Blk (w.setRow g cs') g cs' t := setRow_heap w g cs cs' t (0, 0) h
theorem Blk.row1 {w : World} {g g' : Nat} {cs : Array Value} {t : TypeId} (h : Blk w g cs t) (hg : g ≠ g') (cs' : Array Value) : Blk (w.setRow g' cs') g cs t := (setRow_other w g' g cs' hg).trans h
theorem Mod.setRow {S : Nat → Prop} {a b : World} (h : Mod S a b) {g : Nat} (hg : S g ∨ a.heap.size ≤ g) (cs : Array Value) : Mod S a (b.setRow g cs) :=
  ⟨h.os, h.tape, h.output, by simpa using h.size, fun k hk hn => (setRow_other b g k cs (fun e => by subst e; rcases hg with c | c; exact hn c; omega)).trans (h.block k hk hn)⟩
theorem wpList_store_rowN {P : Program} {ops : Array Oper} {rest : List Oper} {o : Oper} {a : Act} {w : World} {Q : Exit → Act → World → Prop} (hgd : o.guard = none) (ty : TypeId) (x y : Operand) (ho : o.op = .store ty x y)
    (hd : o.dst = none) (g : Nat) (cells : Array Value) (hx : a.eval x = .pointer (some ⟨g, 0, none⟩)) (hy : a.eval y = .agg cells)
    (t : TypeId) (old : Array Value) (hg : w.heap[g]? = some (.cells old t (0, 0))) (hi : (P.info? ty).map (·.size) = some cells.size)
    (hold : old.size = cells.size) (h1 : cells.all (·.oneCell') = true) (Z : World) (hZ : w.setRow g cells = Z)
    (h : wpList P ops Q rest a Z) : wpList P ops Q (o :: rest) a w :=
  Go.wpList_store_rowTo hgd ty x y ho hd g cells hx hy t old hg hi hold h1 (by rw [hZ]; exact h)
def zSb : Sb := ⟨⟨#[]⟩, 0, false, false, 0⟩
set_option maxHeartbeats 4000000 in
theorem rsub_any (R : Nat) (s : ByteArray) (a : Int) (w : World) (hR : Blk w R (rdrA s a) 110) (hs : s.size ≤ 140737488351232) (h0 : 0 ≤ a) (h1 : a ≤ s.size) (hT : Tabs w) (hN : NoTab R) :
    Calls Tryd.prog 83 #[.pointer (some ⟨R, 0, none⟩)] w (RrPost R s (fun x u _ => u = .agg (sbA x)) w (rSub s a)) := by
  have hRl := hR.lt
  have hb0 := (Below.refl w.heap.size w).alloc (Nat.le_refl _) (.cells (sbA zSb) 84)
  have hB0 := blkAt w (sbA zSb) 84 rfl
  obtain ⟨W0, hW0⟩ : ∃ W0, w.alloc (.cells (sbA zSb) 84) = W0 := ⟨_, rfl⟩
  rw [hW0] at hb0 hB0
  have hR0 := hR.of_below hb0
  have hT0 := hT.below hb0
  have CT := Lib.hid (rtext_any R s a W0 hR0 hs h0 h1 (hT0.below ⟨rfl, rfl, rfl, Nat.le_refl _, fun _ _ => rfl⟩))
  have HB0 := Lib.hid hB0
  have HM0 := Lib.hid (Mod.of_below (S := (· = R)) hb0)
  have HZ0 := Lib.hid hb0.size
  have HT0 := Lib.hid hT0
  unfold rSub
  obtain ⟨r, hr⟩ : ∃ r, rText s a = r := ⟨_, rfl⟩
  rw [hr] at CT ⊢
  unfold sbA zSb at hW0
  clear hR hR0 hb0 hB0 hT0 hT h0 h1
  cases r with
  | error c =>
    show Calls _ _ _ _ (RrPost R s (fun x u _ => u = Value.agg (sbA x)) w (Except.error c : RR Sb))
    go_enter Tryd.func83, Tryd.ntmps83
    go_wp2_with fail
    (with_reducible refine CT.out.mono ?_)
    rintro e w1 ⟨rfl, hm⟩
    exact ⟨rfl, rfl, HM0.out.trans hm⟩
  | ok v =>
    obtain ⟨f, b⟩ := v
    have hb := rText_at hr
    clear hr
    show Calls _ _ _ _ (RrPost R s (fun x u _ => u = Value.agg (sbA x)) w (bindR (rNum s 1 b) fun n a => if ¬ (n % 4 < 3 ∧ n < 64) then (Except.error 129 : RR Sb) else if n / 16 % 4 = 3 then .error 130 else .ok (sbOf f n, a)))
    obtain ⟨r2, hr2⟩ : ∃ r2, rNum s 1 b = r2 := ⟨_, rfl⟩
    rw [hr2]
    have HR2 := Lib.hid hr2
    clear hr2
    go_enter Tryd.func83, Tryd.ntmps83
    go_wp2_with fail
    (with_reducible refine CT.out.mono ?_)
    rintro e w1 ⟨u, rfl, rfl, hB1, hm1⟩
    have hd1 := hB1.lt
    have hlt : w.heap.size < w1.heap.size := Nat.lt_of_lt_of_le HB0.out.lt hm1.size
    have hB01 : Blk w1 w.heap.size (sbA zSb) 84 := (hm1.block w.heap.size HB0.out.lt (by omega)).trans HB0.out
    have hbl := blkAt w1 (sbA zSb) 84 rfl
    have hB01' := hB01.alloc (.cells (sbA zSb) 84)
    have hB1' := hB1.alloc (.cells (sbA zSb) 84)
    have hm1' := ((HM0.out.trans hm1).alloc (.cells (sbA zSb) 84))
    obtain ⟨W2, hW2⟩ : ∃ W2, w1.alloc (.cells (sbA zSb) 84) = W2 := ⟨_, rfl⟩
    rw [hW2] at hbl hB01' hB1' hm1'
    have hbz := hbl.row0 (sbA ⟨f, 0, false, false, 0⟩)
    have hB01z := hB01'.row1 (by omega) (g' := w1.heap.size) (sbA ⟨f, 0, false, false, 0⟩)
    have hB1z := hB1'.row1 (by omega) (g' := w1.heap.size) (sbA ⟨f, 0, false, false, 0⟩)
    have hmz := hm1'.setRow (g := w1.heap.size) (.inr (by omega)) (sbA ⟨f, 0, false, false, 0⟩)
    obtain ⟨Z, hZ⟩ : ∃ Z, W2.setRow w1.heap.size (sbA ⟨f, 0, false, false, 0⟩) = Z := ⟨_, rfl⟩
    rw [hZ] at hbz hB01z hB1z hmz
    have CN := Lib.hid (rnum_any R s b 1 Z hB1z hs (by omega) (by omega))
    rw [HR2.out] at CN
    have HBL := Lib.hid hbl
    have HBZ := Lib.hid hbz
    have HB01Z := Lib.hid hB01z
    have HMZ := Lib.hid hmz
    have HZ := Lib.hid hZ
    unfold sbA zSb at hW2
    clear hB1 hm1 hbl hB01' hB1' hm1' hbz hB01z hB1z hmz hZ hB01
    go_wp2_with (first | (refine wpList_buildTo rfl 84 _ rfl (some 7) rfl (sbA ⟨f, 0, false, false, 0⟩) (by kernel_rfl) ?_) | (refine wpList_store_rowN rfl 84 (.tmp 3) (.tmp 7) rfl rfl w1.heap.size (sbA ⟨f, 0, false, false, 0⟩) rfl rfl 84 (sbA zSb) HBL.out sbi_size rfl (sb_one _) Z HZ.out ?_) | (fail))
    (with_reducible refine CN.out.mono ?_)
    cases r2 with
    | error c =>
      rintro e w3 ⟨rfl, hm3⟩
      exact ⟨rfl, rfl, HMZ.out.trans hm3⟩
    | ok v2 =>
      obtain ⟨n, tu⟩ := v2
      have hn := rNum_byte HR2.out
      rintro e w3 ⟨u, rfl, rfl, hB3, hm3⟩
      have hZl := HBZ.out.lt
      have h01l := HB01Z.out.lt
      have hL3 : Blk w3 w1.heap.size (sbA ⟨f, 0, false, false, 0⟩) 84 := (hm3.block w1.heap.size hZl (by omega)).trans HBZ.out
      have h03 : Blk w3 w.heap.size (sbA zSb) 84 := (hm3.block w.heap.size h01l (by omega)).trans HB01Z.out
      have hm3' := HMZ.out.trans hm3
      have e3 := nb_3 hn.1 hn.2
      have e16 : bits .and .i64 (n / 16) 3 = n / 16 % 4 := nb_3 (by omega) (by omega)
      have e4 : (bits .and .i64 n 4 != 0) = decide (n / 4 % 2 = 1) := nz_dec (nb_4 hn.1 hn.2) (by omega)
      have e8 : (bits .and .i64 n 8 != 0) = decide (n / 8 % 2 = 1) := nz_dec (nb_8 hn.1 hn.2) (by omega)
      obtain ⟨q3, hq3⟩ : ∃ q, n % 4 = q := ⟨_, rfl⟩
      obtain ⟨q16, hq16⟩ : ∃ q, n / 16 % 4 = q := ⟨_, rfl⟩
      obtain ⟨b4, hb4⟩ : ∃ q, decide (n / 4 % 2 = 1) = q := ⟨_, rfl⟩
      obtain ⟨b8, hb8⟩ : ∃ q, decide (n / 8 % 2 = 1) = q := ⟨_, rfl⟩
      have hso : sbOf f n = ⟨f, q3, b4, b8, q16⟩ := by unfold sbOf; rw [hq3, hq16, hb4, hb8]
      rw [hq3] at e3
      rw [hq16] at e16
      rw [hb4] at e4
      rw [hb8] at e8
      obtain ⟨X, hX⟩ : ∃ X, (((w3.setCell ⟨w1.heap.size, 1, none⟩ (.int .i64 q3)).setCell ⟨w1.heap.size, 2, none⟩ (.bool b4)).setCell ⟨w1.heap.size, 3, none⟩ (.bool b8)).setCell ⟨w1.heap.size, 4, none⟩ (.int .i64 q16) = X := ⟨_, rfl⟩
      have hLX : Blk X w1.heap.size (sbA ⟨f, q3, b4, b8, q16⟩) 84 := by rw [← hX]; exact (((hL3.set 1 _).set 2 _).set 3 _).set 4 _
      have hRX : Blk X R (rdrA s tu) 110 := by rw [← hX]; exact (((hB3.other (by omega) 1 _).other (by omega) 2 _).other (by omega) 3 _).other (by omega) 4 _
      have h0X : Blk X w.heap.size (sbA zSb) 84 := by rw [← hX]; exact (((h03.other (by omega) 1 _).other (by omega) 2 _).other (by omega) 3 _).other (by omega) 4 _
      have hmX : Mod (· = R) w X := by rw [← hX]; exact (((hm3'.setCell (p := ⟨w1.heap.size, 1, none⟩) (.inr (by show w.heap.size ≤ w1.heap.size; omega)) _).setCell (p := ⟨w1.heap.size, 2, none⟩) (.inr (by show w.heap.size ≤ w1.heap.size; omega)) _).setCell (p := ⟨w1.heap.size, 3, none⟩) (.inr (by show w.heap.size ≤ w1.heap.size; omega)) _).setCell (p := ⟨w1.heap.size, 4, none⟩) (.inr (by show w.heap.size ≤ w1.heap.size; omega)) _
      have HLX := Lib.hid hLX
      have HRX := Lib.hid hRX
      have H0X := Lib.hid h0X
      have HMX := Lib.hid hmX
      have hx0 := hLX.cell 0
      have hx1 : X.cell? ⟨w1.heap.size, 1, none⟩ = some (.int .i64 q3) := hLX.cell 1
      have hx4 : X.cell? ⟨w1.heap.size, 4, none⟩ = some (.int .i64 q16) := hLX.cell 4
      have y1 : w3.cell? ⟨w1.heap.size, 1, none⟩ = some (.int .i64 0) := hL3.cell 1
      have y2 : w3.cell? ⟨w1.heap.size, 2, none⟩ = some (.bool false) := hL3.cell 2
      have y3 : w3.cell? ⟨w1.heap.size, 3, none⟩ = some (.bool false) := hL3.cell 3
      have y4 : w3.cell? ⟨w1.heap.size, 4, none⟩ = some (.int .i64 0) := hL3.cell 4
      have z1 := hL3.frozen 1
      have z2 := hL3.frozen 2
      have z3 := hL3.frozen 3
      have z4 := hL3.frozen 4
      obtain ⟨n0, n1⟩ := hn
      have HSO := Lib.hid hso
      have HQ3 := Lib.hid hq3
      have HQ16 := Lib.hid hq16
      have HBB := Lib.hid hb
      clear hLX hRX h0X hmX hx0 hB3 hm3 hm3' hL3 h03 hso hq3 hq16 hb4 hb8 CN CT HMZ HB01Z hb HBL HBZ HZ HT0
      have key : bindR (Except.ok (n, tu)) (fun n a => if ¬ (n % 4 < 3 ∧ n < 64) then (Except.error 129 : RR Sb) else if n / 16 % 4 = 3 then .error 130 else .ok (sbOf f n, a)) = if ¬ (q3 < 3 ∧ n < 64) then (Except.error 129 : RR Sb) else if q16 = 3 then .error 130 else .ok (⟨f, q3, b4, b8, q16⟩, tu) := by
        show (if ¬ (n % 4 < 3 ∧ n < 64) then (Except.error 129 : RR Sb) else if n / 16 % 4 = 3 then .error 130 else .ok (sbOf f n, tu)) = _
        rw [HQ3.out, HQ16.out, HSO.out]
      have KEY := Lib.hid key
      clear key
      by_cases hg : q3 < 3 ∧ n < 64
      · obtain ⟨g1, g2⟩ := hg
        by_cases hg3 : q16 = 3
        · subst hg3
          go_wp2_with (first | (go_at_call 34; (with_reducible refine (must_true _).mono ?_); rintro e w2 ⟨rfl, rfl⟩) | (fail))
          (with_reducible refine (fail_any _ _).mono ?_)
          rintro e w4 ⟨rfl, rfl⟩
          refine ⟨rfl, ?_⟩
          rw [KEY.out, if_neg (by simp [g1, g2]), if_pos trivial]
          exact ⟨rfl, HMX.out⟩
        · have hg4 : (q16 == 3) = false := by rw [beq_eq_false_iff_ne]; exact hg3
          go_wp2_with (first | (go_at_call 34; (with_reducible refine (must_true _).mono ?_); rintro e w2 ⟨rfl, rfl⟩) | (refine wpList_load_row rfl 84 (.tmp 3) rfl w1.heap.size rfl 84 (sbA ⟨f, q3, b4, b8, q16⟩) (0, 0) _ HLX.out Tryd.underlying84 rfl sbi_size ?_) | (refine Go.wpList_store_rowTo rfl 84 (.tmp 2) (.tmp 37) rfl rfl w.heap.size (sbA ⟨f, q3, b4, b8, q16⟩) rfl rfl 84 (sbA zSb) H0X.out sbi_size rfl (sb_one _) ?_) | (fail))
          refine bodyPost_ret (v := .agg (sbA ⟨f, q3, b4, b8, q16⟩)) (results_cell_row (p := 2) (ty := 84) (by kernel_rfl) _ _ w.heap.size 84 _ (0, 0) _ rfl (H0X.out.row0 _) Tryd.underlying84 rfl sbi_size) rfl ?_
          rw [KEY.out, if_neg (by simp [g1, g2]), if_neg hg3]
          exact ⟨_, rfl, rfl, HRX.out.row1 (by omega) _, HMX.out.setRow (.inr (Nat.le_refl _)) _⟩
      · by_cases g1 : q3 < 3
        · have g2 : decide (n < 64) = false := decide_eq_false fun c => hg ⟨g1, c⟩
          go_wp2_with (first | (go_at_call 34; (with_reducible refine (must_false _).mono ?_); rintro e w2 ⟨rfl, rfl⟩) | (fail))
          refine ⟨rfl, ?_⟩
          rw [KEY.out, if_pos hg]
          exact ⟨rfl, HMX.out⟩
        · go_wp2_with (first | (go_at_call 34; (with_reducible refine (must_false _).mono ?_); rintro e w2 ⟨rfl, rfl⟩) | (fail))
          refine ⟨rfl, ?_⟩
          rw [KEY.out, if_pos hg]
          exact ⟨rfl, HMX.out⟩
end Go.Proofs.YtedapgeabpadaaaDoor

/- A packet that is being read: what stands in memory; end. -/
set_option linter.unusedVariables false
namespace Go.Proofs.YtedapgeabpadaaaDoor
open Go.RowKit Pl Go.Shelf Go.PlainAid

def sbF (L : List Sb) : List Value := L.flatMap fun x => (sbA x).toList
/-- A packet's lists, in memory of their own. -/
structure PkO (B : Nat) (w : World) (p : Pk) (m : Hs) : Prop where
  ps : Sl B w 123 4 m.p.v p.ps.length (flat p.ps)
  wps : Sl B w 123 4 m.w.v p.wps.length (flat p.wps)
  cs : Sl B w 30 1 m.c.v p.codes.length (p.codes.map (Value.int .u8))
  ss : Sl B w 84 5 m.s.v p.subs.length (sbF p.subs)
  fs : Sl B w 9 1 m.f.v p.filters.length (p.filters.map Value.string)
theorem PkO.same {B : Nat} {w w' : World} {p : Pk} {m : Hs} (h : PkO B w p m) (hk : ∀ (e : TypeId) (size : Nat) v n xs, Sl B w e size v n xs → (e = 123 ∨ e = 30 ∨ e = 84 ∨ e = 9) → Sl B w' e size v n xs) : PkO B w' p m :=
  ⟨hk _ _ _ _ _ h.ps (.inl rfl), hk _ _ _ _ _ h.wps (.inl rfl), hk _ _ _ _ _ h.cs (.inr (.inl rfl)), hk _ _ _ _ _ h.ss (.inr (.inr (.inl rfl))), hk _ _ _ _ _ h.fs (.inr (.inr (.inr rfl)))⟩
theorem Sl.mono' {B B' n size : Nat} {w : World} {e : TypeId} {v : Value} {xs : List Value} (h : Sl B w e size v n xs) (hB : B' ≤ B) : Sl B' w e size v n xs := by
  refine ⟨h.1, ?_⟩
  rcases h.2 with c | ⟨g, o, cap, cur, h1, h2, r⟩
  · exact .inl c
  · exact .inr ⟨g, o, cap, cur, h1, by omega, r⟩
theorem Sl.one_mod {B n size R : Nat} {w w' : World} {e T : TypeId} {v : Value} {xs : List Value} {cs : Array Value} (h : Sl B w e size v n xs) (hb : Blk w R cs T) (hT : T ≠ e) (m : Mod (· = R) w w') : Sl B w' e size v n xs :=
  h.same fun k hk => m.block k (h.lt k hk).2 fun c => h.ne hb hT (by rw [hk, c])
/-- The reader R (bytes s, place a) and the packet P (p, its lists m), in a world that has come of w. -/
structure St (w : World) (R P : Nat) (s : ByteArray) (a : Int) (p : Pk) (m : Hs) (X : World) : Prop where
  rB : Blk X R (rdrA s a) 110
  pB : Blk X P (pkA .u8 p m) 45
  o : PkO w.heap.size X p m
  md : Mod (fun k => k = R ∨ k = P) w X
  tb : Tabs X
  lR : R < w.heap.size
  lP : P < w.heap.size
  ne : R ≠ P
  nR : NoTab R
  nP : NoTab P
  a0 : 0 ≤ a
  a1 : a ≤ s.size
  sz : s.size ≤ 140737488351232
section
variable {w : World} {R P : Nat} {s : ByteArray} {a : Int} {p : Pk} {m : Hs} {X : World}
theorem St.read (h : St w R P s a p m X) {b : Int} {Y : World} (hb : Blk Y R (rdrA s b) 110) (hm : Mod (· = R) X Y) (ha : a ≤ b ∧ b ≤ s.size ∧ 0 ≤ a) : St w R P s b p m Y :=
  ⟨hb, (hm.block P h.pB.lt (fun c => h.ne c.symm)).trans h.pB,
    h.o.same (fun e size v n xs hs he => hs.one_mod h.rB (by rcases he with rfl | rfl | rfl | rfl <;> decide) hm),
    h.md.trans (hm.weaken (fun k _ c => .inl c)), tabs_mod h.tb hm h.nR, h.lR, h.lP, h.ne, h.nR, h.nP, by have := h.a0; omega, ha.2.1, h.sz⟩
theorem St.set (h : St w R P s a p m X) (i : Nat) (v : Value) (p' : Pk) (m' : Hs) (e : (pkA .u8 p m).setIfInBounds i v = pkA .u8 p' m') (ho : PkO w.heap.size X p' m') : St w R P s a p' m' (X.setCell ⟨P, i, none⟩ v) :=
  ⟨h.rB.other h.ne i v, by rw [← e]; exact h.pB.set i v,
    ho.same (fun e size u n xs hs he => hs.set i v (hs.ne h.pB (by rcases he with rfl | rfl | rfl | rfl <;> decide))),
    h.md.setCell (.inl (.inr rfl)) v, tabs_set h.tb h.nP v, h.lR, h.lP, h.ne, h.nR, h.nP, h.a0, h.a1, h.sz⟩
theorem St.drew (h : St w R P s a p m X) (n : Nat) : St w R P s a p m (X.drewN n) :=
  ⟨h.rB, h.pB, ⟨h.o.ps, h.o.wps, h.o.cs, h.o.ss, h.o.fs⟩, ⟨h.md.os, h.md.tape, h.md.output, h.md.size, h.md.block⟩, h.tb.below ⟨rfl, rfl, rfl, Nat.le_refl _, fun _ _ => rfl⟩, h.lR, h.lP, h.ne, h.nR, h.nP, h.a0, h.a1, h.sz⟩
theorem St.heap (h : St w R P s a p m X) {Y : World} (b : Below X.heap.size X Y) : St w R P s a p m Y :=
  ⟨h.rB.of_below b, h.pB.of_below b, h.o.same (fun e size v n xs hs he => hs.below b), h.md.add b, h.tb.below b, h.lR, h.lP, h.ne, h.nR, h.nP, h.a0, h.a1, h.sz⟩
/-- What is left where a code leaves it. -/
def Gone (w : World) (R P : Nat) (Y : World) : Prop := Mod (fun k => k = R ∨ k = P) w Y ∧ ∃ p m, Blk Y P (pkA .u8 p m) 45
theorem St.gone (h : St w R P s a p m X) : Gone w R P X := ⟨h.md, p, m, h.pB⟩
theorem St.goneR (h : St w R P s a p m X) {Y : World} (hm : Mod (· = R) X Y) : Gone w R P Y :=
  ⟨h.md.trans (hm.weaken (fun k _ c => .inl c)), p, m, (hm.block P h.pB.lt (fun c => h.ne c.symm)).trans h.pB⟩
end
/-- What a method that reads into a packet leaves. -/
def PkPost' (w : World) (R P : Nat) (s : ByteArray) (r : RR Pk) (e : Ending) (Y : World) : Prop :=
  match r with
  | .ok (p, a) => e = .returned (.tuple #[]) ∧ ∃ m, St w R P s a p m Y
  | .error c => e = .panicked (flt_ c) ∧ Gone w R P Y
theorem getP_at {s : ByteArray} {a : Int} (h : (getP s a).2.2 = 0) : a ≤ (getP s a).2.1 ∧ (getP s a).2.1 ≤ s.size := by
  unfold getP at h ⊢
  by_cases h1 : (getV s a).2.2 ≠ 0
  · rw [if_pos h1] at h; exact absurd h h1
  · rw [if_neg h1] at h ⊢
    by_cases h2 : (s.size : Int) - (getV s a).2.1 < (getV s a).1
    · rw [if_pos h2] at h; simp at h
    · rw [if_neg h2] at h ⊢
      obtain ⟨r, hr⟩ : ∃ r, pgs (s.extract (getV s a).2.1.toNat ((getV s a).2.1.toNat + (getV s a).1.toNat)) 66 [] 0 = r := ⟨_, rfl⟩
      rw [hr] at h ⊢
      by_cases h3 : r.2 ≠ 0
      · simp only at h; rw [if_pos h3] at h; exact absurd h h3
      · simp only
        rw [if_neg h3]
        have hc : (getV s a).2.2 = 0 := Classical.byContradiction h1
        obtain ⟨i, j, hi, hj, hij, hjs, _, hn0, hn1⟩ := getV_to (s := s) (a := a) (n := (getV s a).1) (tu := (getV s a).2.1) (Prod.ext rfl (Prod.ext rfl hc))
        simp only
        omega
theorem rProps_at {k : Int} {s : ByteArray} {a b : Int} {L : List Pp} (h : rProps k s a = .ok (L, b)) (ha : 0 ≤ a) : a ≤ b ∧ b ≤ s.size ∧ 0 ≤ a := by
  unfold rProps at h
  by_cases h1 : (getP s a).2.2 = 242
  · rw [if_pos h1] at h; cases h
  · rw [if_neg h1] at h
    by_cases h2 : (getP s a).2.2 ≠ 0
    · rw [if_pos h2] at h; cases h
    · rw [if_neg h2] at h
      by_cases h3 : okAll k (getP s a).1 = false
      · rw [if_pos h3] at h; cases h
      · rw [if_neg h3] at h
        cases h
        have := getP_at (s := s) (a := a) (Classical.byContradiction h2)
        exact ⟨this.1, this.2, ha⟩
theorem rId_at {s : ByteArray} {a n b : Int} (h : rId s a = .ok (n, b)) : a ≤ b ∧ b ≤ s.size ∧ 0 ≤ a := by
  unfold rId at h
  obtain ⟨r, hr⟩ : ∃ r, rNum s 2 a = r := ⟨_, rfl⟩
  rw [hr] at h
  cases r with
  | error c => cases h
  | ok v =>
    obtain ⟨x, y⟩ := v
    simp only [bindR] at h
    split at h
    · cases h
    · cases h; exact rNum_at hr
end Go.Proofs.YtedapgeabpadaaaDoor

/- A packet's reader walked: end. -/
set_option linter.unusedVariables false
namespace Go.Proofs.YtedapgeabpadaaaDoor
open Go.RowKit Pl Go.Shelf Go.PlainAid

theorem bR_ok {α β : Type} {v : α} {a : Int} {k : α → Int → RR β} : bindR (.ok (v, a)) k = k v a := rfl
theorem bR_err {α β : Type} {c : Int} {k : α → Int → RR β} : bindR (.error c) k = .error c := rfl

set_option maxHeartbeats 8000000 in
set_option maxRecDepth 100000 in
theorem rend_any {w : World} {R P : Nat} {s : ByteArray} {a : Int} {p : Pk} {m : Hs} {X : World} (h : St w R P s a p m X) :
    Calls Tryd.prog 55 #[.pointer (some ⟨R, 0, none⟩), .pointer (some ⟨P, 0, none⟩)] X (PkPost' w R P s (rEnd s p a)) := by
  have H0 := Lib.hid h
  obtain ⟨RES, hres⟩ : ∃ RES, rEnd s p a = RES := ⟨_, rfl⟩
  rw [hres]
  unfold rEnd at hres
  have HK0 := Lib.hid hres
  clear h hres
  go_enter Tryd.func55, Tryd.ntmps55
  have CL1 := Lib.hid (left_any R s a X H0.out.rB)
  go_wp2_with fail
  (with_reducible refine CL1.out.mono ?_)
  rintro e Y1 ⟨rfl, hb1, hh1⟩
  have HL1 := Lib.hid (H0.out.heap hb1)
  clear hb1 hh1 CL1 
  by_cases hl1 : a < (s.size : Int)
  · have hd1 : decide (a < (s.size : Int)) = true := by simp [hl1]
    rw [hd1]
    have hk1 := HK0.out
    rw [if_pos hl1] at hk1
    have HKY1 := Lib.hid hk1; clear hk1
    obtain ⟨r2, e2⟩ : ∃ r, rNum s 1 a = r := ⟨_, rfl⟩
    have C2 := Lib.hid (rnum_any R s a 1 Y1 HL1.out.rB HL1.out.sz HL1.out.a0 HL1.out.a1)
    rw [e2] at C2
    have hk2 := HKY1.out
    rw [e2] at hk2
    have EE2 := Lib.hid e2
    clear e2
    have HKK2 := Lib.hid hk2; clear hk2
    go_wp2_with (first | (fail))
    (with_reducible refine C2.out.mono ?_)
    cases r2 with
    | error c =>
      rintro e Y2 ⟨rfl, hm2⟩
      refine ⟨rfl, ?_⟩
      have hk := HKK2.out
      simp only [bR_err] at hk
      rw [← hk]
      exact ⟨rfl, HL1.out.goneR hm2⟩
    | ok v2 =>
      obtain ⟨x2, b2⟩ := v2
      rintro e Y2 ⟨u2, rfl, rfl, hb2, hm2⟩
      have HH2 := Lib.hid (HL1.out.read hb2 hm2 (rNum_at EE2.out))
      have hk2 := HKK2.out
      simp only [bR_ok] at hk2
      have HK2 := Lib.hid hk2
      clear hb2 hm2 hk2 C2 HKK2 
      have hby := rNum_byte EE2.out
      have hw2 : x2 % 256 = x2 := by omega
      have c3 : Y2.cell? ⟨P, 7, none⟩ = some (.int .u8 (p.code)) := HH2.out.pB.cell 7
      have f3 := HH2.out.pB.frozen 7
      obtain ⟨q3, eq3⟩ : ∃ q : Pk, { p with code := x2 } = q := ⟨_, rfl⟩
      obtain ⟨Z3, z3⟩ : ∃ Z, Y2.setCell ⟨P, 7, none⟩ (.int .u8 (x2)) = Z := ⟨_, rfl⟩
      have hh3 := HH2.out.set 7 (.int .u8 (x2)) ({ p with code := x2 }) (m) rfl ⟨HH2.out.o.ps, HH2.out.o.wps, HH2.out.o.cs, HH2.out.o.ss, HH2.out.o.fs⟩
      rw [z3, eq3] at hh3
      have HH3 := Lib.hid hh3
      have EQ3 := Lib.hid eq3
      clear hh3 eq3
      have hk4 := HK2.out
      rw [show ({ p with code := x2 } : Pk) = q3 from by rw [← EQ3.out]] at hk4
      have HK4 := Lib.hid hk4
      clear hk4
      have hkp := HK4.out
      unfold rEndP at hkp
      have HKP5 := Lib.hid hkp; clear hkp
      have CL6 := Lib.hid (left_any R s b2 Z3 HH3.out.rB)
      go_wp2_with fail
      (with_reducible refine CL6.out.mono ?_)
      rintro e Y6 ⟨rfl, hb6, hh6⟩
      have HL6 := Lib.hid (HH3.out.heap hb6)
      clear hb6 hh6 CL6 c3 f3 z3
      by_cases hl6 : b2 < (s.size : Int)
      · have hd6 : decide (b2 < (s.size : Int)) = true := by simp [hl6]
        rw [hd6]
        have hk6 := HKP5.out
        rw [if_pos hl6] at hk6
        have HKY6 := Lib.hid hk6; clear hk6
        have l7 : Y6.cell? ⟨P, 0, none⟩ = some (.int .i64 (q3.kind)) := HL6.out.pB.cell 0
        obtain ⟨r8, e8⟩ : ∃ r, rProps q3.kind s b2 = r := ⟨_, rfl⟩
        have C8 := Lib.hid (rprops_any R s b2 q3.kind Y6 HL6.out.rB HL6.out.sz HL6.out.a0 HL6.out.a1 HL6.out.tb)
        rw [e8] at C8
        have hk8 := HKY6.out
        rw [e8] at hk8
        have EE8 := Lib.hid e8
        clear e8
        have HKK8 := Lib.hid hk8; clear hk8
        go_wp2_with (first | (fail))
        (with_reducible refine C8.out.mono ?_)
        cases r8 with
        | error c =>
          rintro e Y8 ⟨rfl, hm8⟩
          refine ⟨rfl, ?_⟩
          have hk := HKK8.out
          simp only [bR_err] at hk
          rw [← hk]
          exact ⟨rfl, HL6.out.goneR hm8⟩
        | ok v8 =>
          obtain ⟨x8, b8⟩ := v8
          rintro e Y8 ⟨u8, rfl, hps8, hb8, hm8⟩
          have HH8 := Lib.hid (HL6.out.read hb8 hm8 (rProps_at EE8.out HL6.out.a0))
          have hk8 := HKK8.out
          simp only [bR_ok] at hk8
          have HK8 := Lib.hid hk8
          obtain ⟨ao8, cp8, rfl, -⟩ := hps8.form
          have HS8 := Lib.hid (hps8.mono' HL6.out.md.size)
          clear hps8
          clear hb8 hm8 hk8 C8 HKK8 l7
          have c9 : Y8.cell? ⟨P, 9, none⟩ = some (.slice m.p.A m.p.n m.p.cap) := HH8.out.pB.cell 9
          have f9 := HH8.out.pB.frozen 9
          obtain ⟨q9, eq9⟩ : ∃ q : Pk, { q3 with ps := x8 } = q := ⟨_, rfl⟩
          obtain ⟨Z9, z9⟩ : ∃ Z, Y8.setCell ⟨P, 9, none⟩ (.slice ao8 x8.length cp8) = Z := ⟨_, rfl⟩
          have hh9 := HH8.out.set 9 (.slice ao8 x8.length cp8) ({ q3 with ps := x8 }) ({ m with p := ⟨ao8, x8.length, cp8⟩ }) rfl ⟨HS8.out, HH8.out.o.wps, HH8.out.o.cs, HH8.out.o.ss, HH8.out.o.fs⟩
          obtain ⟨M9, em9⟩ : ∃ M : Hs, { m with p := ⟨ao8, x8.length, cp8⟩ } = M := ⟨_, rfl⟩
          rw [z9, eq9, em9] at hh9
          clear em9
          have HH9 := Lib.hid hh9
          have EQ9 := Lib.hid eq9
          clear hh9 eq9
          have hk10 := HK8.out
          rw [show ({ q3 with ps := x8 } : Pk) = q9 from by rw [← EQ9.out]] at hk10
          have HK10 := Lib.hid hk10
          clear hk10
          go_wp2
          go_end0
          have hk := HK10.out
          rw [← hk]
          exact ⟨rfl, _, HH9.out⟩
      · have hd6 : decide (b2 < (s.size : Int)) = false := by simp [hl6]
        rw [hd6]
        have hk6 := HKP5.out
        rw [if_neg hl6] at hk6
        have HKY6 := Lib.hid hk6; clear hk6
        go_wp2
        go_end0
        have hk := HKY6.out
        rw [← hk]
        exact ⟨rfl, _, HL6.out⟩
  · have hd1 : decide (a < (s.size : Int)) = false := by simp [hl1]
    rw [hd1]
    have hk1 := HK0.out
    rw [if_neg hl1] at hk1
    have HKY1 := Lib.hid hk1; clear hk1
    have hkp := HKY1.out
    unfold rEndP at hkp
    have HKP11 := Lib.hid hkp; clear hkp
    have CL12 := Lib.hid (left_any R s a Y1 HL1.out.rB)
    go_wp2_with fail
    (with_reducible refine CL12.out.mono ?_)
    rintro e Y12 ⟨rfl, hb12, hh12⟩
    have HL12 := Lib.hid (HL1.out.heap hb12)
    clear hb12 hh12 CL12 
    by_cases hl12 : a < (s.size : Int)
    · have hd12 : decide (a < (s.size : Int)) = true := by simp [hl12]
      rw [hd12]
      have hk12 := HKP11.out
      exact absurd hl12 (Int.not_lt.2 hl1)
    · have hd12 : decide (a < (s.size : Int)) = false := by simp [hl12]
      rw [hd12]
      have hk12 := HKP11.out
      rw [if_neg hl12] at hk12
      have HKY12 := Lib.hid hk12; clear hk12
      go_wp2
      go_end0
      have hk := HKY12.out
      rw [← hk]
      exact ⟨rfl, _, HL12.out⟩
end Go.Proofs.YtedapgeabpadaaaDoor
