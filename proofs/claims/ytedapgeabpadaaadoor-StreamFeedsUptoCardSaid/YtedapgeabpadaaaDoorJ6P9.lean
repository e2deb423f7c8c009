/- Parts of the proof, joined: Gw11, Gw12, Gw13, Gw14, Gw15, HasPlain. -/
import Derived.Test.YtedapgeabpadaaaDoorJ6P8
import Derived.Test.YtedapgeabpadaaaDoorJ6P2
import Derived.Laws.CopyOwn
import Derived.Great.BuildSlice
import Derived.Defers
import Derived.Recover
import Derived.Laws.Pointers
import Derived.Test.YtedapgeabpadaaaDoorJ6P4
set_option linter.unusedVariables false
namespace Go.Proofs.YtedapgeabpadaaaDoor
open Go.RowKit Pl Go.Shelf Go.PlainAid

def zHd : Hd := ⟨none, 0, 0⟩
def zHs : Hs := ⟨zHd, zHd, zHd, zHd, zHd⟩
theorem zpk_eq : pkA .u8 zPk zHs = #[.int .i64 0, .bool false, .bool false, .int .i64 0, .int .i64 0, .string ⟨#[]⟩, .string ⟨#[]⟩, .int .u8 0, .slice none 0 0, .slice none 0 0, .string ⟨#[]⟩, .bool false, .int .i64 0, .bool false, .string ⟨#[]⟩, .string ⟨#[]⟩, .int .i64 0, .bool false, .slice none 0 0, .bool false, .bool false, .string ⟨#[]⟩, .string ⟨#[]⟩, .bool false, .slice none 0 0, .slice none 0 0] := rfl
theorem gpk_size : (Tryd.prog.info? 45).map (·.size) = some 26 := by kernel_rfl
theorem pkA_one (p : Pk) (m : Hs) : (pkA .u8 p m).all (·.oneCell') = true := by simp [pkA]; simp [Value.oneCell']
def HdPost (w : World) (o : Option Pk) (e : Ending) (w' : World) : Prop := match o with
  | none => e = .panicked (flt_ 129) ∧ Below w.heap.size w w'
  | some p => e = .returned (.agg (pkA .u8 p zHs)) ∧ Below w.heap.size w w'
/-- The two variables of head. -/
theorem head_worlds (w : World) (k : Int) (W0 W1 Z : World) (h0 : w.alloc (.cells (pkA .u8 zPk zHs) 45) = W0) (h1 : W0.alloc (.cells (pkA .u8 zPk zHs) 45) = W1) (h2 : W1.setRow (w.heap.size + 1) (pkA .u8 { zPk with kind := k } zHs) = Z) :
    Blk W1 (w.heap.size + 1) (pkA .u8 zPk zHs) 45 ∧ Blk Z (w.heap.size + 1) (pkA .u8 { zPk with kind := k } zHs) 45 ∧ Blk Z w.heap.size (pkA .u8 zPk zHs) 45 ∧ Below w.heap.size w Z ∧ W0.heap.size = w.heap.size + 1 := by
  have b0 := blkAt w (pkA .u8 zPk zHs) 45 rfl
  have s0 : W0.heap.size = w.heap.size + 1 := by rw [← h0]; simp
  rw [h0] at b0
  have b0' := b0.alloc (.cells (pkA .u8 zPk zHs) 45)
  have b1 := blkAt W0 (pkA .u8 zPk zHs) 45 s0.symm
  have bel : Below w.heap.size w _ := ((Below.refl _ _).alloc (Nat.le_refl _) (.cells (pkA .u8 zPk zHs) 45))
  rw [h0] at bel
  have bel1 := bel.alloc (by omega) (.cells (pkA .u8 zPk zHs) 45)
  rw [h1] at b0' b1 bel1
  rw [← h2]
  exact ⟨b1, b1.row0 _, b0'.row1 (by omega) _, below_setRow bel1 (by omega) _, s0⟩
set_option maxHeartbeats 8000000 in
set_option maxRecDepth 100000 in
theorem head_any (b : Int) (w : World) (h0 : 0 ≤ b) (h1 : b < 256) : Calls Tryd.prog 33 #[.int .i64 b] w (HdPost w (hdO b)) := by
  have e15 := nb_15 h0 h1
  have e8 : (bits .and .i64 b 8 != 0) = decide (b / 8 % 2 = 1) := nz_dec (nb_8 h0 h1) (by omega)
  have e1 : (bits .and .i64 b 1 != 0) = decide (b % 2 = 1) := nz_dec (nb_1 h0 h1) (by omega)
  have e3 : bits .and .i64 (b / 2) 3 = b / 2 % 4 := nb_3 (by omega) (by omega)
  unfold hdO
  obtain ⟨k, hk⟩ : ∃ k, b / 16 = k := ⟨_, rfl⟩
  obtain ⟨f, hf⟩ : ∃ f, b % 16 = f := ⟨_, rfl⟩
  obtain ⟨q, hq⟩ : ∃ q, b / 2 % 4 = q := ⟨_, rfl⟩
  obtain ⟨d, hd⟩ : ∃ d : Bool, decide (b / 8 % 2 = 1) = d := ⟨_, rfl⟩
  obtain ⟨r, hr⟩ : ∃ r : Bool, decide (b % 2 = 1) = r := ⟨_, rfl⟩
  have hd0 : (b / 8 % 2 = 0) ↔ d = false := by rw [← hd, decide_eq_false_iff_not]; omega
  rw [hf] at e15
  rw [hq] at e3
  rw [hd] at e8
  rw [hr] at e1
  rw [hk, hf, hq, hd, hr]
  have HQ0 := Lib.hid (show 0 ≤ q ∧ q < 4 from by omega)
  have HD0 := Lib.hid hd0
  clear hf hq hd hr hd0
  obtain ⟨W0, hW0⟩ : ∃ W, w.alloc (.cells (pkA .u8 zPk zHs) 45) = W := ⟨_, rfl⟩
  obtain ⟨W1, hW1⟩ : ∃ W, W0.alloc (.cells (pkA .u8 zPk zHs) 45) = W := ⟨_, rfl⟩
  obtain ⟨Z, hZ⟩ : ∃ Z, W1.setRow (w.heap.size + 1) (pkA .u8 { zPk with kind := k } zHs) = Z := ⟨_, rfl⟩
  obtain ⟨B1, BZ, B0, bel, s0⟩ := head_worlds w k W0 W1 Z hW0 hW1 hZ
  have HB1 := Lib.hid B1; have HBZ := Lib.hid BZ; have HB0 := Lib.hid B0; have HBL := Lib.hid bel; have HZ := Lib.hid hZ
  rw [zpk_eq] at hW0 hW1
  have z0 : Z.cell? ⟨w.heap.size + 1, 0, none⟩ = some (.int .i64 k) := BZ.cell 0
  clear B1 BZ B0 bel hZ
  have CF : ∀ w, Calls Tryd.prog 22 #[.int .i64 k] w fun e w' => e = .returned (.int .i64 (kFlags k)) ∧ w = w' := fun w => kflags_any k w
  have CF := Lib.hid CF
  by_cases hk0 : k = 0
  · rw [if_pos hk0]
    have hk0b : (k != 0) = false := by simp [hk0]
    clear hk0
    go_enter Tryd.func33, Tryd.ntmps33
    go_wp2_with (first | (refine wpList_buildTo rfl 45 _ rfl (some 6) rfl (pkA .u8 { zPk with kind := k } zHs) (by kernel_rfl) ?_) | (refine wpList_store_rowN rfl 45 (.tmp 3) (.tmp 6) rfl rfl (w.heap.size + 1) (pkA .u8 { zPk with kind := k } zHs) rfl rfl 45 (pkA .u8 zPk zHs) HB1.out gpk_size rfl (pkA_one _ _) Z HZ.out ?_) | (go_at_call 34; (with_reducible refine (must_false _).mono ?_); rintro e YM ⟨rfl, rfl⟩) | (fail))
    exact ⟨rfl, rfl, HBL.out⟩
  · rw [if_neg hk0]
    have hk0b : (k != 0) = true := by simp [hk0]
    by_cases hk3 : k = 3
    · rw [if_pos hk3]
      have hk3b : (k != 3) = false := by simp [hk3]
      have hpk : ({ zPk with kind := 3, dup := d, q := q, ret := r } : Pk) = { zPk with kind := k, dup := d, q := q, ret := r } := by rw [hk3]
      rw [hpk]
      clear hpk hk3 hk0
      have z1 : Z.cell? ⟨w.heap.size + 1, 1, none⟩ = some (.bool false) := HBZ.out.cell 1
      have z2 : Z.cell? ⟨w.heap.size + 1, 2, none⟩ = some (.bool false) := HBZ.out.cell 2
      have z3 : Z.cell? ⟨w.heap.size + 1, 3, none⟩ = some (.int .i64 0) := HBZ.out.cell 3
      have zf1 := HBZ.out.frozen 1
      have zf2 := HBZ.out.frozen 2
      have zf3 := HBZ.out.frozen 3
      have hX := ((HBZ.out.set 1 (.bool d)).set 3 (.int .i64 q)).set 2 (.bool r)
      have h0X := ((HB0.out.other (R' := w.heap.size + 1) (by omega) 1 (.bool d)).other (R' := w.heap.size + 1) (by omega) 3 (.int .i64 q)).other (R' := w.heap.size + 1) (by omega) 2 (.bool r)
      have hbX := ((HBL.out.setCell (p := ⟨w.heap.size + 1, 1, none⟩) (by show w.heap.size ≤ w.heap.size + 1; omega) (.bool d)).setCell (p := ⟨w.heap.size + 1, 3, none⟩) (by show w.heap.size ≤ w.heap.size + 1; omega) (.int .i64 q)).setCell (p := ⟨w.heap.size + 1, 2, none⟩) (by show w.heap.size ≤ w.heap.size + 1; omega) (.bool r)
      obtain ⟨X, hXX⟩ : ∃ X, ((Z.setCell ⟨w.heap.size + 1, 1, none⟩ (.bool d)).setCell ⟨w.heap.size + 1, 3, none⟩ (.int .i64 q)).setCell ⟨w.heap.size + 1, 2, none⟩ (.bool r) = X := ⟨_, rfl⟩
      rw [hXX] at hX h0X hbX
      have x1 : X.cell? ⟨w.heap.size + 1, 1, none⟩ = some (.bool d) := hX.cell 1
      have x3 : X.cell? ⟨w.heap.size + 1, 3, none⟩ = some (.int .i64 q) := hX.cell 3
      have HX := Lib.hid (show Blk X (w.heap.size + 1) (pkA .u8 { zPk with kind := k, dup := d, q := q, ret := r } zHs) 45 from hX)
      have H0X := Lib.hid h0X; have HBX := Lib.hid hbX
      clear hX h0X hbX
      by_cases hq3 : q < 3
      · cases d with
        | false =>
          have hc : q < 3 ∧ (b / 8 % 2 = 0 ∨ 0 < q) := ⟨hq3, .inl (HD0.out.2 rfl)⟩
          rw [if_pos hc]
          go_enter Tryd.func33, Tryd.ntmps33
          go_wp2_with (first | (refine wpList_buildTo rfl 45 _ rfl (some 6) rfl (pkA .u8 { zPk with kind := k } zHs) (by kernel_rfl) ?_) | (refine wpList_store_rowN rfl 45 (.tmp 3) (.tmp 6) rfl rfl (w.heap.size + 1) (pkA .u8 { zPk with kind := k } zHs) rfl rfl 45 (pkA .u8 zPk zHs) HB1.out gpk_size rfl (pkA_one _ _) Z HZ.out ?_) | (go_at_call 34; (with_reducible refine (must_true _).mono ?_); rintro e YM ⟨rfl, rfl⟩) | (refine wpList_load_row rfl 45 (.tmp 3) rfl (w.heap.size + 1) rfl 45 (pkA .u8 { zPk with kind := k, dup := false, q := q, ret := r } zHs) (0, 0) _ HX.out Tryd.underlying45 rfl gpk_size ?_) | (refine Go.wpList_store_rowTo rfl 45 (.tmp 2) (.tmp 48) rfl rfl w.heap.size (pkA .u8 { zPk with kind := k, dup := false, q := q, ret := r } zHs) rfl rfl 45 (pkA .u8 zPk zHs) H0X.out gpk_size rfl (pkA_one _ _) ?_) | (fail))
          refine bodyPost_ret (v := .agg (pkA .u8 { zPk with kind := k, dup := false, q := q, ret := r } zHs)) (results_cell_row (p := 2) (ty := 45) (by kernel_rfl) _ _ w.heap.size 45 _ (0, 0) _ rfl (H0X.out.row0 _) Tryd.underlying45 rfl gpk_size) rfl ?_
          exact ⟨rfl, below_setRow HBX.out (Nat.le_refl _) _⟩
        | true =>
          by_cases hq1 : 0 < q
          · rw [if_pos ⟨hq3, .inr hq1⟩]
            go_enter Tryd.func33, Tryd.ntmps33
            go_wp2_with (first | (refine wpList_buildTo rfl 45 _ rfl (some 6) rfl (pkA .u8 { zPk with kind := k } zHs) (by kernel_rfl) ?_) | (refine wpList_store_rowN rfl 45 (.tmp 3) (.tmp 6) rfl rfl (w.heap.size + 1) (pkA .u8 { zPk with kind := k } zHs) rfl rfl 45 (pkA .u8 zPk zHs) HB1.out gpk_size rfl (pkA_one _ _) Z HZ.out ?_) | (go_at_call 34; (with_reducible refine (must_true _).mono ?_); rintro e YM ⟨rfl, rfl⟩) | (refine wpList_load_row rfl 45 (.tmp 3) rfl (w.heap.size + 1) rfl 45 (pkA .u8 { zPk with kind := k, dup := true, q := q, ret := r } zHs) (0, 0) _ HX.out Tryd.underlying45 rfl gpk_size ?_) | (refine Go.wpList_store_rowTo rfl 45 (.tmp 2) (.tmp 48) rfl rfl w.heap.size (pkA .u8 { zPk with kind := k, dup := true, q := q, ret := r } zHs) rfl rfl 45 (pkA .u8 zPk zHs) H0X.out gpk_size rfl (pkA_one _ _) ?_) | (fail))
            refine bodyPost_ret (v := .agg (pkA .u8 { zPk with kind := k, dup := true, q := q, ret := r } zHs)) (results_cell_row (p := 2) (ty := 45) (by kernel_rfl) _ _ w.heap.size 45 _ (0, 0) _ rfl (H0X.out.row0 _) Tryd.underlying45 rfl gpk_size) rfl ?_
            exact ⟨rfl, below_setRow HBX.out (Nat.le_refl _) _⟩
          · rw [if_neg (fun c => by rcases c.2 with c | c; exact absurd (HD0.out.1 c) (by decide); exact hq1 c)]
            have hq1d : decide (0 < q) = false := decide_eq_false hq1
            go_enter Tryd.func33, Tryd.ntmps33
            go_wp2_with (first | (refine wpList_buildTo rfl 45 _ rfl (some 6) rfl (pkA .u8 { zPk with kind := k } zHs) (by kernel_rfl) ?_) | (refine wpList_store_rowN rfl 45 (.tmp 3) (.tmp 6) rfl rfl (w.heap.size + 1) (pkA .u8 { zPk with kind := k } zHs) rfl rfl 45 (pkA .u8 zPk zHs) HB1.out gpk_size rfl (pkA_one _ _) Z HZ.out ?_) | (go_at_call 34; (with_reducible refine (must_true _).mono ?_); rintro e YM ⟨rfl, rfl⟩) | (fail))
            (with_reducible refine (must_false _).mono ?_)
            rintro e YM ⟨rfl, rfl⟩
            exact ⟨rfl, rfl, HBX.out⟩
      · rw [if_neg (fun c => hq3 c.1)]
        have hq3d : decide (q < 3) = false := decide_eq_false hq3
        go_enter Tryd.func33, Tryd.ntmps33
        go_wp2_with (first | (refine wpList_buildTo rfl 45 _ rfl (some 6) rfl (pkA .u8 { zPk with kind := k } zHs) (by kernel_rfl) ?_) | (refine wpList_store_rowN rfl 45 (.tmp 3) (.tmp 6) rfl rfl (w.heap.size + 1) (pkA .u8 { zPk with kind := k } zHs) rfl rfl 45 (pkA .u8 zPk zHs) HB1.out gpk_size rfl (pkA_one _ _) Z HZ.out ?_) | (go_at_call 34; (with_reducible refine (must_true _).mono ?_); rintro e YM ⟨rfl, rfl⟩) | (fail))
        (with_reducible refine (must_false _).mono ?_)
        rintro e YM ⟨rfl, rfl⟩
        exact ⟨rfl, rfl, HBX.out⟩
    · rw [if_neg hk3]
      have hk3b : (k != 3) = true := by simp [hk3]
      by_cases hff : f = kFlags k
      · rw [if_pos hff]
        have hfb : (f == kFlags k) = true := by simp [hff]
        clear hff
        go_enter Tryd.func33, Tryd.ntmps33
        go_wp2_with (first | (refine wpList_buildTo rfl 45 _ rfl (some 6) rfl (pkA .u8 { zPk with kind := k } zHs) (by kernel_rfl) ?_) | (refine wpList_store_rowN rfl 45 (.tmp 3) (.tmp 6) rfl rfl (w.heap.size + 1) (pkA .u8 { zPk with kind := k } zHs) rfl rfl 45 (pkA .u8 zPk zHs) HB1.out gpk_size rfl (pkA_one _ _) Z HZ.out ?_) | (go_at_call 34; (with_reducible refine (must_true _).mono ?_); rintro e YM ⟨rfl, rfl⟩) | (go_at_call 22; (with_reducible refine (CF.out _).mono ?_); rintro e YF ⟨rfl, rfl⟩) | (refine wpList_load_row rfl 45 (.tmp 3) rfl (w.heap.size + 1) rfl 45 (pkA .u8 { zPk with kind := k } zHs) (0, 0) _ HBZ.out Tryd.underlying45 rfl gpk_size ?_) | (refine Go.wpList_store_rowTo rfl 45 (.tmp 2) (.tmp 21) rfl rfl w.heap.size (pkA .u8 { zPk with kind := k } zHs) rfl rfl 45 (pkA .u8 zPk zHs) HB0.out gpk_size rfl (pkA_one _ _) ?_) | (fail))
        refine bodyPost_ret (v := .agg (pkA .u8 { zPk with kind := k } zHs)) (results_cell_row (p := 2) (ty := 45) (by kernel_rfl) _ _ w.heap.size 45 _ (0, 0) _ rfl (HB0.out.row0 _) Tryd.underlying45 rfl gpk_size) rfl ?_
        exact ⟨rfl, below_setRow HBL.out (Nat.le_refl _) _⟩
      · rw [if_neg hff]
        have hfb : (f == kFlags k) = false := by rw [beq_eq_false_iff_ne]; exact hff
        clear hff
        go_enter Tryd.func33, Tryd.ntmps33
        go_wp2_with (first | (refine wpList_buildTo rfl 45 _ rfl (some 6) rfl (pkA .u8 { zPk with kind := k } zHs) (by kernel_rfl) ?_) | (refine wpList_store_rowN rfl 45 (.tmp 3) (.tmp 6) rfl rfl (w.heap.size + 1) (pkA .u8 { zPk with kind := k } zHs) rfl rfl 45 (pkA .u8 zPk zHs) HB1.out gpk_size rfl (pkA_one _ _) Z HZ.out ?_) | (go_at_call 34; (with_reducible refine (must_true _).mono ?_); rintro e YM ⟨rfl, rfl⟩) | (go_at_call 22; (with_reducible refine (CF.out _).mono ?_); rintro e YF ⟨rfl, rfl⟩) | (fail))
        (with_reducible refine (must_false _).mono ?_)
        rintro e YM ⟨rfl, rfl⟩
        exact ⟨rfl, rfl, HBL.out⟩
end Go.Proofs.YtedapgeabpadaaaDoor

set_option linter.unusedVariables false
set_option linter.unusedSimpArgs false
namespace Go.Proofs.YtedapgeabpadaaaDoor
open Go.RowKit Pl Go.Shelf Go.PlainAid

theorem ta_nil (w : World) : (Instr.typeAssert Value.nilIface 20 104 true).run Tryd.prog w = .ok (.tuple #[.int .u8 0, .bool false]) w := by kernel_rfl
theorem ta_fault (c : Int) (w : World) : (Instr.typeAssert (.iface 104 (.int .u8 c)) 20 104 true).run Tryd.prog w = .ok (.tuple #[.int .u8 c, .bool true]) w := by kernel_rfl
set_option maxRecDepth 100000 in
set_option maxHeartbeats 4000000 in
theorem catch_idle (gp gq : Nat) (w : World) :
    CallsD Tryd.prog 32 #[.pointer (some ⟨gp, 0, none⟩), .pointer (some ⟨gq, 0, none⟩)] .returning w fun e u' w' => e = .returned (.tuple #[]) ∧ u' = .returning ∧ w' = w := by
  have hta := ta_nil w
  refine callsD_of_wpS Tryd.func32 rfl fun c₀ cs hu => ?_
  apply wpS_seq
  apply wpS_region
  simp [wpOpsS, go_sem, recoverD, hu, Tryd.ntmps32, Exit.thenS, hta]
  apply wpS_seq
  apply wpS_region
  simp [wpOpsS, go_sem, Exit.thenS]
  refine wpS_cond (t := false) (by simp [Act.eval, Array.replicate]) ?_
  simp only [Bool.false_eq_true, if_false]
  refine wpS_of_wp (wp_skip ?_)
  cases c₀
  simp_all [bodyPostS, results, Tryd.results32]
end Go.Proofs.YtedapgeabpadaaaDoor

set_option linter.unusedVariables false
set_option linter.unusedSimpArgs false
namespace Go.Proofs.YtedapgeabpadaaaDoor
open Go.RowKit Pl Go.Shelf Go.PlainAid

theorem tm_ten (a b x0 x1 x2 x3 x4 x5 x6 x7 : Value) : #[a, b] ++ ((((((((Array.replicate 10 undef).setIfInBounds 3 x3).setIfInBounds 4 x4).setIfInBounds 2 x2).setIfInBounds 5 x5).setIfInBounds 6 x6).setIfInBounds 0 x0).setIfInBounds 1 x1).setIfInBounds 7 x7 = #[a, b, x0, x1, x2, x3, x4, x5, x6, x7, undef, undef] := by kernel_rfl
set_option maxRecDepth 100000 in
set_option maxHeartbeats 1000000 in
theorem catch_fault (gp gq : Nat) (c x : Int) (cs0 : Array Value) (w : World) (hp : Blk w gp cs0 45) (hn : cs0.size = 26) (hq : w.cell? ⟨gq, 0, none⟩ = some (.int .u8 x)) (hz : w.frozen? ⟨gq, 0, none⟩ = false) (hne : gq ≠ gp) :
    CallsD Tryd.prog 32 #[.pointer (some ⟨gp, 0, none⟩), .pointer (some ⟨gq, 0, none⟩)] (.panicking (flt_ c)) w fun e u' w' =>
      e = .returned (.tuple #[]) ∧ u' = .panicking [{ v := .iface 104 (.int .u8 c), recovered := true }] ∧ w' = (w.setRow gp (pkA .u8 zPk zHs)).setCell ⟨gq, 0, none⟩ (.int .u8 c) := by
  have hta := ta_fault c w
  have HP := Lib.hid hp
  have HN := Lib.hid hn
  have q1' : (w.setRow gp (pkA .u8 zPk zHs)).cell? ⟨gq, 0, none⟩ = some (.int .u8 x) := (cell_setRow_other _ _ _ _ hne).trans hq
  have q2 : (w.setRow gp (pkA .u8 zPk zHs)).frozen? ⟨gq, 0, none⟩ = false := by
    rw [← hz]
    unfold World.frozen?
    simp only [setRow_other w gp gq _ hne]
  have Q1 := Lib.hid q1'
  have Q2 := Lib.hid q2
  clear hp hn hq hz q1' q2
  refine callsD_of_wpS Tryd.func32 rfl fun c₀ cs hu => ?_
  apply wpS_seq
  apply wpS_region
  simp [wpOpsS, go_sem, recoverD, hu, flt_, Tryd.ntmps32, Exit.thenS, hta]
  apply wpS_seq
  apply wpS_region
  simp [wpOpsS, go_sem, Exit.thenS]
  refine wpS_cond (t := true) (by simp [Act.eval, Array.replicate]) ?_
  simp only [if_true]
  rw [tm_ten]
  obtain ⟨Z, hZ⟩ : ∃ Z, w.setRow gp (pkA .u8 zPk zHs) = Z := ⟨_, rfl⟩
  have q1 := Q1.out
  have q2 := Q2.out
  rw [hZ] at q1 q2 ⊢
  have HZ := Lib.hid hZ
  clear hZ Q1 Q2 hta
  refine wpS_of_wp ?_
  go_wp2_with (first | (refine wpList_buildTo rfl 45 _ rfl (some 10) rfl (pkA .u8 zPk zHs) (by kernel_rfl) ?_) | (refine wpList_store_rowN rfl 45 (.tmp 0) (.tmp 10) rfl rfl gp (pkA .u8 zPk zHs) rfl rfl 45 cs0 HP.out gpk_size HN.out (pkA_one _ _) Z HZ.out ?_) | (fail))
  cases c₀
  simp_all [bodyPostS, results, Tryd.results32]
end Go.Proofs.YtedapgeabpadaaaDoor

set_option linter.unusedVariables false
set_option linter.unusedSimpArgs false
namespace Go.Proofs.YtedapgeabpadaaaDoor
open Go.RowKit Pl Go.Shelf Go.PlainAid

/-- What Get leaves. -/
def GkPost (w : World) (r : Pk × Int) (e : Ending) (w' : World) : Prop := ∃ m, e = .returned (.tuple #[.agg (pkA .u8 r.1 m), .int .u8 r.2]) ∧ PkO w.heap.size w' r.1 m ∧ Below w.heap.size w w'
theorem results_row_cell {P : Program} {fn : Func} {t1 t2 : Nat} {ty1 ty2 : TypeId} (h : fn.results = #[.cell t1 ty1, .cell t2 ty2]) (tmps : Array Value) (w : World) (g1 g2 : Nat) (s1 : TypeId) (c1 : Array Value) (v : Value) (d1 : TypeDesc) (k : IntKind)
    (h1 : tmps.getD t1 undef = .pointer (some ⟨g1, 0, none⟩)) (h2 : tmps.getD t2 undef = .pointer (some ⟨g2, 0, none⟩)) (k1 : Blk w g1 c1 s1) (k2 : w.cell? ⟨g2, 0, none⟩ = some v)
    (u1 : P.underlying ty1 = some d1) (q1 : (match d1 with | .struct _ | .array _ _ => true | _ => false) = true) (i1 : (P.info? ty1).map (·.size) = some c1.size)
    (u2 : P.underlying ty2 = some (.int k)) :
    (results fn tmps).run P w = .ok (.tuple #[.agg c1, v]) w := by
  have hp1 : tmps[t1]?.getD undef = .pointer (some ⟨g1, 0, none⟩) := by simpa using h1
  have hp2 : tmps[t2]?.getD undef = .pointer (some ⟨g2, 0, none⟩) := by simpa using h2
  have hl : (loadVar ty2 ⟨g2, 0, none⟩).run P w = .ok v w := by simp [loadVar, isAgg, underlying, u2, run_load, k2]
  simp [results, h, hp1, hp2, asAddr, run_loadVar_row w g1 s1 ty1 c1 (0, 0) d1 k1 u1 q1 i1, hl]
theorem PkO.zero (B : Nat) (w : World) : PkO B w zPk zHs := ⟨Sl.nil _ _ _ _, Sl.nil _ _ _ _, Sl.nil _ _ _ _, Sl.nil _ _ _ _, Sl.nil _ _ _ _⟩
/-- The variables of Get. -/
theorem get_worlds (w W1 W2 : World) (h1 : w.alloc (.cells (pkA .u8 zPk zHs) 45) = W1) (h2 : W1.alloc (.cells #[.int .u8 0] 30) = W2) :
    Blk W2 w.heap.size (pkA .u8 zPk zHs) 45 ∧ Blk W2 W1.heap.size #[.int .u8 0] 30 ∧ W1.heap.size = w.heap.size + 1 ∧ Below w.heap.size w W2 := by
  have b0 := blkAt w (pkA .u8 zPk zHs) 45 rfl
  have s0 : W1.heap.size = w.heap.size + 1 := by rw [← h1]; simp
  have bel : Below w.heap.size w _ := ((Below.refl _ _).alloc (Nat.le_refl _) (.cells (pkA .u8 zPk zHs) 45))
  rw [h1] at b0 bel
  have b1 := blkAt W1 #[.int .u8 0] 30 rfl
  have b0' := b0.alloc (.cells #[.int .u8 0] 30)
  have bel1 := bel.alloc (by omega) (.cells #[.int .u8 0] 30)
  rw [h2] at b1 b0' bel1
  exact ⟨b0', b1, s0, bel1⟩
theorem run_store_row' {P : Program} {o : Oper} {a : Act} {w : World} (ty : TypeId) (x y : Operand) (ho : o.op = .store ty x y) (g : Nat) (cells : Array Value) (hx : a.eval x = .pointer (some ⟨g, 0, none⟩)) (hy : a.eval y = .agg cells)
    (t : TypeId) (old : Array Value) (hg : Blk w g old t) (hi : (P.info? ty).map (·.size) = some cells.size) (hold : old.size = cells.size) (h1 : cells.all (·.oneCell') = true) :
    (execOp a.eval o).run P w = .ok .skip (w.setRow g cells) := by
  unfold execOp
  simp only [ho, hx, hy, Instr.storeAt, Instr.sureAddr, Sem.run_bind, Sem.run_pure, Result.andThen_ok, run_storeVar_row w g t ty old cells hg hi hold h1]
theorem info_code1 : ∃ i, Tryd.prog.info? 30 = some i ∧ i.size = 1 := by
  obtain ⟨i, h1, _, h2, _⟩ := info_parts' info_code5
  exact ⟨i, h1, h2⟩
theorem World.cell?_setCell_here' (w : World) (g g2 : Nat) {cs : Array Value} {v u : Value} (h : w.cell? ⟨g, 0, none⟩ = some u) (hne : g ≠ g2) : ((w.setRow g2 cs).setCell ⟨g, 0, none⟩ v).cell? ⟨g, 0, none⟩ = some v := by
  have h1 : (w.setRow g2 cs).cell? ⟨g, 0, none⟩ = some u := (cell_setRow_other _ _ _ _ hne).trans h
  exact World.cell?_setCell_same _ _ _ h1
set_option maxRecDepth 100000 in
set_option maxHeartbeats 4000000 in
theorem pget_0 (s : ByteArray) (w : World) (h0 : s.size = 0) : Calls Tryd.prog 17 #[.string s] w (GkPost w (zPk, 242)) := by
  have hmf : ∀ (fn : Fn) (first cap : Array Value) (w : World), (Instr.makeFunc fn first cap).run Tryd.prog w = .ok (.func fn first cap) w := fun _ _ _ _ => rfl
  obtain ⟨W1, hW1⟩ : ∃ W1, w.alloc (.cells (pkA .u8 zPk zHs) 45) = W1 := ⟨_, rfl⟩
  obtain ⟨W2, hW2⟩ : ∃ W2, W1.alloc (.cells #[.int .u8 0] 30) = W2 := ⟨_, rfl⟩
  obtain ⟨b1, b2, hs1, bel⟩ := get_worlds w W1 W2 hW1 hW2
  obtain ⟨ZA, hZA⟩ : ∃ ZA, W2.setRow w.heap.size (pkA .u8 zPk zHs) = ZA := ⟨_, rfl⟩
  have z1 : Blk ZA w.heap.size (pkA .u8 zPk zHs) 45 := by rw [← hZA]; exact b1.row0 _
  have z2 : Blk ZA W1.heap.size #[.int .u8 0] 30 := by rw [← hZA]; exact b2.row1 (by omega) _
  have belz : Below w.heap.size w ZA := by rw [← hZA]; exact below_setRow bel (Nat.le_refl _) _
  have q0 : ZA.cell? ⟨W1.heap.size, 0, none⟩ = some (.int .u8 0) := z2.cell 0
  have qf := z2.frozen 0
  have HB1 := Lib.hid b1; have HZA := Lib.hid hZA; have HZ1 := Lib.hid z1; have HZ2 := Lib.hid z2; have HBZ := Lib.hid belz; have HS1 := Lib.hid hs1
  clear b1 b2 bel hZA z1 z2 belz hs1
  rw [zpk_eq] at hW1
  have he : s.toList.isEmpty = true := by rw [ByteArray.toList_eq]; simp; exact Array.eq_empty_of_size_eq_zero h0
  go_enter_defers Tryd.func17, Tryd.ntmps17
  go_wp2_with (first | (refine wpList_buildTo rfl 45 _ rfl (some 10) rfl (pkA .u8 zPk zHs) (by kernel_rfl) ?_) | (refine wpList_store_rowN rfl 45 (.tmp 2) (.tmp 10) rfl rfl w.heap.size (pkA .u8 zPk zHs) rfl rfl 45 (pkA .u8 zPk zHs) HB1.out gpk_size rfl (pkA_one _ _) ZA HZA.out ?_) | (fail))
  refine leaves_cons (f := 32) (args := #[.pointer (some ⟨w.heap.size, 0, none⟩), .pointer (some ⟨W1.heap.size, 0, none⟩)]) (by simp) (by simp [go_sem]) ?_
  refine (catch_idle w.heap.size W1.heap.size _).mono ?_
  rintro e u' w'' ⟨rfl, rfl, rfl⟩
  exact ⟨_, results_row_cell rfl _ _ _ _ _ _ _ _ _ rfl rfl (HZ1.out.other (by have := HS1.out; omega) 0 _) ((HZ2.out.set 0 (.int .u8 242)).cell 0) Tryd.underlying45 rfl gpk_size Tryd.underlying30, ⟨zHs, rfl, (PkO.zero _ _), (HBZ.out.setCell (by show w.heap.size ≤ W1.heap.size; have := HS1.out; omega) _)⟩⟩

theorem PkO.mono {B B' : Nat} {w : World} {p : Pk} {m : Hs} (h : PkO B w p m) (hB : B' ≤ B) : PkO B' w p m := ⟨h.ps.mono' hB, h.wps.mono' hB, h.cs.mono' hB, h.ss.mono' hB, h.fs.mono' hB⟩
theorem PkO.row {B : Nat} {w : World} {p : Pk} {m : Hs} (h : PkO B w p m) {g : Nat} {cs : Array Value} (hb : Blk w g cs 45) (cs' : Array Value) : PkO B (w.setRow g cs') p m :=
  h.same (fun e size v n xs hs he => hs.same fun k hk => setRow_other w g k cs' (fun c => hs.ne hb (by rcases he with rfl | rfl | rfl | rfl <;> decide) (by rw [hk, c])))
theorem PkO.code {B : Nat} {w : World} {p : Pk} {m : Hs} (h : PkO B w p m) {g : Nat} {cs : Array Value} (hb : w.heap[g]? = some (.cells cs 30 (0, 0))) (hg : g < B) (v : Value) : PkO B (w.setCell ⟨g, 0, none⟩ v) p m :=
  h.same (fun e size u n xs hs he => hs.set 0 v (fun c => by have := (hs.lt g c).1; omega))
theorem PkO.nil {B : Nat} {w : World} {p : Pk} (h1 : p.ps = []) (h2 : p.wps = []) (h3 : p.codes = []) (h4 : p.subs = []) (h5 : p.filters = []) : PkO B w p zHs :=
  ⟨by rw [h1]; exact Sl.nil _ _ _ _, by rw [h2]; exact Sl.nil _ _ _ _, by rw [h3]; exact Sl.nil _ _ _ _, by rw [h4]; exact Sl.nil _ _ _ _, by rw [h5]; exact Sl.nil _ _ _ _⟩
theorem hdO_lists {b : Int} {p : Pk} (h : hdO b = some p) (h0 : 0 ≤ b) (h1 : b < 256) : p.ps = [] ∧ p.wps = [] ∧ p.codes = [] ∧ p.subs = [] ∧ p.filters = [] ∧ 1 ≤ p.kind ∧ p.kind ≤ 15 := by
  unfold hdO at h
  split at h
  · cases h
  · split at h
    · split at h
      · cases h; exact ⟨rfl, rfl, rfl, rfl, rfl, by show (1 : Int) ≤ 3; decide, by show (3 : Int) ≤ 15; decide⟩
      · cases h
    · split at h
      · cases h; exact ⟨rfl, rfl, rfl, rfl, rfl, by show 1 ≤ b / 16; omega, by show b / 16 ≤ 15; omega⟩
      · cases h

theorem get_seven {P : Program} {ops : Array Oper} {Q : Exit → Act → World → Prop} {md : Region.Mode} {k i0 i1 i2 d0 d1 : Nat} {L : Array Bool} {a0 : Act} {w0 w1 : World} {v u x y : Value} {C : World → Prop}
    (hr : Region.ready md ops L = [i0, i1]) (hr0 : Region.ready md ops (L.setIfInBounds i0 true) = [i1, i2]) (hr1 : Region.ready md ops (L.setIfInBounds i1 true) = [i0])
    (hr01 : Region.ready md ops ((L.setIfInBounds i0 true).setIfInBounds i1 true) = [i2]) (hr02 : Region.ready md ops ((L.setIfInBounds i0 true).setIfInBounds i2 true) = [i1]) (n01 : i0 ≠ i1) (n12 : i1 ≠ i2) (m01 : d0 ≠ d1) (m03 : d0 ≠ 3) (m02 : d0 ≠ 2) (m12 : d1 ≠ 2)
    (h0 : Yld P ops i0 d0 v (fun _ => True) (fun _ => True)) (h1 : Yld P ops i1 d1 u (fun a => a.eval (.tmp 3) = x) C) (hb : a0.eval (.tmp 3) = x) (hy : a0.eval (.tmp 2) = y) (hs : d0 < a0.tmps.size) (hC : C w0) (hC1 : C w1)
    (hst : ∀ (a : Act) (K : Act → World → Prop), a.eval (.tmp 2) = y → a.eval (.tmp d0) = v → K a w1 → wpOp P ops Q i2 K a w0)
    (h : wpAnyH P md ops Q T0 k (((L.setIfInBounds i0 true).setIfInBounds i1 true).setIfInBounds i2 true) ((a0.put (some d0) v).put (some d1) u) w1) : wpAnyH P md ops Q T0 (k + 1 + 1 + 1) L a0 w0 := by
  have ne : ∀ {a b : Nat}, a ≠ b → (some a : Option Nat) ≠ some b := fun h c => h (by injection c)
  have b3 : (a0.put (some d0) v).eval (.tmp 3) = x := (put_other (ne m03) _).trans hb
  have b2 : (a0.put (some d0) v).eval (.tmp 2) = y := (put_other (ne m02) _).trans hy
  have b0 : (a0.put (some d0) v).eval (.tmp d0) = v := put_same hs _
  have c2 : ((a0.put (some d0) v).put (some d1) u).eval (.tmp 2) = y := (put_other (ne m12) _).trans b2
  have c0 : ((a0.put (some d0) v).put (some d1) u).eval (.tmp d0) = v := (put_other (ne (Ne.symm m01)) _).trans b0
  refine wt_two hr (h0.op trivial trivial (wt_two hr0 (h1.op b3 hC (wt_one hr01 (hst _ _ c2 c0 h))) (hst _ _ b2 b0 (wt_one hr02 (h1.op b3 hC1 ?_))))) (h1.op hb hC (wt_one hr1 (h0.op trivial trivial ?_)))
  · rw [Array.setIfInBounds_comm _ _ (Ne.symm n12)]
    exact h
  · rw [Array.setIfInBounds_comm _ _ (Ne.symm n01), put_comm' (Ne.symm m01)]
    exact wt_one hr01 (hst _ _ c2 c0 h)
theorem yld_build {P : Program} {ops : Array Oper} {i d : Nat} {T : TypeId} {cells : Array Value} (o : Oper) (ho : ops[i]? = some o) (hg : o.guard = none) (hd : o.dst = some d) (hop : o.op = .build T #[]) (hf : P.built T [] = some cells) : Yld P ops i d (.agg cells) (fun _ => True) (fun _ => True) := by
  refine ⟨o, ho, hg, hd, fun a w _ _ => ?_⟩
  unfold execOp
  simp only [hop, List.map_toArray, List.map_nil, Sem.run_bind, run_build w T _ cells hf, Result.andThen_ok, Sem.run_pure]
theorem yld_code {P : Program} {ops : Array Oper} {i d t b f : Nat} {T : TypeId} {k : IntKind} {v : Value} (o : Oper) (ho : ops[i]? = some o) (hg : o.guard = none) (hd : o.dst = some d) (hop : o.op = .load T (.tmp t)) (hu : P.underlying T = some (.int k)) :
    Yld P ops i d v (fun a => a.eval (.tmp t) = .pointer (some ⟨b, f, none⟩)) (fun w => w.cell? ⟨b, f, none⟩ = some v) := by
  refine ⟨o, ho, hg, hd, fun a w hA hC => ?_⟩
  unfold execOp
  have hl : (loadVar T ⟨b, f, none⟩).run P w = .ok v w := by simp [loadVar, isAgg, underlying, hu, run_load, hC]
  simp [hop, hA, Instr.loadAt, Instr.sureAddr, hl]

/-- No packet begins so. -/
theorem leave_fault {w W1 Y : World} {cs0 : Array Value} {c x : Int} {tmps : Array Value} (hp : Blk Y w.heap.size cs0 45) (hn : cs0.size = 26) (hq : Blk Y W1.heap.size #[.int .u8 x] 30) (h1 : W1.heap.size = w.heap.size + 1) (hb : Below w.heap.size w Y)
    (t2 : tmps.getD 2 undef = .pointer (some ⟨w.heap.size, 0, none⟩)) (t3 : tmps.getD 3 undef = .pointer (some ⟨W1.heap.size, 0, none⟩)) :
    bodyPostD Tryd.prog Tryd.f17 (GkPost w (zPk, c)) (Exit.panic (flt_ c)) { tmps := tmps, defers := [{ target := Target.fn (Fn.func 32) #[.pointer (some ⟨w.heap.size, 0, none⟩), .pointer (some ⟨W1.heap.size, 0, none⟩)], args := #[] }] } Y := by
  have q0 : Y.cell? ⟨W1.heap.size, 0, none⟩ = some (.int .u8 x) := hq.cell 0
  refine leaves_cons (f := 32) (args := #[.pointer (some ⟨w.heap.size, 0, none⟩), .pointer (some ⟨W1.heap.size, 0, none⟩)]) (by simp) (by simp [go_sem]) ?_
  refine (catch_fault w.heap.size W1.heap.size c x cs0 _ hp hn q0 (hq.frozen 0) (by omega)).mono ?_
  rintro e u' w'' ⟨rfl, rfl, rfl⟩
  show ∃ v, _ ∧ _
  exact ⟨_, results_row_cell rfl _ _ _ _ _ _ _ _ _ t2 t3 ((hp.row0 _).other (by omega) _ _) (World.cell?_setCell_here' _ _ _ q0 (by omega)) Tryd.underlying45 rfl gpk_size Tryd.underlying30, ⟨zHs, rfl, PkO.zero _ _, (below_setRow hb (Nat.le_refl _) _).setCell (by show w.heap.size ≤ W1.heap.size; omega) _⟩⟩
theorem leave_ok {w W1 Y : World} {q : Pk} {m : Hs} {c : Int} {tmps : Array Value} (hp : Blk Y w.heap.size (pkA .u8 q m) 45) (hq : Blk Y W1.heap.size #[.int .u8 c] 30) (hb : Below w.heap.size w Y) (ho : PkO w.heap.size Y q m)
    (t2 : tmps.getD 2 undef = .pointer (some ⟨w.heap.size, 0, none⟩)) (t3 : tmps.getD 3 undef = .pointer (some ⟨W1.heap.size, 0, none⟩)) :
    Leaves Tryd.prog Tryd.f17 tmps (GkPost w (q, c)) [{ target := Target.fn (Fn.func 32) #[.pointer (some ⟨w.heap.size, 0, none⟩), .pointer (some ⟨W1.heap.size, 0, none⟩)], args := #[] }] .returning Y := by
  refine leaves_cons (f := 32) (args := #[.pointer (some ⟨w.heap.size, 0, none⟩), .pointer (some ⟨W1.heap.size, 0, none⟩)]) (by simp) (by simp [go_sem]) ?_
  refine (catch_idle w.heap.size W1.heap.size _).mono ?_
  rintro e u' w'' ⟨rfl, rfl, rfl⟩
  exact ⟨_, results_row_cell rfl _ _ _ _ _ _ _ _ _ t2 t3 hp (hq.cell 0) Tryd.underlying45 rfl gpk_size Tryd.underlying30, ⟨m, rfl, ho, hb⟩⟩
set_option maxRecDepth 100000 in
set_option maxHeartbeats 8000000 in
theorem pget_1 (s : ByteArray) (w : World) (h1 : 0 < s.size) (hs : s.size ≤ 140737488351232) (hT : Tabs w) : Calls Tryd.prog 17 #[.string s] w (GkPost w (pkGet s)) := by
  obtain ⟨RES, hres⟩ : ∃ RES, pkGet s = RES := ⟨_, rfl⟩
  rw [hres]
  unfold pkGet at hres
  rw [if_neg (show ¬ s.size = 0 by omega)] at hres
  obtain ⟨⟨n, fr, c⟩, hg⟩ : ∃ g, getV s 1 = g := ⟨_, rfl⟩
  have hmf : ∀ (fn : Fn) (first cap : Array Value) (w : World), (Instr.makeFunc fn first cap).run Tryd.prog w = .ok (.func fn first cap) w := fun _ _ _ _ => rfl
  have hbt := get_bt s
  have hb0 := bt_nonneg s 0
  have hb1 := bt_le s 0
  obtain ⟨W1, hW1⟩ : ∃ W1, w.alloc (.cells (pkA .u8 zPk zHs) 45) = W1 := ⟨_, rfl⟩
  obtain ⟨W2, hW2⟩ : ∃ W2, W1.alloc (.cells #[.int .u8 0] 30) = W2 := ⟨_, rfl⟩
  obtain ⟨b1, b2, hs1, bel⟩ := get_worlds w W1 W2 hW1 hW2
  have HT2 := Lib.hid (hT.below (by have := bel; exact ⟨this.os, this.tape, this.output, this.size, this.block⟩ : Below w.heap.size w W2))
  have HTW := Lib.hid hT
  have HB1 := Lib.hid b1; have HB2 := Lib.hid b2; have HBL := Lib.hid bel; have HS1 := Lib.hid hs1
  have CH := Lib.hid (head_any (bt s 0) W2 hb0 (by omega))
  have CV := fun W => Lib.hid (get_all s 1 W hs (by decide) (by decide))
  have he : s.toList.isEmpty = false := by
    rw [ByteArray.toList_eq]
    cases hc : s.data.toList with
    | nil => exact absurd (by show s.data.size = 0; rw [← Array.length_toList, hc]; rfl) (show ¬ s.size = 0 by omega)
    | cons x l => rfl
  have h1I : (0 : Int) < (s.size : Int) := by omega
  rw [zpk_eq] at hW1
  clear b1 b2 hs1 bel hT
  obtain ⟨o, ho⟩ : ∃ o, hdO (bt s 0) = o := ⟨_, rfl⟩
  rw [ho] at CH
  rw [ho, hg] at hres
  have HO := Lib.hid ho; have HG := Lib.hid hg
  clear ho hg
  cases o with
  | none =>
    subst hres
    go_enter_defers Tryd.func17, Tryd.ntmps17
    go_wp2_with fail
    (with_reducible refine CH.out.mono ?_)
    rintro e Y ⟨rfl, hbY⟩
    exact leave_fault (HB1.out.of_below hbY) rfl (HB2.out.of_below hbY) HS1.out (HBL.out.trans (hbY.mono HBL.out.size)) rfl rfl
  | some p =>
    simp only at hres
    have HRES := Lib.hid hres
    clear hres
    go_enter_defers Tryd.func17, Tryd.ntmps17
    go_wp2_with fail
    (with_reducible refine CH.out.mono ?_)
    rintro e Y ⟨rfl, hbY⟩
    have y1 := (HB1.out.of_below hbY).row0 (pkA .u8 p zHs)
    have y2 := (HB2.out.of_below hbY).row1 (by have := HS1.out; omega) (g' := w.heap.size) (pkA .u8 p zHs)
    have byl := below_setRow (HBL.out.trans (hbY.mono HBL.out.size)) (Nat.le_refl _) (pkA .u8 p zHs)
    obtain ⟨Z, hZ⟩ : ∃ Z, Y.setRow w.heap.size (pkA .u8 p zHs) = Z := ⟨_, rfl⟩
    rw [hZ] at y1 y2 byl
    have HY1 := Lib.hid (HB1.out.of_below hbY)
    have q0 : Z.cell? ⟨W1.heap.size, 0, none⟩ = some (.int .u8 0) := y2.cell 0
    have qf := y2.frozen 0
    have hv1 : c = 0 → ∃ i : Nat, fr = i ∧ 1 < i ∧ i ≤ s.size ∧ 0 ≤ n ∧ n ≤ 268435455 := fun hc => by
      subst hc
      obtain ⟨i, j, h1, h2, h3, h4, _, h5, h6⟩ := getV_to HG.out
      exact ⟨j, h2, by omega, h4, h5, h6⟩
    have HV := Lib.hid hv1
    have HZ := Lib.hid hZ
    have z2' := (y2.set 0 (.int .u8 c))
    have z1' := y1.other (by have := HS1.out; omega) (R' := W1.heap.size) 0 (.int .u8 c)
    have bz' := byl.setCell (p := ⟨W1.heap.size, 0, none⟩) (by show w.heap.size ≤ W1.heap.size; have := HS1.out; omega) (.int .u8 c)
    obtain ⟨X, hX⟩ : ∃ X, Z.setCell ⟨W1.heap.size, 0, none⟩ (.int .u8 c) = X := ⟨_, rfl⟩
    rw [hX] at z2' z1' bz'
    have HX2 := Lib.hid (show Blk X W1.heap.size #[.int .u8 c] 30 from z2'); have HX1 := Lib.hid z1'; have HXB := Lib.hid bz'
    have x0 : X.cell? ⟨W1.heap.size, 0, none⟩ = some (.int .u8 c) := z2'.cell 0
    have CV := CV Z
    rw [HG.out] at CV
    simp only at CV
    have x1 := HX1.out.row0 (pkA .u8 zPk zHs)
    have x2 := HX2.out.row1 (by have := HS1.out; omega) (g' := w.heap.size) (pkA .u8 zPk zHs)
    have xb := below_setRow HXB.out (Nat.le_refl _) (pkA .u8 zPk zHs)
    obtain ⟨V, hVV⟩ : ∃ V, X.setRow w.heap.size (pkA .u8 zPk zHs) = V := ⟨_, rfl⟩
    rw [hVV] at x1 x2 xb
    have HVX := Lib.hid hVV
    have HV1 := Lib.hid x1; have HV2 := Lib.hid x2; have HVB := Lib.hid xb
    have v0 : V.cell? ⟨W1.heap.size, 0, none⟩ = some (.int .u8 c) := x2.cell 0
    have vf := x2.frozen 0
    clear y1 y2 byl hZ z2' z1' bz' hbY hv1 x1 x2 xb hVV
    by_cases hc : c = 0
    · subst hc
      have hk := HRES.out
      rw [if_neg (by simp)] at hk
      have HK := Lib.hid hk; clear hk
      obtain ⟨i, hfr, hi1, hi2, hn0, hn1⟩ := HV.out rfl
      subst hfr
      have hiI : (1 : Int) < (i : Int) := by omega
      have hisI : (i : Int) ≤ (s.size : Int) := by omega
      have A0 := True.intro
      by_cases h149 : 65536 < n
      · have hk := HK.out
        rw [if_pos h149] at hk
        subst hk
        go_wp2_with (first | (refine wpList_store_rowN rfl 45 (.tmp 2) (.tmp 14) rfl rfl w.heap.size (pkA .u8 p zHs) rfl rfl 45 (pkA .u8 zPk zHs) HY1.out gpk_size rfl (pkA_one _ _) Z HZ.out ?_) | (go_at_call 31; (with_reducible refine CV.out.mono ?_); rintro e YV ⟨rfl, rfl⟩) | (refine wpList_buildTo rfl 45 _ rfl (some 29) rfl (pkA .u8 zPk zHs) (by kernel_rfl) ?_) | (refine wpList_store_rowN rfl 45 (.tmp 2) (.tmp 29) rfl rfl w.heap.size (pkA .u8 zPk zHs) rfl rfl 45 (pkA .u8 p zHs) HX1.out gpk_size rfl (pkA_one _ _) V HVX.out ?_) | (fail))
        exact leave_ok (HV1.out.other (by have := HS1.out; omega) 0 _) (HV2.out.set 0 _) (HVB.out.setCell (by show w.heap.size ≤ W1.heap.size; have := HS1.out; omega) _) (PkO.zero _ _) rfl rfl
      · have hk := HK.out
        rw [if_neg h149] at hk
        have HK2 := Lib.hid hk; clear hk
        have h149I : n ≤ 65536 := by omega
        by_cases h242 : (s.size : Int) - (i : Int) < n
        · have hk := HK2.out
          rw [if_pos h242] at hk
          subst hk
          go_wp2_with (first | (refine wpList_store_rowN rfl 45 (.tmp 2) (.tmp 14) rfl rfl w.heap.size (pkA .u8 p zHs) rfl rfl 45 (pkA .u8 zPk zHs) HY1.out gpk_size rfl (pkA_one _ _) Z HZ.out ?_) | (go_at_call 31; (with_reducible refine CV.out.mono ?_); rintro e YV ⟨rfl, rfl⟩) | (refine wpList_buildTo rfl 45 _ rfl (some 37) rfl (pkA .u8 zPk zHs) (by kernel_rfl) ?_) | (refine wpList_store_rowN rfl 45 (.tmp 2) (.tmp 37) rfl rfl w.heap.size (pkA .u8 zPk zHs) rfl rfl 45 (pkA .u8 p zHs) HX1.out gpk_size rfl (pkA_one _ _) V HVX.out ?_) | (fail))
          exact leave_ok (HV1.out.other (by have := HS1.out; omega) 0 _) (HV2.out.set 0 _) (HVB.out.setCell (by show w.heap.size ≤ W1.heap.size; have := HS1.out; omega) _) (PkO.zero _ _) rfl rfl
        · have hk := HK2.out
          rw [if_neg h242] at hk
          have HK3 := Lib.hid hk; clear hk
          have h242I : n ≤ (s.size : Int) - (i : Int) := by omega
          by_cases h129 : (s.size : Int) - (i : Int) = n
          · have hk := HK3.out
            rw [if_neg (fun c => c h129)] at hk
            have HK4 := Lib.hid hk; clear hk
            have h129b : ((s.size : Int) - (i : Int) == n) = true := by simp [h129]
            have H129 := Lib.hid h129; clear h129
            obtain ⟨T, hT'⟩ : ∃ T, s.extract i s.size = T := ⟨_, rfl⟩
            have hk := HK4.out
            rw [Int.toNat_natCast, hT'] at hk
            have HK5 := Lib.hid hk; clear hk
            have hTs : T.size ≤ 140737488351232 := by rw [← hT', ByteArray.size_extract]; omega
            obtain ⟨l1, l2, l3, l4, l5, l6, l7⟩ := hdO_lists HO.out hb0 (by omega)
            have hR := blkAt X (rdrA T 0) 110 rfl
            have hP := HX1.out.alloc (.cells (rdrA T 0) 110)
            have hQ := HX2.out.alloc (.cells (rdrA T 0) 110)
            have hBr := HXB.out.alloc HXB.out.size (.cells (rdrA T 0) 110)
            obtain ⟨Xr, hXr⟩ : ∃ Xr, X.alloc (.cells (rdrA T 0) 110) = Xr := ⟨_, rfl⟩
            rw [hXr] at hR hP hQ hBr
            have hgp : w.heap.size < X.heap.size := HX1.out.lt
            have htr : Tabs Xr := HTW.out.below hBr
            have hst : St Xr X.heap.size w.heap.size T 0 p zHs Xr := ⟨hR, hP, PkO.nil l1 l2 l3 l4 l5, Mod.refl _ _, htr, hR.lt, hP.lt, by omega, NoTab.new HTW.out (Nat.le_of_lt hgp), NoTab.new HTW.out (Nat.le_refl _), Int.le_refl 0, by omega, hTs⟩
            have CB := Lib.hid (rbody_any hst htr (by rw [l3, l4, l5]; decide) l6 l7)
            have HQ := Lib.hid hQ; have HBr := Lib.hid hBr
            have HGP := Lib.hid hgp
            obtain ⟨r, hr⟩ : ∃ r, rBody T p 0 = r := ⟨_, rfl⟩
            rw [hr] at CB
            have hk := HK5.out
            rw [hr] at hk
            have HK6 := Lib.hid hk
            have hQl := Lib.hid hQ.lt
            have HXS := Lib.hid hBr.size
            unfold rdrA at hXr
            clear hk hr hR hP hQ hBr hst htr hgp hTs
            go_wp2_with (first | (refine wpList_store_rowN rfl 45 (.tmp 2) (.tmp 14) rfl rfl w.heap.size (pkA .u8 p zHs) rfl rfl 45 (pkA .u8 zPk zHs) HY1.out gpk_size rfl (pkA_one _ _) Z HZ.out ?_) | (go_at_call 31; (with_reducible refine CV.out.mono ?_); rintro e YV ⟨rfl, rfl⟩) | (go_at_call 34; (with_reducible refine (must_true _).mono ?_); rintro e YM ⟨rfl, rfl⟩) | (fail))
            (with_reducible refine CB.out.mono ?_)
            cases r with
            | error cc =>
              rintro e Y ⟨rfl, hm, p', m', hb'⟩
              have hk := HK6.out
              subst hk
              exact leave_fault hb' rfl ((hm.block W1.heap.size hQl.out (fun c => by have := HS1.out; have := HX2.out.lt; omega)).trans HQ.out) HS1.out (HBr.out.trans (hm.below HXS.out (fun k hk => by have := HGP.out; omega))) rfl rfl
            | ok v =>
              obtain ⟨q, bq⟩ := v
              rintro e Y ⟨rfl, m', h'⟩
              have hk := HK6.out
              subst hk
              have hq1 := (h'.md.block W1.heap.size hQl.out (fun c => by have := HS1.out; have := HX2.out.lt; omega)).trans HQ.out
              have hq2 : Blk Y W1.heap.size #[.int .u8 0] 30 := hq1
              have hbY : Below w.heap.size w Y := HBr.out.trans (h'.md.below HXS.out (fun k hk => by have := HGP.out; omega))
              obtain ⟨Yr, hYr⟩ : ∃ Yr, Y.setRow w.heap.size (pkA .u8 q m') = Yr := ⟨_, rfl⟩
              have y1 := h'.pB.row0 (pkA .u8 q m')
              have y2 := hq2.row1 (by have := HS1.out; omega) (g' := w.heap.size) (pkA .u8 q m')
              have y3 := below_setRow hbY (Nat.le_refl _) (pkA .u8 q m')
              have y4 := h'.o.row h'.pB (pkA .u8 q m')
              rw [hYr] at y1 y2 y3 y4
              have HYP := Lib.hid h'.pB; have HYR := Lib.hid hYr
              have Y1 := Lib.hid y1; have Y2 := Lib.hid y2; have Y3 := Lib.hid y3; have Y4 := Lib.hid y4
              have q0 : Yr.cell? ⟨W1.heap.size, 0, none⟩ = some (.int .u8 0) := y2.cell 0
              have qf := y2.frozen 0
              clear y1 y2 y3 y4 hYr h' hq1 hq2 hbY
              go_wp2_with (first | (refine wpList_load_row rfl 45 (.tmp 2) rfl w.heap.size rfl 45 (pkA .u8 q m') (0, 0) _ HYP.out Tryd.underlying45 rfl gpk_size ?_) | (refine wpList_store_rowN rfl 45 (.tmp 2) (.tmp 52) rfl rfl w.heap.size (pkA .u8 q m') rfl rfl 45 (pkA .u8 q m') HYP.out gpk_size rfl (pkA_one _ _) Yr HYR.out ?_) | (fail))
              exact leave_ok (Y1.out.other (by have := HS1.out; omega) 0 _) (Y2.out.set 0 _) (Y3.out.setCell (by show w.heap.size ≤ W1.heap.size; have := HS1.out; omega) _) ((Y4.out.code Y2.out hQl.out _).mono HXS.out) rfl rfl
          · have hk := HK3.out
            rw [if_pos h129] at hk
            subst hk
            have h129b : ((s.size : Int) - (i : Int) == n) = false := by rw [beq_eq_false_iff_ne]; exact h129
            go_wp2_with (first | (refine wpList_store_rowN rfl 45 (.tmp 2) (.tmp 14) rfl rfl w.heap.size (pkA .u8 p zHs) rfl rfl 45 (pkA .u8 zPk zHs) HY1.out gpk_size rfl (pkA_one _ _) Z HZ.out ?_) | (go_at_call 31; (with_reducible refine CV.out.mono ?_); rintro e YV ⟨rfl, rfl⟩) | (go_at_call 34; (with_reducible refine (must_false _).mono ?_); rintro e YM ⟨rfl, rfl⟩) | (fail))
            exact leave_fault HX1.out rfl HX2.out HS1.out HXB.out rfl rfl
    · have hk := HRES.out
      rw [if_pos hc] at hk
      subst hk
      have hcb : (c != 0) = true := by simp [hc]
      go_wp2_with (first | (refine wpList_store_rowN rfl 45 (.tmp 2) (.tmp 14) rfl rfl w.heap.size (pkA .u8 p zHs) rfl rfl 45 (pkA .u8 zPk zHs) HY1.out gpk_size rfl (pkA_one _ _) Z HZ.out ?_) | (go_at_call 31; (with_reducible refine CV.out.mono ?_); rintro e YV ⟨rfl, rfl⟩) | (fail))
      refine wp_region_held (S := T0) (by kernel_rfl) ?_
      change wpAnyH _ _ _ _ T0 _ _ _ X.drew
      have hx0d : X.drew.cell? ⟨W1.heap.size, 0, none⟩ = some (.int .u8 c) := x0
      have hX1d : Blk X.drew w.heap.size (pkA .u8 p zHs) 45 := HX1.out
      have hX2d : Blk X.drew W1.heap.size #[.int .u8 c] 30 := HX2.out
      have g1 := hX1d.row0 (pkA .u8 zPk zHs)
      have g2 := hX2d.row1 (by have := HS1.out; omega) (g' := w.heap.size) (pkA .u8 zPk zHs)
      have g3 := below_setRow (HXB.out.drew) (Nat.le_refl _) (pkA .u8 zPk zHs)
      change wpAnyH _ _ _ _ _ (1 + 1 + 1 + 1) _ _ _
      obtain ⟨ci, hci, hcs⟩ := info_code1
      refine get_seven (i0 := 0) (i1 := 1) (i2 := 2) (d0 := 24) (d1 := 25) (w1 := X.drew.setRow w.heap.size (pkA .u8 zPk zHs)) (v := .agg (pkA .u8 zPk zHs)) (u := .int .u8 c) (x := .pointer (some ⟨W1.heap.size, 0, none⟩)) (y := .pointer (some ⟨w.heap.size, 0, none⟩)) (C := fun Z => Z.cell? ⟨W1.heap.size, 0, none⟩ = some (.int .u8 c)) (by kernel_rfl) (by kernel_rfl) (by kernel_rfl) (by kernel_rfl) (by kernel_rfl) (by decide) (by decide) (by decide) (by decide) (by decide) (by decide) (yld_build _ rfl rfl rfl rfl (by kernel_rfl)) (yld_code _ rfl rfl rfl rfl Tryd.underlying30) rfl rfl (by simp) hx0d (g2.cell 0) (fun a K e2 e0 hK => ?_) ?_
      · refine wpOp_skip (w' := X.drew.setRow w.heap.size (pkA .u8 zPk zHs)) rfl rfl (run_store_row' 45 (.tmp 2) (.tmp 24) rfl w.heap.size (pkA .u8 zPk zHs) e2 e0 45 (pkA .u8 p zHs) hX1d gpk_size rfl (pkA_one _ _)) ?_
        exact hK
      simp only [Act.put, List.setIfInBounds_toArray, List.set_cons_succ, List.set_cons_zero]
      refine wpAnyH_store (i := 3) (t := 3) (u := 25) (b := W1.heap.size) (f := 0) (v := .int .u8 c) (v0 := .int .u8 c) _ rfl rfl rfl rfl hci hcs (by kernel_rfl) (by kernel_rfl) rfl rfl rfl (g2.cell 0) (g2.frozen 0) trivial ?_
      have G1 := Lib.hid (g1.other (by have := HS1.out; omega) (R' := W1.heap.size) 0 (.int .u8 c)); have G2 := Lib.hid (g2.set 0 (.int .u8 c)); have G3 := Lib.hid (g3.setCell (p := ⟨W1.heap.size, 0, none⟩) (by show w.heap.size ≤ W1.heap.size; have := HS1.out; omega) (.int .u8 c))
      clear g1 g2 g3 hx0d hX1d hX2d
      go_wp2
      exact leave_ok G1.out G2.out G3.out (PkO.zero _ _) rfl rfl

end Go.Proofs.YtedapgeabpadaaaDoor

set_option linter.unusedVariables false
namespace Go.Proofs.YtedapgeabpadaaaDoor
open Go.RowKit Pl Go.Shelf Go.PlainAid

theorem pkget_any (s : ByteArray) (w : World) (hs : s.size ≤ 140737488351232) (hT : Tabs w) : Calls Tryd.prog 17 #[.string s] w (GkPost w (pkGet s)) := by
  by_cases h : s.size = 0
  · have e : pkGet s = (zPk, 242) := by unfold pkGet; rw [if_pos h]
    rw [e]
    exact pget_0 s w h
  · exact pget_1 s w (by omega) hs hT
end Go.Proofs.YtedapgeabpadaaaDoor

namespace Go.Proofs.YtedapgeabpadaaaDoor
set_option linter.unusedVariables false
open Go.RowKit Pl
open Go.PlainAid (bt bt_nonneg bt_le get_bt bt_end)

/-- From place i on stand these bytes. -/
def Has (s : ByteArray) (i : Nat) (l : List UInt8) : Prop := i + l.length ≤ s.size ∧ ∀ j, j < l.length → s.data.toList[i + j]? = l[j]?
theorem has_append {s : ByteArray} {i : Nat} {l r : List UInt8} : Has s i (l ++ r) ↔ Has s i l ∧ Has s (i + l.length) r := by
  constructor
  · rintro ⟨h1, h2⟩
    rw [List.length_append] at h1
    refine ⟨⟨by omega, fun j hj => ?_⟩, by omega, fun j hj => ?_⟩
    · rw [h2 j (by rw [List.length_append]; omega), List.getElem?_append_left hj]
    · rw [Nat.add_assoc, h2 (l.length + j) (by rw [List.length_append]; omega), List.getElem?_append_right (by omega), Nat.add_sub_cancel_left]
  · rintro ⟨⟨h1, h2⟩, h3, h4⟩
    refine ⟨by rw [List.length_append]; omega, fun j hj => ?_⟩
    rw [List.length_append] at hj
    by_cases c : j < l.length
    · rw [h2 j c, List.getElem?_append_left c]
    · rw [List.getElem?_append_right (by omega), ← h4 (j - l.length) (by omega), show i + l.length + (j - l.length) = i + j from by omega]
theorem has_bt {s : ByteArray} {i j : Nat} {l : List UInt8} (h : Has s i l) (hj : j < l.length) : bt s (i + j) = ((l[j]).toNat : Int) := by
  have h1 := h.1
  have h2 := h.2 j hj
  have hl : i + j < s.size := by omega
  rw [← get_bt s (i + j) hl]
  have e : s.data.toList[i + j]? = some s[i + j] := by
    rw [List.getElem?_eq_getElem (by exact hl)]; rfl
  rw [e, List.getElem?_eq_getElem hj] at h2
  injection h2 with h2
  rw [h2]
theorem has_of_bt {s : ByteArray} {i : Nat} {l : List UInt8} (h1 : i + l.length ≤ s.size) (h : ∀ j (hj : j < l.length), bt s (i + j) = ((l[j]).toNat : Int)) : Has s i l := by
  refine ⟨h1, fun j hj => ?_⟩
  have hl : i + j < s.size := by omega
  have e : s.data.toList[i + j]? = some s[i + j] := by
    rw [List.getElem?_eq_getElem (by exact hl)]; rfl
  rw [e, List.getElem?_eq_getElem hj]
  have h2 := h j hj
  rw [← get_bt s (i + j) hl] at h2
  congr 1
  exact UInt8.toNat.inj (by omega)
theorem has_nil {s : ByteArray} {i : Nat} (h : i ≤ s.size) : Has s i [] := ⟨by simpa using h, fun j hj => by simp at hj⟩
theorem has_self (s : ByteArray) : Has s 0 s.data.toList := ⟨by rw [Nat.zero_add]; exact Nat.le_refl _, fun j hj => by rw [Nat.zero_add]⟩
theorem has_extract {s : ByteArray} {i j : Nat} (h : j ≤ s.size) (hij : i ≤ j) : Has s i (s.extract i j).data.toList := by
  have hl : (s.extract i j).data.toList.length = j - i := by
    show (s.extract i j).size = j - i
    rw [ByteArray.size_extract]; omega
  refine ⟨by omega, fun k hk => ?_⟩
  rw [hl] at hk
  rw [ByteArray.data_extract, Array.toList_extract, List.extract_eq_take_drop, List.getElem?_take_of_lt (by omega), List.getElem?_drop]
theorem extract_has {s u : ByteArray} {i : Nat} (h : Has s i u.data.toList) : s.extract i (i + u.size) = u := by
  have h1 := h.1
  have hu : u.data.toList.length = u.size := rfl
  rw [hu] at h1
  apply ByteArray.ext
  apply Array.toList_inj.1
  apply List.ext_getElem?
  intro j
  rw [ByteArray.data_extract, Array.toList_extract, List.extract_eq_take_drop]
  by_cases c : j < u.size
  · rw [List.getElem?_take_of_lt (by omega), List.getElem?_drop, h.2 j c]
  · rw [List.getElem?_eq_none (by simp; omega), List.getElem?_eq_none (by show u.size ≤ j; omega)]
/-- What stands within a part stands in the whole. -/
theorem has_within {s u : ByteArray} {i k : Nat} {l : List UInt8} (h : Has s i u.data.toList) (h2 : Has u k l) : Has s (i + k) l := by
  have h1 := h.1
  have hu : u.data.toList.length = u.size := rfl
  refine ⟨by have := h2.1; omega, fun j hj => ?_⟩
  rw [← h2.2 j hj, ← h.2 (k + j) (by have := h2.1; omega), Nat.add_assoc]
theorem enc_vb {n : Int} (h0 : 0 ≤ n) (h1 : n ≤ 268435455) : ∃ r : Nat, r + 1 ≤ 4 ∧ enc n = vb n (r + 1) ∧ n < 128 ^ (r + 1) ∧ (1 < r + 1 ∨ 0 < 0 → 128 ^ (r + 1 - 1) ≤ n) ∧ (enc n).length = r + 1 := by
  have hp := sz_pos h0 h1
  obtain ⟨r, hr⟩ : ∃ r : Nat, sz n = r + 1 := ⟨(sz n - 1).toNat, by omega⟩
  have hr0 := hr
  have hlt : n < 128 ^ (r + 1) ∧ (0 < r → 128 ^ r ≤ n) := by
    obtain rfl | rfl | rfl | rfl : r = 0 ∨ r = 1 ∨ r = 2 ∨ r = 3 := by omega
    all_goals
      unfold sz at hr
      rw [if_neg (by omega)] at hr
      refine ⟨?_, ?_⟩
      all_goals simp
      all_goals (repeat' split at hr)
      all_goals omega
  have he : enc n = vb n (r + 1) := by unfold enc; rw [hr]; rfl
  exact ⟨r, by omega, he, hlt.1, fun hc => by simp only [Nat.add_sub_cancel]; exact hlt.2 (by omega), by rw [he, vb_length]⟩
theorem getV_has {s : ByteArray} {i : Nat} {n : Int} (h0 : 0 ≤ n) (h1 : n ≤ 268435455) (h : Has s i (enc n)) : getV s i = (n, ((i + (enc n).length : Nat) : Int), 0) := by
  obtain ⟨r, hr, he, hlt, hmin, hl⟩ := enc_vb h0 h1
  have hs := h.1
  rw [getV_ok (by omega), hl]
  rw [he] at h
  have := gi_vb s (r + 1) 4 0 i n 0 (by omega) hr h0 hlt hmin (fun j hj => has_bt h hj) (by omega)
  rw [this]
  simp
theorem has_getV {s : ByteArray} {i : Nat} {n tu : Int} (h : getV s i = (n, tu, 0)) : Has s i (enc n) ∧ tu = ((i + (enc n).length : Nat) : Int) ∧ 0 ≤ n ∧ n ≤ 268435455 := by
  have hb := getV_to h
  obtain ⟨i', j', e1, e2, hij, hj, _, hn0, hn1⟩ := hb
  obtain rfl : i = i' := by omega
  rw [getV_ok (by omega)] at h
  obtain ⟨r, v, hr1, hr4, hv, hv0, hv1, hmin, he, hsz, hby⟩ := gi_back s 4 0 i 0 n tu h
  obtain rfl : n = v := by rw [hv]; simp
  have hz : sz n = r := by
    have := sz_exact (n := n) (k := r - 1) hn0 (by rw [show r - 1 + 1 = r from by omega]; exact hv1) (by by_cases h1 : r = 1; exact .inl (by omega); exact .inr (hmin (.inl (by omega)))) (by omega)
    omega
  have hen : enc n = vb n r := by unfold enc; rw [hz]; rfl
  refine ⟨?_, by rw [hen, vb_length, he], hn0, hn1⟩
  rw [hen]
  refine has_of_bt (by rw [vb_length]; exact hsz) (fun j hj => ?_)
  have hl : i + j < s.size := by rw [vb_length] at hj; omega
  rw [← get_bt s (i + j) hl, ← hby j hj hl]
theorem gv_cons (s : ByteArray) (a : Nat) : ∀ k, gv s a (k + 1) = bt s a * 256 ^ k + gv s (a + 1) k
  | 0 => by simp [gv]
  | k + 1 => by
    show gv s a (k + 1) * 256 + bt s (a + (k + 1)) = _
    rw [gv_cons s a k]
    show _ = bt s a * 256 ^ (k + 1) + (gv s (a + 1) k * 256 + bt s (a + 1 + k))
    rw [Int.pow_succ, show a + 1 + k = a + (k + 1) from by omega, Int.add_mul, Int.mul_assoc, Int.add_assoc]
theorem mod_mul (n P : Int) (hP : 0 < P) : n % (P * 256) = n / P % 256 * P + n % P := by
  have h1 : n = P * (n / P) + n % P := (Int.mul_ediv_add_emod n P).symm
  have h2 : n / P = 256 * (n / P / 256) + n / P % 256 := (Int.mul_ediv_add_emod (n / P) 256).symm
  have h3 := Int.emod_nonneg n (show P ≠ 0 by omega)
  have h4 := Int.emod_lt_of_pos n hP
  have h5 := Int.emod_nonneg (n / P) (show (256 : Int) ≠ 0 by decide)
  have h6 := Int.emod_lt_of_pos (n / P) (show (0 : Int) < 256 by decide)
  generalize hq : n / P / 256 = q at h2
  generalize hm : n / P % 256 = m at *
  generalize hr : n % P = r at *
  have h7 : n = (m * P + r) + P * 256 * q := by
    rw [h1, h2, Int.mul_add]
    have e1 : P * (256 * q) = P * 256 * q := by rw [Int.mul_assoc]
    have e2 : P * m = m * P := Int.mul_comm _ _
    omega
  rw [h7, Int.add_mul_emod_self_left]
  apply Int.emod_eq_of_lt
  · have := Int.mul_nonneg h5 (Int.le_of_lt hP)
    omega
  · have e : m * P ≤ 255 * P := Int.mul_le_mul_of_nonneg_right (by omega) (Int.le_of_lt hP)
    omega
theorem gv_has {s : ByteArray} {n : Int} : ∀ {k i : Nat}, Has s i (fb k n) → gv s i k = n % 256 ^ k
  | 0, i, _ => by simp [gv]
  | k + 1, i, h => by
    have h' : Has s i ([by8 (n / 256 ^ k)] ++ fb k n) := h
    obtain ⟨h1, h2'⟩ := has_append.1 h'
    have h2 : Has s (i + 1) (fb k n) := h2'
    have hb := has_bt h1 (j := 0) (by simp)
    simp only [List.getElem_cons_zero, by8_toNat, Nat.add_zero] at hb
    rw [gv_cons, hb, gv_has h2, Int.pow_succ]
    exact (mod_mul n (256 ^ k) (Int.pow_pos (by decide))).symm
theorem fb_mod (n : Int) : ∀ k m, k ≤ m → fb k (n % 256 ^ m) = fb k n
  | 0, _, _ => rfl
  | k + 1, m, h => by
    show by8 (n % 256 ^ m / 256 ^ k) :: fb k (n % 256 ^ m) = by8 (n / 256 ^ k) :: fb k n
    rw [fb_mod n k m (by omega)]
    congr 1
    obtain ⟨d, rfl⟩ : ∃ d, m = k + 1 + d := ⟨m - (k + 1), by omega⟩
    have e : (256 : Int) ^ (k + 1 + d) = 256 ^ k * (256 ^ d * 256) := by rw [Int.pow_add, Int.pow_succ, Int.mul_assoc, Int.mul_comm (256 : Int) (256 ^ d)]
    have hp : (0 : Int) < 256 ^ k := Int.pow_pos (by decide)
    rw [e]
    have h1 : n % (256 ^ k * (256 ^ d * 256)) = n - 256 ^ k * (256 ^ d * 256) * (n / (256 ^ k * (256 ^ d * 256))) := by
      have := Int.mul_ediv_add_emod n (256 ^ k * (256 ^ d * 256))
      omega
    rw [h1]
    generalize n / (256 ^ k * (256 ^ d * 256)) = q
    rw [show n - 256 ^ k * (256 ^ d * 256) * q = n + 256 ^ k * (-(256 ^ d * 256 * q)) from by rw [Int.mul_neg, Int.mul_assoc (256 ^ k), Int.sub_eq_add_neg]]
    rw [Int.add_mul_ediv_left _ _ (by omega)]
    have h2 : n / 256 ^ k + -(256 ^ d * 256 * q) = n / 256 ^ k + 256 * (-(256 ^ d * q)) := by
      have : (256 : Int) ^ d * 256 * q = 256 * (256 ^ d * q) := by rw [Int.mul_comm ((256 : Int) ^ d) 256, Int.mul_assoc]
      omega
    unfold by8
    rw [h2, Int.add_mul_emod_self_left]
theorem has_gv {s : ByteArray} : ∀ {k i : Nat}, i + k ≤ s.size → Has s i (fb k (gv s i k))
  | 0, i, h => has_nil (by simpa using h)
  | k + 1, i, h => by
    have hg := gv_bd s (i + 1) k
    have hp : (0 : Int) < 256 ^ k := Int.pow_pos (by decide)
    have hb0 := bt_nonneg s i
    have hb1 := bt_le s i
    show Has s i ([by8 (gv s i (k + 1) / 256 ^ k)] ++ fb k (gv s i (k + 1)))
    have e1 : gv s i (k + 1) / 256 ^ k = bt s i := by
      rw [gv_cons, Int.add_comm, Int.add_mul_ediv_right _ _ (by omega), Int.ediv_eq_zero_of_lt hg.1 hg.2, Int.zero_add]
    have e2 : fb k (gv s i (k + 1)) = fb k (gv s (i + 1) k) := by
      rw [← fb_mod (gv s i (k + 1)) k k (Nat.le_refl _), gv_cons, Int.add_comm, Int.add_mul_emod_self_right, Int.emod_eq_of_lt hg.1 hg.2]
    rw [e1, e2]
    refine has_append.2 ⟨has_of_bt (by simp; omega) (fun j hj => ?_), has_gv (by simp; omega)⟩
    obtain rfl : j = 0 := by simp at hj; omega
    simp only [List.getElem_cons_zero, by8_toNat, Nat.add_zero]
    omega
theorem fixS_ok {k : Nat} {n : Int} (hk : k = 1 ∨ k = 2 ∨ k = 4) (h0 : 0 ≤ n) (h1 : n < 256 ^ k) : fixC k n = 0 ∧ fixS k n = fb k n := fix_in (by unfold Wide; omega) h0 h1
theorem fixC_zero {w n : Int} (h : fixC w n = 0) : ∃ k : Nat, w = k ∧ (k = 1 ∨ k = 2 ∨ k = 4) ∧ 0 ≤ n ∧ n < 256 ^ k := by
  unfold fixC at h
  split at h
  · cases h
  · rename_i hw
    split at h
    · cases h
    · rename_i hn
      have hw' : Wide w := Decidable.not_not.1 hw
      refine ⟨w.toNat, ?_, ?_, by omega, by omega⟩
      all_goals (unfold Wide at hw'; omega)
theorem getF_has {s : ByteArray} {i : Nat} {w n : Int} (hc : fixC w n = 0) (h : Has s i (fixS w n)) : getF s i w = (n, ((i + (fixS w n).length : Nat) : Int), 0) := by
  obtain ⟨k, rfl, hk, h0, h1⟩ := fixC_zero hc
  rw [(fixS_ok hk h0 h1).2] at h ⊢
  have hs := h.1
  rw [fb_length] at hs ⊢
  rw [getF_ok (by unfold Wide; omega) (by omega)]
  show (gv s i k, (i : Int) + k, (0 : Int)) = _
  rw [gv_has h, Int.emod_eq_of_lt h0 h1]
  simp
theorem has_getF {s : ByteArray} {i : Nat} {w n tu : Int} (h : getF s i w = (n, tu, 0)) : fixC w n = 0 ∧ Has s i (fixS w n) ∧ tu = ((i + (fixS w n).length : Nat) : Int) := by
  obtain ⟨i', k, e1, rfl, rfl, hk, hs, rfl⟩ := getF_to h
  obtain rfl : i = i' := by omega
  have hg := gv_bd s i k
  obtain ⟨q1, q2⟩ := fixS_ok hk hg.1 hg.2
  exact ⟨q1, by rw [q2]; exact has_gv hs, by rw [q2, fb_length]⟩
theorem dataS_len {t : ByteArray} (h : dataC t = 0) : t.size ≤ 65535 ∧ (dataS t).data.toList = fb 2 t.size ++ t.data.toList ∧ (dataS t).size = 2 + t.size := by
  have hs : t.size ≤ 65535 := by
    unfold dataC at h
    split at h
    · cases h
    · omega
  have e : (dataS t).data.toList = fb 2 t.size ++ t.data.toList := by
    rw [(data_ok (by omega)).2, ByteArray.data_append, Array.toList_append]
    congr 1
    exact (fixS_ok (k := 2) (n := t.size) (by omega) (by omega) (by show (t.size : Int) < 65536; omega)).2
  refine ⟨hs, e, ?_⟩
  show (dataS t).data.toList.length = _
  rw [e, List.length_append, fb_length]
  rfl
theorem getD_has {s t : ByteArray} {i : Nat} (hc : dataC t = 0) (h : Has s i (dataS t).data.toList) : getD s i = (t, ((i + (dataS t).size : Nat) : Int), 0) := by
  obtain ⟨ht, e, hsz⟩ := dataS_len hc
  rw [e] at h
  obtain ⟨h1, h2⟩ := has_append.1 h
  rw [fb_length] at h2
  obtain ⟨q1, q2⟩ := fixS_ok (k := 2) (n := t.size) (by omega) (by omega) (by show (t.size : Int) < 65536; omega)
  have g := getF_has (s := s) (i := i) (w := 2) (n := t.size) q1 (by rw [show ((2 : Int)) = ((2 : Nat) : Int) from rfl, q2]; exact h1)
  rw [show (fixS 2 t.size).length = 2 from by rw [show ((2 : Int)) = ((2 : Nat) : Int) from rfl, q2, fb_length]] at g
  have hs := h2.1
  have htl : t.data.toList.length = t.size := rfl
  rw [getD_ok (m := t.size) (f := i + 2) g (by omega), extract_has h2, hsz]
  congr 2
  omega
theorem has_getD {s t : ByteArray} {i : Nat} {tu : Int} (h : getD s i = (t, tu, 0)) : dataC t = 0 ∧ Has s i (dataS t).data.toList ∧ tu = ((i + (dataS t).size : Nat) : Int) := by
  obtain ⟨i', m, e1, e2, hs, hm, hg, e3⟩ := getD_to h
  clear h
  obtain rfl : i = i' := by omega
  subst e3 e2
  have hsz : (s.extract (i + 2) (i + 2 + m)).size = m := by rw [ByteArray.size_extract]; omega
  have hc : dataC (s.extract (i + 2) (i + 2 + m)) = 0 := (data_ok (by omega)).1
  obtain ⟨_, e, hz⟩ := dataS_len hc
  refine ⟨hc, ?_, by rw [hz, hsz]; omega⟩
  rw [e, hsz]
  refine has_append.2 ⟨?_, ?_⟩
  · rw [← hg]; exact has_gv (by omega)
  · rw [fb_length]
    exact has_extract hs (by omega)
theorem tputC_zero {t : ByteArray} (h : tputC t = 0) : (flt t t.size 0).2 = false ∧ dataC t = 0 ∧ tputS t = dataS t := by
  by_cases hb : (flt t t.size 0).2 = true
  · rw [(tput_bad hb).1] at h; cases h
  · have hb' : (flt t t.size 0).2 = false := by simpa using hb
    obtain ⟨h1, h2⟩ := tput_ok hb'
    exact ⟨hb', h1.symm.trans h, h2⟩
theorem tget_has {s t : ByteArray} {i : Nat} (hc : tputC t = 0) (h : Has s i (tputS t).data.toList) : tget s i = (t, ((i + (tputS t).size : Nat) : Int), 0) := by
  obtain ⟨hb, h1, h2⟩ := tputC_zero hc
  rw [h2] at h ⊢
  exact tget_ok (getD_has h1 h) hb
theorem has_tget {s t : ByteArray} {i : Nat} {tu : Int} (h : tget s i = (t, tu, 0)) : tputC t = 0 ∧ Has s i (tputS t).data.toList ∧ tu = ((i + (tputS t).size : Nat) : Int) := by
  obtain ⟨hd, hb⟩ := tget_getD h
  obtain ⟨h1, h2, h3⟩ := has_getD hd
  obtain ⟨q1, q2⟩ := tput_ok hb
  rw [q2]
  exact ⟨q1.trans h1, h2, h3⟩
end Go.Proofs.YtedapgeabpadaaaDoor

