/- The walk of a writer's connect. -/
import Derived.Test.YtedapgeabpadaaaDoorH6P12
import Derived.IntWalk
import Derived.BigQuiet
import Derived.Deep.QuietTactic
set_option linter.unusedVariables false
namespace Go.Proofs.YtedapgeabpadaaaDoor
open Go.Shelf Go.RowKit Pl

theorem bt1_bd (b : Bool) (n : Int) (h : 0 ≤ n) : 0 ≤ bt1 b n ∧ bt1 b n ≤ n := by unfold bt1; split <;> omega
theorem bit_q (x : Bool) (n : Int) (w : World) : Calls Tryd.prog 25 #[.bool x, .int .i64 n] w fun e w' => e = .returned (.int .i64 (bt1 x n)) ∧ w' = w := (bit_any x n w).mono fun _ _ h => ⟨h.1, h.2.symm⟩
/-- 'x & 3' of whatever number. -/
theorem and_3 {n : Int} (h0 : -9223372036854775808 ≤ n) (h1 : n ≤ 9223372036854775807) : bits .and .i64 n 3 = n % 4 := by
  show IntKind.i64.wrap ((BitVec.ofInt 64 n &&& BitVec.ofInt 64 3).toNat : Int) = _
  have e : (BitVec.ofInt 64 n &&& BitVec.ofInt 64 3).toNat = (n % 4).toNat := by
    rw [BitVec.toNat_and]
    have h3 : (BitVec.ofInt 64 3).toNat = 2 ^ 2 - 1 := rfl
    rw [h3, Nat.and_two_pow_sub_one_eq_mod, BitVec.toNat_ofInt]
    omega
  rw [e, IntKind.wrap_i64]
  omega
theorem Wst.drewN {W0 : World} {b : Nat} {o : Ot} {w : World} (h : Wst W0 b o w) (n : Nat) : Wst W0 b o (w.drewN n) :=
  ⟨⟨h.below.os, h.below.tape, h.below.output, h.below.size, h.below.block⟩, h.wr⟩
theorem ModT.drewN {T : TypeId → Prop} {a b : World} (h : ModT T a b) (n : Nat) : ModT T a (b.drewN n) := ⟨h.os, h.tape, h.output, h.size, h.block⟩

set_option maxRecDepth 100000 in
set_option maxHeartbeats 8000000 in
theorem wconnect_tt (W0 : World) (b : Nat) (o : Ot) (p : Pk) (m : Hs) (w : World) (hP : PkIn .u8 W0 p m) (hs : o.s.size ≤ 1048576) (h : Wst W0 b o w) (hT : Tabs W0) (hwl : p.hasWill = true) (hus : p.hasUser = true) :
    Calls Tryd.prog 40 #[.pointer (some ⟨b, 0, none⟩), pkV .u8 p m] w fun e w' => WPost W0 b (wConnect o p) w w' e := by
  have hB := Blk.new w (pkA .u8 p m) 45
  have hA := h.alloc (.cells (pkA .u8 p m) 45)
  have mA : ModT wT w (w.alloc (.cells (pkA .u8 p m) 45)) := ModT.of_below ((Below.refl _ _).alloc (Nat.le_refl _) _)
  obtain ⟨W, hW⟩ : ∃ W, w.alloc (.cells (pkA .u8 p m) 45) = W := ⟨_, rfl⟩
  rw [hW] at hB hA mA
  unfold pkA at hW
  have HW := Lib.hid hW
  have HB := Lib.hid hB
  have HA := Lib.hid hA
  have MA := Lib.hid mA
  have HP := Lib.hid hP
  clear hW hB hA mA hP h
  unfold pkV pkA
  rcases (by cases p.hasPass <;> simp : p.hasPass = false ∨ p.hasPass = true) with hps | hps
  · have HWL : Hid (p.hasWill = true) := Lib.hid hwl
    have HUS : Hid (p.hasUser = true) := Lib.hid hus
    have HPS : Hid (p.hasPass = false) := Lib.hid hps
    have a1 := bt1_bd p.clean 2 (by decide)
    have a2 := bt1_bd p.hasPass 64 (by decide)
    have a3 := bt1_bd p.hasUser 128 (by decide)
    have a4 := bt1_bd p.wr 32 (by decide)
    have a5 := Int.emod_nonneg p.wq (show (4 : Int) ≠ 0 by decide)
    have a6 := Int.emod_lt_of_pos p.wq (show (0 : Int) < 4 by decide)
    have hand := and_3 HP.out.fits.wq.1 HP.out.fits.wq.2
    have r1 : IntKind.i64.wrap (bt1 p.clean 2 + bt1 p.hasPass 64) = bt1 p.clean 2 + bt1 p.hasPass 64 := IntWalk.i64_in _ (by omega)
    have r2 : IntKind.i64.wrap (bt1 p.clean 2 + bt1 p.hasPass 64 + bt1 p.hasUser 128) = bt1 p.clean 2 + bt1 p.hasPass 64 + bt1 p.hasUser 128 := IntWalk.i64_in _ (by omega)
    have r3 : IntKind.i64.wrap (4 + p.wq % 4 * 8 + bt1 p.wr 32) = 4 + p.wq % 4 * 8 + bt1 p.wr 32 := IntWalk.i64_in _ (by omega)
    have r4 : IntKind.i64.wrap (bt1 p.clean 2 + bt1 p.hasPass 64 + bt1 p.hasUser 128 + (4 + p.wq % 4 * 8 + bt1 p.wr 32)) = bt1 p.clean 2 + bt1 p.hasPass 64 + bt1 p.hasUser 128 + (4 + p.wq % 4 * 8 + bt1 p.wr 32) := IntWalk.i64_in _ (by omega)
    clear hwl hus hps a1 a2 a3 a4 a5 a6
    go_enter Tryd.func40, Tryd.ntmps40
    have C1 := Lib.hid (wtext_any W0 b o ⟨#[77, 81, 84, 84]⟩ W (by decide) (by omega) HA.out hT)
    go_wp2_with fail
    rw [HW.out]
    (with_reducible refine C1.out.mono ?_)
    rintro e w1 ⟨rfl, h1, m1⟩
    have B1 := Lib.hid (HB.out.modT m1 (by unfold wT; decide))
    have M1 := Lib.hid (MA.out.trans m1)
    obtain ⟨o1, e1⟩ : ∃ x, wText o ⟨#[77, 81, 84, 84]⟩ = x := ⟨_, rfl⟩
    rw [e1] at h1
    have s1 : o1.s.size ≤ 1200000 := by rw [← e1]; have := text_size o ⟨#[77, 81, 84, 84]⟩; omega
    have E1 := Lib.hid e1
    have H1 := Lib.hid h1
    clear e1 h1 m1
    have C2 := Lib.hid (wbyte_any W0 b o1 5 w1 (by omega) H1.out)
    go_wp2_with fail
    (with_reducible refine C2.out.mono ?_)
    rintro e w2 ⟨rfl, h2, m2⟩
    have B2 := Lib.hid (B1.out.modT m2 (by unfold wT; decide))
    have M2 := Lib.hid (M1.out.trans m2)
    obtain ⟨o2, e2⟩ : ∃ x, wNum 1 o1 5 = x := ⟨_, rfl⟩
    rw [e2] at h2
    have s2 : o2.s.size ≤ 1200010 := by rw [← e2]; have := num_size 1 o1 5; have : (1 : Int).toNat = 1 := rfl; omega
    have E2 := Lib.hid e2
    have H2 := Lib.hid h2
    clear e2 h2 m2
    have k2_11 : w2.cell? ⟨w.heap.size, 11, none⟩ = some (.bool p.clean) := B2.out.cell 11
    have k2_20 : w2.cell? ⟨w.heap.size, 20, none⟩ = some (.bool p.hasPass) := B2.out.cell 20
    have k2_19 : w2.cell? ⟨w.heap.size, 19, none⟩ = some (.bool p.hasUser) := B2.out.cell 19
    have g11 := (B2.out.cell 11); clear g11
    go_wp2_with fail
    go_quiet ((go_at_call 25; exact Calls.quiet_of_same (bit_q _ _ _)))
    have HX1 := Lib.hid (Wst.drewN (H2.out) nq)
    have MX1 := Lib.hid (ModT.drewN M2.out nq)
    have BX1 : Hid (Blk (w2.drewN nq) w.heap.size (pkA .u8 p m) 45) := Lib.hid B2.out
    obtain ⟨X1, hX1⟩ : ∃ X, w2.drewN nq = X := ⟨_, rfl⟩
    rw [hX1] at HX1 MX1 BX1 ⊢
    clear hX1
    have x1_13 : X1.cell? ⟨w.heap.size, 13, none⟩ = some (.bool true) := (BX1.out.cell 13).trans (by show some (Value.bool _) = _; rw [HWL.out])
    have x1_16 : X1.cell? ⟨w.heap.size, 16, none⟩ = some (.int .i64 p.wq) := BX1.out.cell 16
    have C3 := Lib.hid (wqos_any W0 b o2 p.wq X1 HX1.out)
    go_wp2_with fail
    (with_reducible refine C3.out.mono ?_)
    rintro e w3 ⟨rfl, h3, m3⟩
    have B3 := Lib.hid (BX1.out.modT m3 (by unfold wT; decide))
    have M3 := Lib.hid (MX1.out.trans m3)
    obtain ⟨o3, e3⟩ : ∃ x, wQos o2 p.wq = x := ⟨_, rfl⟩
    rw [e3] at h3
    have s3 : o3.s.size ≤ 1200010 := by rw [← e3]; have := qos_size o2 p.wq; omega
    have E3 := Lib.hid e3
    have H3 := Lib.hid h3
    clear e3 h3 m3
    have k3_16 : w3.cell? ⟨w.heap.size, 16, none⟩ = some (.int .i64 p.wq) := B3.out.cell 16
    have k3_17 : w3.cell? ⟨w.heap.size, 17, none⟩ = some (.bool p.wr) := B3.out.cell 17
    go_wp2_with fail
    go_quiet ((go_at_call 25; exact Calls.quiet_of_same (bit_q _ _ _)))
    have HX2 := Lib.hid (Wst.drewN (H3.out) nq)
    have MX2 := Lib.hid (ModT.drewN M3.out nq)
    have BX2 : Hid (Blk (w3.drewN nq) w.heap.size (pkA .u8 p m) 45) := Lib.hid B3.out
    obtain ⟨X2, hX2⟩ : ∃ X, w3.drewN nq = X := ⟨_, rfl⟩
    rw [hX2] at HX2 MX2 BX2 ⊢
    clear hX2
    have C4 := Lib.hid (wbyte_any W0 b o3 ((bt1 p.clean 2 + bt1 p.hasPass 64 + bt1 p.hasUser 128) + (4 + p.wq % 4 * 8 + bt1 p.wr 32)) X2 (by omega) HX2.out)
    go_wp2_with fail
    (with_reducible refine C4.out.mono ?_)
    rintro e w4 ⟨rfl, h4, m4⟩
    have B4 := Lib.hid (BX2.out.modT m4 (by unfold wT; decide))
    have M4 := Lib.hid (MX2.out.trans m4)
    obtain ⟨o4, e4⟩ : ∃ x, wNum 1 o3 ((bt1 p.clean 2 + bt1 p.hasPass 64 + bt1 p.hasUser 128) + (4 + p.wq % 4 * 8 + bt1 p.wr 32)) = x := ⟨_, rfl⟩
    rw [e4] at h4
    have s4 : o4.s.size ≤ 1200020 := by rw [← e4]; have := num_size 1 o3 ((bt1 p.clean 2 + bt1 p.hasPass 64 + bt1 p.hasUser 128) + (4 + p.wq % 4 * 8 + bt1 p.wr 32)); have : (1 : Int).toNat = 1 := rfl; omega
    have E4 := Lib.hid e4
    have H4 := Lib.hid h4
    clear e4 h4 m4
    have k4_12 : w4.cell? ⟨w.heap.size, 12, none⟩ = some (.int .i64 p.keep) := B4.out.cell 12
    have C5 := Lib.hid (wtwo_any W0 b o4 p.keep w4 (by omega) H4.out)
    go_wp2_with fail
    (with_reducible refine C5.out.mono ?_)
    rintro e w5 ⟨rfl, h5, m5⟩
    have B5 := Lib.hid (B4.out.modT m5 (by unfold wT; decide))
    have M5 := Lib.hid (M4.out.trans m5)
    obtain ⟨o5, e5⟩ : ∃ x, wNum 2 o4 p.keep = x := ⟨_, rfl⟩
    rw [e5] at h5
    have s5 : o5.s.size ≤ 1200030 := by rw [← e5]; have := num_size 2 o4 p.keep; have : (2 : Int).toNat = 2 := rfl; omega
    have E5 := Lib.hid e5
    have H5 := Lib.hid h5
    clear e5 h5 m5
    have k5_9 : w5.cell? ⟨w.heap.size, 9, none⟩ = some (.slice m.p.A m.p.n m.p.cap) := B5.out.cell 9
    have C6 := Lib.hid (wprops_any W0 b o5 1 m.p.A m.p.n m.p.cap p.ps w5 HP.out.pn HP.out.pc (by have := HP.out.fits.ps.1; have := HP.out.pn; omega) HP.out.pr HP.out.fits.ps.2 (by omega) H5.out hT)
    go_wp2_with fail
    (with_reducible refine C6.out.mono ?_)
    rintro e w6 ⟨rfl, h6, m6⟩
    have B6 := Lib.hid (B5.out.modT m6 (by unfold wT; decide))
    have M6 := Lib.hid (M5.out.trans m6)
    obtain ⟨o6, e6⟩ : ∃ x, wProps 1 o5 p.ps = x := ⟨_, rfl⟩
    rw [e6] at h6
    have s6 : o6.s.size ≤ 9700000 := by rw [← e6]; have := props_size 1 o5 p.ps; omega
    have E6 := Lib.hid e6
    have H6 := Lib.hid h6
    clear e6 h6 m6
    have k6_10 : w6.cell? ⟨w.heap.size, 10, none⟩ = some (.string p.client) := B6.out.cell 10
    have C7 := Lib.hid (wtext_any W0 b o6 p.client w6 (by have := HP.out.fits.client; omega) (by omega) H6.out hT)
    go_wp2_with fail
    (with_reducible refine C7.out.mono ?_)
    rintro e w7 ⟨rfl, h7, m7⟩
    have B7 := Lib.hid (B6.out.modT m7 (by unfold wT; decide))
    have M7 := Lib.hid (M6.out.trans m7)
    obtain ⟨o7, e7⟩ : ∃ x, wText o6 p.client = x := ⟨_, rfl⟩
    rw [e7] at h7
    have s7 : o7.s.size ≤ 9800000 := by rw [← e7]; have := text_size o6 p.client; omega
    have E7 := Lib.hid e7
    have H7 := Lib.hid h7
    clear e7 h7 m7
    have k7_13 : w7.cell? ⟨w.heap.size, 13, none⟩ = some (.bool true) := (B7.out.cell 13).trans (by show some (Value.bool _) = _; rw [HWL.out])
    have k7_18 : w7.cell? ⟨w.heap.size, 18, none⟩ = some (.slice m.w.A m.w.n m.w.cap) := B7.out.cell 18
    have C8 := Lib.hid (wprops_any W0 b o7 0 m.w.A m.w.n m.w.cap p.wps w7 HP.out.wn HP.out.wc (by have := HP.out.fits.wps.1; have := HP.out.wn; omega) HP.out.wr HP.out.fits.wps.2 (by omega) H7.out hT)
    go_wp2_with fail
    (with_reducible refine C8.out.mono ?_)
    rintro e w8 ⟨rfl, h8, m8⟩
    have B8 := Lib.hid (B7.out.modT m8 (by unfold wT; decide))
    have M8 := Lib.hid (M7.out.trans m8)
    obtain ⟨o8, e8⟩ : ∃ x, wProps 0 o7 p.wps = x := ⟨_, rfl⟩
    rw [e8] at h8
    have s8 : o8.s.size ≤ 18500000 := by rw [← e8]; have := props_size 0 o7 p.wps; omega
    have E8 := Lib.hid e8
    have H8 := Lib.hid h8
    clear e8 h8 m8
    have k8_14 : w8.cell? ⟨w.heap.size, 14, none⟩ = some (.string p.wt) := B8.out.cell 14
    have C9 := Lib.hid (wtext_any W0 b o8 p.wt w8 (by have := HP.out.fits.wt; omega) (by omega) H8.out hT)
    go_wp2_with fail
    (with_reducible refine C9.out.mono ?_)
    rintro e w9 ⟨rfl, h9, m9⟩
    have B9 := Lib.hid (B8.out.modT m9 (by unfold wT; decide))
    have M9 := Lib.hid (M8.out.trans m9)
    obtain ⟨o9, e9⟩ : ∃ x, wText o8 p.wt = x := ⟨_, rfl⟩
    rw [e9] at h9
    have s9 : o9.s.size ≤ 18600000 := by rw [← e9]; have := text_size o8 p.wt; omega
    have E9 := Lib.hid e9
    have H9 := Lib.hid h9
    clear e9 h9 m9
    have k9_15 : w9.cell? ⟨w.heap.size, 15, none⟩ = some (.string p.wp) := B9.out.cell 15
    have C10 := Lib.hid (wdata_any W0 b o9 p.wp w9 (by have := HP.out.fits.wp; omega) (by omega) H9.out)
    go_wp2_with fail
    (with_reducible refine C10.out.mono ?_)
    rintro e w10 ⟨rfl, h10, m10⟩
    have B10 := Lib.hid (B9.out.modT m10 (by unfold wT; decide))
    have M10 := Lib.hid (M9.out.trans m10)
    obtain ⟨o10, e10⟩ : ∃ x, wData o9 p.wp = x := ⟨_, rfl⟩
    rw [e10] at h10
    have s10 : o10.s.size ≤ 18700000 := by rw [← e10]; have := data_size o9 p.wp; omega
    have E10 := Lib.hid e10
    have H10 := Lib.hid h10
    clear e10 h10 m10
    have k10_19 : w10.cell? ⟨w.heap.size, 19, none⟩ = some (.bool true) := (B10.out.cell 19).trans (by show some (Value.bool _) = _; rw [HUS.out])
    have k10_21 : w10.cell? ⟨w.heap.size, 21, none⟩ = some (.string p.user) := B10.out.cell 21
    have C11 := Lib.hid (wtext_any W0 b o10 p.user w10 (by have := HP.out.fits.user; omega) (by omega) H10.out hT)
    go_wp2_with fail
    (with_reducible refine C11.out.mono ?_)
    rintro e w11 ⟨rfl, h11, m11⟩
    have B11 := Lib.hid (B10.out.modT m11 (by unfold wT; decide))
    have M11 := Lib.hid (M10.out.trans m11)
    obtain ⟨o11, e11⟩ : ∃ x, wText o10 p.user = x := ⟨_, rfl⟩
    rw [e11] at h11
    have s11 : o11.s.size ≤ 18800000 := by rw [← e11]; have := text_size o10 p.user; omega
    have E11 := Lib.hid e11
    have H11 := Lib.hid h11
    clear e11 h11 m11
    have k11_20 : w11.cell? ⟨w.heap.size, 20, none⟩ = some (.bool false) := (B11.out.cell 20).trans (by show some (Value.bool _) = _; rw [HPS.out])
    go_wp2
    go_end0
    refine ⟨rfl, ?_, M11.out⟩
    have e : wConnect o p = o11 := by
      unfold wConnect cPass cUser cWill cHead
      rw [HWL.out, HUS.out, HPS.out]
      simp only [if_true, Bool.false_eq_true, if_false]
      rw [show name5 = ⟨#[77, 81, 84, 84]⟩ from rfl, show cFlags p = ((bt1 p.clean 2 + bt1 p.hasPass 64 + bt1 p.hasUser 128) + (4 + p.wq % 4 * 8 + bt1 p.wr 32)) from by unfold cFlags; rw [HWL.out]; simp; omega, E1.out, E2.out, E3.out, E4.out, E5.out, E6.out, E7.out, E8.out, E9.out, E10.out, E11.out]
    rw [e]
    exact H11.out
  · have HWL : Hid (p.hasWill = true) := Lib.hid hwl
    have HUS : Hid (p.hasUser = true) := Lib.hid hus
    have HPS : Hid (p.hasPass = true) := Lib.hid hps
    have a1 := bt1_bd p.clean 2 (by decide)
    have a2 := bt1_bd p.hasPass 64 (by decide)
    have a3 := bt1_bd p.hasUser 128 (by decide)
    have a4 := bt1_bd p.wr 32 (by decide)
    have a5 := Int.emod_nonneg p.wq (show (4 : Int) ≠ 0 by decide)
    have a6 := Int.emod_lt_of_pos p.wq (show (0 : Int) < 4 by decide)
    have hand := and_3 HP.out.fits.wq.1 HP.out.fits.wq.2
    have r1 : IntKind.i64.wrap (bt1 p.clean 2 + bt1 p.hasPass 64) = bt1 p.clean 2 + bt1 p.hasPass 64 := IntWalk.i64_in _ (by omega)
    have r2 : IntKind.i64.wrap (bt1 p.clean 2 + bt1 p.hasPass 64 + bt1 p.hasUser 128) = bt1 p.clean 2 + bt1 p.hasPass 64 + bt1 p.hasUser 128 := IntWalk.i64_in _ (by omega)
    have r3 : IntKind.i64.wrap (4 + p.wq % 4 * 8 + bt1 p.wr 32) = 4 + p.wq % 4 * 8 + bt1 p.wr 32 := IntWalk.i64_in _ (by omega)
    have r4 : IntKind.i64.wrap (bt1 p.clean 2 + bt1 p.hasPass 64 + bt1 p.hasUser 128 + (4 + p.wq % 4 * 8 + bt1 p.wr 32)) = bt1 p.clean 2 + bt1 p.hasPass 64 + bt1 p.hasUser 128 + (4 + p.wq % 4 * 8 + bt1 p.wr 32) := IntWalk.i64_in _ (by omega)
    clear hwl hus hps a1 a2 a3 a4 a5 a6
    go_enter Tryd.func40, Tryd.ntmps40
    have C1 := Lib.hid (wtext_any W0 b o ⟨#[77, 81, 84, 84]⟩ W (by decide) (by omega) HA.out hT)
    go_wp2_with fail
    rw [HW.out]
    (with_reducible refine C1.out.mono ?_)
    rintro e w1 ⟨rfl, h1, m1⟩
    have B1 := Lib.hid (HB.out.modT m1 (by unfold wT; decide))
    have M1 := Lib.hid (MA.out.trans m1)
    obtain ⟨o1, e1⟩ : ∃ x, wText o ⟨#[77, 81, 84, 84]⟩ = x := ⟨_, rfl⟩
    rw [e1] at h1
    have s1 : o1.s.size ≤ 1200000 := by rw [← e1]; have := text_size o ⟨#[77, 81, 84, 84]⟩; omega
    have E1 := Lib.hid e1
    have H1 := Lib.hid h1
    clear e1 h1 m1
    have C2 := Lib.hid (wbyte_any W0 b o1 5 w1 (by omega) H1.out)
    go_wp2_with fail
    (with_reducible refine C2.out.mono ?_)
    rintro e w2 ⟨rfl, h2, m2⟩
    have B2 := Lib.hid (B1.out.modT m2 (by unfold wT; decide))
    have M2 := Lib.hid (M1.out.trans m2)
    obtain ⟨o2, e2⟩ : ∃ x, wNum 1 o1 5 = x := ⟨_, rfl⟩
    rw [e2] at h2
    have s2 : o2.s.size ≤ 1200010 := by rw [← e2]; have := num_size 1 o1 5; have : (1 : Int).toNat = 1 := rfl; omega
    have E2 := Lib.hid e2
    have H2 := Lib.hid h2
    clear e2 h2 m2
    have k2_11 : w2.cell? ⟨w.heap.size, 11, none⟩ = some (.bool p.clean) := B2.out.cell 11
    have k2_20 : w2.cell? ⟨w.heap.size, 20, none⟩ = some (.bool p.hasPass) := B2.out.cell 20
    have k2_19 : w2.cell? ⟨w.heap.size, 19, none⟩ = some (.bool p.hasUser) := B2.out.cell 19
    have g11 := (B2.out.cell 11); clear g11
    go_wp2_with fail
    go_quiet ((go_at_call 25; exact Calls.quiet_of_same (bit_q _ _ _)))
    have HX1 := Lib.hid (Wst.drewN (H2.out) nq)
    have MX1 := Lib.hid (ModT.drewN M2.out nq)
    have BX1 : Hid (Blk (w2.drewN nq) w.heap.size (pkA .u8 p m) 45) := Lib.hid B2.out
    obtain ⟨X1, hX1⟩ : ∃ X, w2.drewN nq = X := ⟨_, rfl⟩
    rw [hX1] at HX1 MX1 BX1 ⊢
    clear hX1
    have x1_13 : X1.cell? ⟨w.heap.size, 13, none⟩ = some (.bool true) := (BX1.out.cell 13).trans (by show some (Value.bool _) = _; rw [HWL.out])
    have x1_16 : X1.cell? ⟨w.heap.size, 16, none⟩ = some (.int .i64 p.wq) := BX1.out.cell 16
    have C3 := Lib.hid (wqos_any W0 b o2 p.wq X1 HX1.out)
    go_wp2_with fail
    (with_reducible refine C3.out.mono ?_)
    rintro e w3 ⟨rfl, h3, m3⟩
    have B3 := Lib.hid (BX1.out.modT m3 (by unfold wT; decide))
    have M3 := Lib.hid (MX1.out.trans m3)
    obtain ⟨o3, e3⟩ : ∃ x, wQos o2 p.wq = x := ⟨_, rfl⟩
    rw [e3] at h3
    have s3 : o3.s.size ≤ 1200010 := by rw [← e3]; have := qos_size o2 p.wq; omega
    have E3 := Lib.hid e3
    have H3 := Lib.hid h3
    clear e3 h3 m3
    have k3_16 : w3.cell? ⟨w.heap.size, 16, none⟩ = some (.int .i64 p.wq) := B3.out.cell 16
    have k3_17 : w3.cell? ⟨w.heap.size, 17, none⟩ = some (.bool p.wr) := B3.out.cell 17
    go_wp2_with fail
    go_quiet ((go_at_call 25; exact Calls.quiet_of_same (bit_q _ _ _)))
    have HX2 := Lib.hid (Wst.drewN (H3.out) nq)
    have MX2 := Lib.hid (ModT.drewN M3.out nq)
    have BX2 : Hid (Blk (w3.drewN nq) w.heap.size (pkA .u8 p m) 45) := Lib.hid B3.out
    obtain ⟨X2, hX2⟩ : ∃ X, w3.drewN nq = X := ⟨_, rfl⟩
    rw [hX2] at HX2 MX2 BX2 ⊢
    clear hX2
    have C4 := Lib.hid (wbyte_any W0 b o3 ((bt1 p.clean 2 + bt1 p.hasPass 64 + bt1 p.hasUser 128) + (4 + p.wq % 4 * 8 + bt1 p.wr 32)) X2 (by omega) HX2.out)
    go_wp2_with fail
    (with_reducible refine C4.out.mono ?_)
    rintro e w4 ⟨rfl, h4, m4⟩
    have B4 := Lib.hid (BX2.out.modT m4 (by unfold wT; decide))
    have M4 := Lib.hid (MX2.out.trans m4)
    obtain ⟨o4, e4⟩ : ∃ x, wNum 1 o3 ((bt1 p.clean 2 + bt1 p.hasPass 64 + bt1 p.hasUser 128) + (4 + p.wq % 4 * 8 + bt1 p.wr 32)) = x := ⟨_, rfl⟩
    rw [e4] at h4
    have s4 : o4.s.size ≤ 1200020 := by rw [← e4]; have := num_size 1 o3 ((bt1 p.clean 2 + bt1 p.hasPass 64 + bt1 p.hasUser 128) + (4 + p.wq % 4 * 8 + bt1 p.wr 32)); have : (1 : Int).toNat = 1 := rfl; omega
    have E4 := Lib.hid e4
    have H4 := Lib.hid h4
    clear e4 h4 m4
    have k4_12 : w4.cell? ⟨w.heap.size, 12, none⟩ = some (.int .i64 p.keep) := B4.out.cell 12
    have C5 := Lib.hid (wtwo_any W0 b o4 p.keep w4 (by omega) H4.out)
    go_wp2_with fail
    (with_reducible refine C5.out.mono ?_)
    rintro e w5 ⟨rfl, h5, m5⟩
    have B5 := Lib.hid (B4.out.modT m5 (by unfold wT; decide))
    have M5 := Lib.hid (M4.out.trans m5)
    obtain ⟨o5, e5⟩ : ∃ x, wNum 2 o4 p.keep = x := ⟨_, rfl⟩
    rw [e5] at h5
    have s5 : o5.s.size ≤ 1200030 := by rw [← e5]; have := num_size 2 o4 p.keep; have : (2 : Int).toNat = 2 := rfl; omega
    have E5 := Lib.hid e5
    have H5 := Lib.hid h5
    clear e5 h5 m5
    have k5_9 : w5.cell? ⟨w.heap.size, 9, none⟩ = some (.slice m.p.A m.p.n m.p.cap) := B5.out.cell 9
    have C6 := Lib.hid (wprops_any W0 b o5 1 m.p.A m.p.n m.p.cap p.ps w5 HP.out.pn HP.out.pc (by have := HP.out.fits.ps.1; have := HP.out.pn; omega) HP.out.pr HP.out.fits.ps.2 (by omega) H5.out hT)
    go_wp2_with fail
    (with_reducible refine C6.out.mono ?_)
    rintro e w6 ⟨rfl, h6, m6⟩
    have B6 := Lib.hid (B5.out.modT m6 (by unfold wT; decide))
    have M6 := Lib.hid (M5.out.trans m6)
    obtain ⟨o6, e6⟩ : ∃ x, wProps 1 o5 p.ps = x := ⟨_, rfl⟩
    rw [e6] at h6
    have s6 : o6.s.size ≤ 9700000 := by rw [← e6]; have := props_size 1 o5 p.ps; omega
    have E6 := Lib.hid e6
    have H6 := Lib.hid h6
    clear e6 h6 m6
    have k6_10 : w6.cell? ⟨w.heap.size, 10, none⟩ = some (.string p.client) := B6.out.cell 10
    have C7 := Lib.hid (wtext_any W0 b o6 p.client w6 (by have := HP.out.fits.client; omega) (by omega) H6.out hT)
    go_wp2_with fail
    (with_reducible refine C7.out.mono ?_)
    rintro e w7 ⟨rfl, h7, m7⟩
    have B7 := Lib.hid (B6.out.modT m7 (by unfold wT; decide))
    have M7 := Lib.hid (M6.out.trans m7)
    obtain ⟨o7, e7⟩ : ∃ x, wText o6 p.client = x := ⟨_, rfl⟩
    rw [e7] at h7
    have s7 : o7.s.size ≤ 9800000 := by rw [← e7]; have := text_size o6 p.client; omega
    have E7 := Lib.hid e7
    have H7 := Lib.hid h7
    clear e7 h7 m7
    have k7_13 : w7.cell? ⟨w.heap.size, 13, none⟩ = some (.bool true) := (B7.out.cell 13).trans (by show some (Value.bool _) = _; rw [HWL.out])
    have k7_18 : w7.cell? ⟨w.heap.size, 18, none⟩ = some (.slice m.w.A m.w.n m.w.cap) := B7.out.cell 18
    have C8 := Lib.hid (wprops_any W0 b o7 0 m.w.A m.w.n m.w.cap p.wps w7 HP.out.wn HP.out.wc (by have := HP.out.fits.wps.1; have := HP.out.wn; omega) HP.out.wr HP.out.fits.wps.2 (by omega) H7.out hT)
    go_wp2_with fail
    (with_reducible refine C8.out.mono ?_)
    rintro e w8 ⟨rfl, h8, m8⟩
    have B8 := Lib.hid (B7.out.modT m8 (by unfold wT; decide))
    have M8 := Lib.hid (M7.out.trans m8)
    obtain ⟨o8, e8⟩ : ∃ x, wProps 0 o7 p.wps = x := ⟨_, rfl⟩
    rw [e8] at h8
    have s8 : o8.s.size ≤ 18500000 := by rw [← e8]; have := props_size 0 o7 p.wps; omega
    have E8 := Lib.hid e8
    have H8 := Lib.hid h8
    clear e8 h8 m8
    have k8_14 : w8.cell? ⟨w.heap.size, 14, none⟩ = some (.string p.wt) := B8.out.cell 14
    have C9 := Lib.hid (wtext_any W0 b o8 p.wt w8 (by have := HP.out.fits.wt; omega) (by omega) H8.out hT)
    go_wp2_with fail
    (with_reducible refine C9.out.mono ?_)
    rintro e w9 ⟨rfl, h9, m9⟩
    have B9 := Lib.hid (B8.out.modT m9 (by unfold wT; decide))
    have M9 := Lib.hid (M8.out.trans m9)
    obtain ⟨o9, e9⟩ : ∃ x, wText o8 p.wt = x := ⟨_, rfl⟩
    rw [e9] at h9
    have s9 : o9.s.size ≤ 18600000 := by rw [← e9]; have := text_size o8 p.wt; omega
    have E9 := Lib.hid e9
    have H9 := Lib.hid h9
    clear e9 h9 m9
    have k9_15 : w9.cell? ⟨w.heap.size, 15, none⟩ = some (.string p.wp) := B9.out.cell 15
    have C10 := Lib.hid (wdata_any W0 b o9 p.wp w9 (by have := HP.out.fits.wp; omega) (by omega) H9.out)
    go_wp2_with fail
    (with_reducible refine C10.out.mono ?_)
    rintro e w10 ⟨rfl, h10, m10⟩
    have B10 := Lib.hid (B9.out.modT m10 (by unfold wT; decide))
    have M10 := Lib.hid (M9.out.trans m10)
    obtain ⟨o10, e10⟩ : ∃ x, wData o9 p.wp = x := ⟨_, rfl⟩
    rw [e10] at h10
    have s10 : o10.s.size ≤ 18700000 := by rw [← e10]; have := data_size o9 p.wp; omega
    have E10 := Lib.hid e10
    have H10 := Lib.hid h10
    clear e10 h10 m10
    have k10_19 : w10.cell? ⟨w.heap.size, 19, none⟩ = some (.bool true) := (B10.out.cell 19).trans (by show some (Value.bool _) = _; rw [HUS.out])
    have k10_21 : w10.cell? ⟨w.heap.size, 21, none⟩ = some (.string p.user) := B10.out.cell 21
    have C11 := Lib.hid (wtext_any W0 b o10 p.user w10 (by have := HP.out.fits.user; omega) (by omega) H10.out hT)
    go_wp2_with fail
    (with_reducible refine C11.out.mono ?_)
    rintro e w11 ⟨rfl, h11, m11⟩
    have B11 := Lib.hid (B10.out.modT m11 (by unfold wT; decide))
    have M11 := Lib.hid (M10.out.trans m11)
    obtain ⟨o11, e11⟩ : ∃ x, wText o10 p.user = x := ⟨_, rfl⟩
    rw [e11] at h11
    have s11 : o11.s.size ≤ 18800000 := by rw [← e11]; have := text_size o10 p.user; omega
    have E11 := Lib.hid e11
    have H11 := Lib.hid h11
    clear e11 h11 m11
    have k11_20 : w11.cell? ⟨w.heap.size, 20, none⟩ = some (.bool true) := (B11.out.cell 20).trans (by show some (Value.bool _) = _; rw [HPS.out])
    have k11_22 : w11.cell? ⟨w.heap.size, 22, none⟩ = some (.string p.pass) := B11.out.cell 22
    have C12 := Lib.hid (wdata_any W0 b o11 p.pass w11 (by have := HP.out.fits.pass; omega) (by omega) H11.out)
    go_wp2_with fail
    (with_reducible refine C12.out.mono ?_)
    rintro e w12 ⟨rfl, h12, m12⟩
    have B12 := Lib.hid (B11.out.modT m12 (by unfold wT; decide))
    have M12 := Lib.hid (M11.out.trans m12)
    obtain ⟨o12, e12⟩ : ∃ x, wData o11 p.pass = x := ⟨_, rfl⟩
    rw [e12] at h12
    have s12 : o12.s.size ≤ 18900000 := by rw [← e12]; have := data_size o11 p.pass; omega
    have E12 := Lib.hid e12
    have H12 := Lib.hid h12
    clear e12 h12 m12
    go_wp2
    go_end0
    refine ⟨rfl, ?_, M12.out⟩
    have e : wConnect o p = o12 := by
      unfold wConnect cPass cUser cWill cHead
      rw [HWL.out, HUS.out, HPS.out]
      simp only [if_true]
      rw [show name5 = ⟨#[77, 81, 84, 84]⟩ from rfl, show cFlags p = ((bt1 p.clean 2 + bt1 p.hasPass 64 + bt1 p.hasUser 128) + (4 + p.wq % 4 * 8 + bt1 p.wr 32)) from by unfold cFlags; rw [HWL.out]; simp; omega, E1.out, E2.out, E3.out, E4.out, E5.out, E6.out, E7.out, E8.out, E9.out, E10.out, E11.out, E12.out]
    rw [e]
    exact H12.out
set_option maxRecDepth 100000 in
set_option maxHeartbeats 8000000 in
theorem wconnect_tf (W0 : World) (b : Nat) (o : Ot) (p : Pk) (m : Hs) (w : World) (hP : PkIn .u8 W0 p m) (hs : o.s.size ≤ 1048576) (h : Wst W0 b o w) (hT : Tabs W0) (hwl : p.hasWill = true) (hus : p.hasUser = false) :
    Calls Tryd.prog 40 #[.pointer (some ⟨b, 0, none⟩), pkV .u8 p m] w fun e w' => WPost W0 b (wConnect o p) w w' e := by
  have hB := Blk.new w (pkA .u8 p m) 45
  have hA := h.alloc (.cells (pkA .u8 p m) 45)
  have mA : ModT wT w (w.alloc (.cells (pkA .u8 p m) 45)) := ModT.of_below ((Below.refl _ _).alloc (Nat.le_refl _) _)
  obtain ⟨W, hW⟩ : ∃ W, w.alloc (.cells (pkA .u8 p m) 45) = W := ⟨_, rfl⟩
  rw [hW] at hB hA mA
  unfold pkA at hW
  have HW := Lib.hid hW
  have HB := Lib.hid hB
  have HA := Lib.hid hA
  have MA := Lib.hid mA
  have HP := Lib.hid hP
  clear hW hB hA mA hP h
  unfold pkV pkA
  rcases (by cases p.hasPass <;> simp : p.hasPass = false ∨ p.hasPass = true) with hps | hps
  · have HWL : Hid (p.hasWill = true) := Lib.hid hwl
    have HUS : Hid (p.hasUser = false) := Lib.hid hus
    have HPS : Hid (p.hasPass = false) := Lib.hid hps
    have a1 := bt1_bd p.clean 2 (by decide)
    have a2 := bt1_bd p.hasPass 64 (by decide)
    have a3 := bt1_bd p.hasUser 128 (by decide)
    have a4 := bt1_bd p.wr 32 (by decide)
    have a5 := Int.emod_nonneg p.wq (show (4 : Int) ≠ 0 by decide)
    have a6 := Int.emod_lt_of_pos p.wq (show (0 : Int) < 4 by decide)
    have hand := and_3 HP.out.fits.wq.1 HP.out.fits.wq.2
    have r1 : IntKind.i64.wrap (bt1 p.clean 2 + bt1 p.hasPass 64) = bt1 p.clean 2 + bt1 p.hasPass 64 := IntWalk.i64_in _ (by omega)
    have r2 : IntKind.i64.wrap (bt1 p.clean 2 + bt1 p.hasPass 64 + bt1 p.hasUser 128) = bt1 p.clean 2 + bt1 p.hasPass 64 + bt1 p.hasUser 128 := IntWalk.i64_in _ (by omega)
    have r3 : IntKind.i64.wrap (4 + p.wq % 4 * 8 + bt1 p.wr 32) = 4 + p.wq % 4 * 8 + bt1 p.wr 32 := IntWalk.i64_in _ (by omega)
    have r4 : IntKind.i64.wrap (bt1 p.clean 2 + bt1 p.hasPass 64 + bt1 p.hasUser 128 + (4 + p.wq % 4 * 8 + bt1 p.wr 32)) = bt1 p.clean 2 + bt1 p.hasPass 64 + bt1 p.hasUser 128 + (4 + p.wq % 4 * 8 + bt1 p.wr 32) := IntWalk.i64_in _ (by omega)
    clear hwl hus hps a1 a2 a3 a4 a5 a6
    go_enter Tryd.func40, Tryd.ntmps40
    have C1 := Lib.hid (wtext_any W0 b o ⟨#[77, 81, 84, 84]⟩ W (by decide) (by omega) HA.out hT)
    go_wp2_with fail
    rw [HW.out]
    (with_reducible refine C1.out.mono ?_)
    rintro e w1 ⟨rfl, h1, m1⟩
    have B1 := Lib.hid (HB.out.modT m1 (by unfold wT; decide))
    have M1 := Lib.hid (MA.out.trans m1)
    obtain ⟨o1, e1⟩ : ∃ x, wText o ⟨#[77, 81, 84, 84]⟩ = x := ⟨_, rfl⟩
    rw [e1] at h1
    have s1 : o1.s.size ≤ 1200000 := by rw [← e1]; have := text_size o ⟨#[77, 81, 84, 84]⟩; omega
    have E1 := Lib.hid e1
    have H1 := Lib.hid h1
    clear e1 h1 m1
    have C2 := Lib.hid (wbyte_any W0 b o1 5 w1 (by omega) H1.out)
    go_wp2_with fail
    (with_reducible refine C2.out.mono ?_)
    rintro e w2 ⟨rfl, h2, m2⟩
    have B2 := Lib.hid (B1.out.modT m2 (by unfold wT; decide))
    have M2 := Lib.hid (M1.out.trans m2)
    obtain ⟨o2, e2⟩ : ∃ x, wNum 1 o1 5 = x := ⟨_, rfl⟩
    rw [e2] at h2
    have s2 : o2.s.size ≤ 1200010 := by rw [← e2]; have := num_size 1 o1 5; have : (1 : Int).toNat = 1 := rfl; omega
    have E2 := Lib.hid e2
    have H2 := Lib.hid h2
    clear e2 h2 m2
    have k2_11 : w2.cell? ⟨w.heap.size, 11, none⟩ = some (.bool p.clean) := B2.out.cell 11
    have k2_20 : w2.cell? ⟨w.heap.size, 20, none⟩ = some (.bool p.hasPass) := B2.out.cell 20
    have k2_19 : w2.cell? ⟨w.heap.size, 19, none⟩ = some (.bool p.hasUser) := B2.out.cell 19
    have g11 := (B2.out.cell 11); clear g11
    go_wp2_with fail
    go_quiet ((go_at_call 25; exact Calls.quiet_of_same (bit_q _ _ _)))
    have HX1 := Lib.hid (Wst.drewN (H2.out) nq)
    have MX1 := Lib.hid (ModT.drewN M2.out nq)
    have BX1 : Hid (Blk (w2.drewN nq) w.heap.size (pkA .u8 p m) 45) := Lib.hid B2.out
    obtain ⟨X1, hX1⟩ : ∃ X, w2.drewN nq = X := ⟨_, rfl⟩
    rw [hX1] at HX1 MX1 BX1 ⊢
    clear hX1
    have x1_13 : X1.cell? ⟨w.heap.size, 13, none⟩ = some (.bool true) := (BX1.out.cell 13).trans (by show some (Value.bool _) = _; rw [HWL.out])
    have x1_16 : X1.cell? ⟨w.heap.size, 16, none⟩ = some (.int .i64 p.wq) := BX1.out.cell 16
    have C3 := Lib.hid (wqos_any W0 b o2 p.wq X1 HX1.out)
    go_wp2_with fail
    (with_reducible refine C3.out.mono ?_)
    rintro e w3 ⟨rfl, h3, m3⟩
    have B3 := Lib.hid (BX1.out.modT m3 (by unfold wT; decide))
    have M3 := Lib.hid (MX1.out.trans m3)
    obtain ⟨o3, e3⟩ : ∃ x, wQos o2 p.wq = x := ⟨_, rfl⟩
    rw [e3] at h3
    have s3 : o3.s.size ≤ 1200010 := by rw [← e3]; have := qos_size o2 p.wq; omega
    have E3 := Lib.hid e3
    have H3 := Lib.hid h3
    clear e3 h3 m3
    have k3_16 : w3.cell? ⟨w.heap.size, 16, none⟩ = some (.int .i64 p.wq) := B3.out.cell 16
    have k3_17 : w3.cell? ⟨w.heap.size, 17, none⟩ = some (.bool p.wr) := B3.out.cell 17
    go_wp2_with fail
    go_quiet ((go_at_call 25; exact Calls.quiet_of_same (bit_q _ _ _)))
    have HX2 := Lib.hid (Wst.drewN (H3.out) nq)
    have MX2 := Lib.hid (ModT.drewN M3.out nq)
    have BX2 : Hid (Blk (w3.drewN nq) w.heap.size (pkA .u8 p m) 45) := Lib.hid B3.out
    obtain ⟨X2, hX2⟩ : ∃ X, w3.drewN nq = X := ⟨_, rfl⟩
    rw [hX2] at HX2 MX2 BX2 ⊢
    clear hX2
    have C4 := Lib.hid (wbyte_any W0 b o3 ((bt1 p.clean 2 + bt1 p.hasPass 64 + bt1 p.hasUser 128) + (4 + p.wq % 4 * 8 + bt1 p.wr 32)) X2 (by omega) HX2.out)
    go_wp2_with fail
    (with_reducible refine C4.out.mono ?_)
    rintro e w4 ⟨rfl, h4, m4⟩
    have B4 := Lib.hid (BX2.out.modT m4 (by unfold wT; decide))
    have M4 := Lib.hid (MX2.out.trans m4)
    obtain ⟨o4, e4⟩ : ∃ x, wNum 1 o3 ((bt1 p.clean 2 + bt1 p.hasPass 64 + bt1 p.hasUser 128) + (4 + p.wq % 4 * 8 + bt1 p.wr 32)) = x := ⟨_, rfl⟩
    rw [e4] at h4
    have s4 : o4.s.size ≤ 1200020 := by rw [← e4]; have := num_size 1 o3 ((bt1 p.clean 2 + bt1 p.hasPass 64 + bt1 p.hasUser 128) + (4 + p.wq % 4 * 8 + bt1 p.wr 32)); have : (1 : Int).toNat = 1 := rfl; omega
    have E4 := Lib.hid e4
    have H4 := Lib.hid h4
    clear e4 h4 m4
    have k4_12 : w4.cell? ⟨w.heap.size, 12, none⟩ = some (.int .i64 p.keep) := B4.out.cell 12
    have C5 := Lib.hid (wtwo_any W0 b o4 p.keep w4 (by omega) H4.out)
    go_wp2_with fail
    (with_reducible refine C5.out.mono ?_)
    rintro e w5 ⟨rfl, h5, m5⟩
    have B5 := Lib.hid (B4.out.modT m5 (by unfold wT; decide))
    have M5 := Lib.hid (M4.out.trans m5)
    obtain ⟨o5, e5⟩ : ∃ x, wNum 2 o4 p.keep = x := ⟨_, rfl⟩
    rw [e5] at h5
    have s5 : o5.s.size ≤ 1200030 := by rw [← e5]; have := num_size 2 o4 p.keep; have : (2 : Int).toNat = 2 := rfl; omega
    have E5 := Lib.hid e5
    have H5 := Lib.hid h5
    clear e5 h5 m5
    have k5_9 : w5.cell? ⟨w.heap.size, 9, none⟩ = some (.slice m.p.A m.p.n m.p.cap) := B5.out.cell 9
    have C6 := Lib.hid (wprops_any W0 b o5 1 m.p.A m.p.n m.p.cap p.ps w5 HP.out.pn HP.out.pc (by have := HP.out.fits.ps.1; have := HP.out.pn; omega) HP.out.pr HP.out.fits.ps.2 (by omega) H5.out hT)
    go_wp2_with fail
    (with_reducible refine C6.out.mono ?_)
    rintro e w6 ⟨rfl, h6, m6⟩
    have B6 := Lib.hid (B5.out.modT m6 (by unfold wT; decide))
    have M6 := Lib.hid (M5.out.trans m6)
    obtain ⟨o6, e6⟩ : ∃ x, wProps 1 o5 p.ps = x := ⟨_, rfl⟩
    rw [e6] at h6
    have s6 : o6.s.size ≤ 9700000 := by rw [← e6]; have := props_size 1 o5 p.ps; omega
    have E6 := Lib.hid e6
    have H6 := Lib.hid h6
    clear e6 h6 m6
    have k6_10 : w6.cell? ⟨w.heap.size, 10, none⟩ = some (.string p.client) := B6.out.cell 10
    have C7 := Lib.hid (wtext_any W0 b o6 p.client w6 (by have := HP.out.fits.client; omega) (by omega) H6.out hT)
    go_wp2_with fail
    (with_reducible refine C7.out.mono ?_)
    rintro e w7 ⟨rfl, h7, m7⟩
    have B7 := Lib.hid (B6.out.modT m7 (by unfold wT; decide))
    have M7 := Lib.hid (M6.out.trans m7)
    obtain ⟨o7, e7⟩ : ∃ x, wText o6 p.client = x := ⟨_, rfl⟩
    rw [e7] at h7
    have s7 : o7.s.size ≤ 9800000 := by rw [← e7]; have := text_size o6 p.client; omega
    have E7 := Lib.hid e7
    have H7 := Lib.hid h7
    clear e7 h7 m7
    have k7_13 : w7.cell? ⟨w.heap.size, 13, none⟩ = some (.bool true) := (B7.out.cell 13).trans (by show some (Value.bool _) = _; rw [HWL.out])
    have k7_18 : w7.cell? ⟨w.heap.size, 18, none⟩ = some (.slice m.w.A m.w.n m.w.cap) := B7.out.cell 18
    have C8 := Lib.hid (wprops_any W0 b o7 0 m.w.A m.w.n m.w.cap p.wps w7 HP.out.wn HP.out.wc (by have := HP.out.fits.wps.1; have := HP.out.wn; omega) HP.out.wr HP.out.fits.wps.2 (by omega) H7.out hT)
    go_wp2_with fail
    (with_reducible refine C8.out.mono ?_)
    rintro e w8 ⟨rfl, h8, m8⟩
    have B8 := Lib.hid (B7.out.modT m8 (by unfold wT; decide))
    have M8 := Lib.hid (M7.out.trans m8)
    obtain ⟨o8, e8⟩ : ∃ x, wProps 0 o7 p.wps = x := ⟨_, rfl⟩
    rw [e8] at h8
    have s8 : o8.s.size ≤ 18500000 := by rw [← e8]; have := props_size 0 o7 p.wps; omega
    have E8 := Lib.hid e8
    have H8 := Lib.hid h8
    clear e8 h8 m8
    have k8_14 : w8.cell? ⟨w.heap.size, 14, none⟩ = some (.string p.wt) := B8.out.cell 14
    have C9 := Lib.hid (wtext_any W0 b o8 p.wt w8 (by have := HP.out.fits.wt; omega) (by omega) H8.out hT)
    go_wp2_with fail
    (with_reducible refine C9.out.mono ?_)
    rintro e w9 ⟨rfl, h9, m9⟩
    have B9 := Lib.hid (B8.out.modT m9 (by unfold wT; decide))
    have M9 := Lib.hid (M8.out.trans m9)
    obtain ⟨o9, e9⟩ : ∃ x, wText o8 p.wt = x := ⟨_, rfl⟩
    rw [e9] at h9
    have s9 : o9.s.size ≤ 18600000 := by rw [← e9]; have := text_size o8 p.wt; omega
    have E9 := Lib.hid e9
    have H9 := Lib.hid h9
    clear e9 h9 m9
    have k9_15 : w9.cell? ⟨w.heap.size, 15, none⟩ = some (.string p.wp) := B9.out.cell 15
    have C10 := Lib.hid (wdata_any W0 b o9 p.wp w9 (by have := HP.out.fits.wp; omega) (by omega) H9.out)
    go_wp2_with fail
    (with_reducible refine C10.out.mono ?_)
    rintro e w10 ⟨rfl, h10, m10⟩
    have B10 := Lib.hid (B9.out.modT m10 (by unfold wT; decide))
    have M10 := Lib.hid (M9.out.trans m10)
    obtain ⟨o10, e10⟩ : ∃ x, wData o9 p.wp = x := ⟨_, rfl⟩
    rw [e10] at h10
    have s10 : o10.s.size ≤ 18700000 := by rw [← e10]; have := data_size o9 p.wp; omega
    have E10 := Lib.hid e10
    have H10 := Lib.hid h10
    clear e10 h10 m10
    have k10_19 : w10.cell? ⟨w.heap.size, 19, none⟩ = some (.bool false) := (B10.out.cell 19).trans (by show some (Value.bool _) = _; rw [HUS.out])
    have k10_20 : w10.cell? ⟨w.heap.size, 20, none⟩ = some (.bool false) := (B10.out.cell 20).trans (by show some (Value.bool _) = _; rw [HPS.out])
    go_wp2
    go_end0
    refine ⟨rfl, ?_, M10.out⟩
    have e : wConnect o p = o10 := by
      unfold wConnect cPass cUser cWill cHead
      rw [HWL.out, HUS.out, HPS.out]
      simp only [if_true, Bool.false_eq_true, if_false]
      rw [show name5 = ⟨#[77, 81, 84, 84]⟩ from rfl, show cFlags p = ((bt1 p.clean 2 + bt1 p.hasPass 64 + bt1 p.hasUser 128) + (4 + p.wq % 4 * 8 + bt1 p.wr 32)) from by unfold cFlags; rw [HWL.out]; simp; omega, E1.out, E2.out, E3.out, E4.out, E5.out, E6.out, E7.out, E8.out, E9.out, E10.out]
    rw [e]
    exact H10.out
  · have HWL : Hid (p.hasWill = true) := Lib.hid hwl
    have HUS : Hid (p.hasUser = false) := Lib.hid hus
    have HPS : Hid (p.hasPass = true) := Lib.hid hps
    have a1 := bt1_bd p.clean 2 (by decide)
    have a2 := bt1_bd p.hasPass 64 (by decide)
    have a3 := bt1_bd p.hasUser 128 (by decide)
    have a4 := bt1_bd p.wr 32 (by decide)
    have a5 := Int.emod_nonneg p.wq (show (4 : Int) ≠ 0 by decide)
    have a6 := Int.emod_lt_of_pos p.wq (show (0 : Int) < 4 by decide)
    have hand := and_3 HP.out.fits.wq.1 HP.out.fits.wq.2
    have r1 : IntKind.i64.wrap (bt1 p.clean 2 + bt1 p.hasPass 64) = bt1 p.clean 2 + bt1 p.hasPass 64 := IntWalk.i64_in _ (by omega)
    have r2 : IntKind.i64.wrap (bt1 p.clean 2 + bt1 p.hasPass 64 + bt1 p.hasUser 128) = bt1 p.clean 2 + bt1 p.hasPass 64 + bt1 p.hasUser 128 := IntWalk.i64_in _ (by omega)
    have r3 : IntKind.i64.wrap (4 + p.wq % 4 * 8 + bt1 p.wr 32) = 4 + p.wq % 4 * 8 + bt1 p.wr 32 := IntWalk.i64_in _ (by omega)
    have r4 : IntKind.i64.wrap (bt1 p.clean 2 + bt1 p.hasPass 64 + bt1 p.hasUser 128 + (4 + p.wq % 4 * 8 + bt1 p.wr 32)) = bt1 p.clean 2 + bt1 p.hasPass 64 + bt1 p.hasUser 128 + (4 + p.wq % 4 * 8 + bt1 p.wr 32) := IntWalk.i64_in _ (by omega)
    clear hwl hus hps a1 a2 a3 a4 a5 a6
    go_enter Tryd.func40, Tryd.ntmps40
    have C1 := Lib.hid (wtext_any W0 b o ⟨#[77, 81, 84, 84]⟩ W (by decide) (by omega) HA.out hT)
    go_wp2_with fail
    rw [HW.out]
    (with_reducible refine C1.out.mono ?_)
    rintro e w1 ⟨rfl, h1, m1⟩
    have B1 := Lib.hid (HB.out.modT m1 (by unfold wT; decide))
    have M1 := Lib.hid (MA.out.trans m1)
    obtain ⟨o1, e1⟩ : ∃ x, wText o ⟨#[77, 81, 84, 84]⟩ = x := ⟨_, rfl⟩
    rw [e1] at h1
    have s1 : o1.s.size ≤ 1200000 := by rw [← e1]; have := text_size o ⟨#[77, 81, 84, 84]⟩; omega
    have E1 := Lib.hid e1
    have H1 := Lib.hid h1
    clear e1 h1 m1
    have C2 := Lib.hid (wbyte_any W0 b o1 5 w1 (by omega) H1.out)
    go_wp2_with fail
    (with_reducible refine C2.out.mono ?_)
    rintro e w2 ⟨rfl, h2, m2⟩
    have B2 := Lib.hid (B1.out.modT m2 (by unfold wT; decide))
    have M2 := Lib.hid (M1.out.trans m2)
    obtain ⟨o2, e2⟩ : ∃ x, wNum 1 o1 5 = x := ⟨_, rfl⟩
    rw [e2] at h2
    have s2 : o2.s.size ≤ 1200010 := by rw [← e2]; have := num_size 1 o1 5; have : (1 : Int).toNat = 1 := rfl; omega
    have E2 := Lib.hid e2
    have H2 := Lib.hid h2
    clear e2 h2 m2
    have k2_11 : w2.cell? ⟨w.heap.size, 11, none⟩ = some (.bool p.clean) := B2.out.cell 11
    have k2_20 : w2.cell? ⟨w.heap.size, 20, none⟩ = some (.bool p.hasPass) := B2.out.cell 20
    have k2_19 : w2.cell? ⟨w.heap.size, 19, none⟩ = some (.bool p.hasUser) := B2.out.cell 19
    have g11 := (B2.out.cell 11); clear g11
    go_wp2_with fail
    go_quiet ((go_at_call 25; exact Calls.quiet_of_same (bit_q _ _ _)))
    have HX1 := Lib.hid (Wst.drewN (H2.out) nq)
    have MX1 := Lib.hid (ModT.drewN M2.out nq)
    have BX1 : Hid (Blk (w2.drewN nq) w.heap.size (pkA .u8 p m) 45) := Lib.hid B2.out
    obtain ⟨X1, hX1⟩ : ∃ X, w2.drewN nq = X := ⟨_, rfl⟩
    rw [hX1] at HX1 MX1 BX1 ⊢
    clear hX1
    have x1_13 : X1.cell? ⟨w.heap.size, 13, none⟩ = some (.bool true) := (BX1.out.cell 13).trans (by show some (Value.bool _) = _; rw [HWL.out])
    have x1_16 : X1.cell? ⟨w.heap.size, 16, none⟩ = some (.int .i64 p.wq) := BX1.out.cell 16
    have C3 := Lib.hid (wqos_any W0 b o2 p.wq X1 HX1.out)
    go_wp2_with fail
    (with_reducible refine C3.out.mono ?_)
    rintro e w3 ⟨rfl, h3, m3⟩
    have B3 := Lib.hid (BX1.out.modT m3 (by unfold wT; decide))
    have M3 := Lib.hid (MX1.out.trans m3)
    obtain ⟨o3, e3⟩ : ∃ x, wQos o2 p.wq = x := ⟨_, rfl⟩
    rw [e3] at h3
    have s3 : o3.s.size ≤ 1200010 := by rw [← e3]; have := qos_size o2 p.wq; omega
    have E3 := Lib.hid e3
    have H3 := Lib.hid h3
    clear e3 h3 m3
    have k3_16 : w3.cell? ⟨w.heap.size, 16, none⟩ = some (.int .i64 p.wq) := B3.out.cell 16
    have k3_17 : w3.cell? ⟨w.heap.size, 17, none⟩ = some (.bool p.wr) := B3.out.cell 17
    go_wp2_with fail
    go_quiet ((go_at_call 25; exact Calls.quiet_of_same (bit_q _ _ _)))
    have HX2 := Lib.hid (Wst.drewN (H3.out) nq)
    have MX2 := Lib.hid (ModT.drewN M3.out nq)
    have BX2 : Hid (Blk (w3.drewN nq) w.heap.size (pkA .u8 p m) 45) := Lib.hid B3.out
    obtain ⟨X2, hX2⟩ : ∃ X, w3.drewN nq = X := ⟨_, rfl⟩
    rw [hX2] at HX2 MX2 BX2 ⊢
    clear hX2
    have C4 := Lib.hid (wbyte_any W0 b o3 ((bt1 p.clean 2 + bt1 p.hasPass 64 + bt1 p.hasUser 128) + (4 + p.wq % 4 * 8 + bt1 p.wr 32)) X2 (by omega) HX2.out)
    go_wp2_with fail
    (with_reducible refine C4.out.mono ?_)
    rintro e w4 ⟨rfl, h4, m4⟩
    have B4 := Lib.hid (BX2.out.modT m4 (by unfold wT; decide))
    have M4 := Lib.hid (MX2.out.trans m4)
    obtain ⟨o4, e4⟩ : ∃ x, wNum 1 o3 ((bt1 p.clean 2 + bt1 p.hasPass 64 + bt1 p.hasUser 128) + (4 + p.wq % 4 * 8 + bt1 p.wr 32)) = x := ⟨_, rfl⟩
    rw [e4] at h4
    have s4 : o4.s.size ≤ 1200020 := by rw [← e4]; have := num_size 1 o3 ((bt1 p.clean 2 + bt1 p.hasPass 64 + bt1 p.hasUser 128) + (4 + p.wq % 4 * 8 + bt1 p.wr 32)); have : (1 : Int).toNat = 1 := rfl; omega
    have E4 := Lib.hid e4
    have H4 := Lib.hid h4
    clear e4 h4 m4
    have k4_12 : w4.cell? ⟨w.heap.size, 12, none⟩ = some (.int .i64 p.keep) := B4.out.cell 12
    have C5 := Lib.hid (wtwo_any W0 b o4 p.keep w4 (by omega) H4.out)
    go_wp2_with fail
    (with_reducible refine C5.out.mono ?_)
    rintro e w5 ⟨rfl, h5, m5⟩
    have B5 := Lib.hid (B4.out.modT m5 (by unfold wT; decide))
    have M5 := Lib.hid (M4.out.trans m5)
    obtain ⟨o5, e5⟩ : ∃ x, wNum 2 o4 p.keep = x := ⟨_, rfl⟩
    rw [e5] at h5
    have s5 : o5.s.size ≤ 1200030 := by rw [← e5]; have := num_size 2 o4 p.keep; have : (2 : Int).toNat = 2 := rfl; omega
    have E5 := Lib.hid e5
    have H5 := Lib.hid h5
    clear e5 h5 m5
    have k5_9 : w5.cell? ⟨w.heap.size, 9, none⟩ = some (.slice m.p.A m.p.n m.p.cap) := B5.out.cell 9
    have C6 := Lib.hid (wprops_any W0 b o5 1 m.p.A m.p.n m.p.cap p.ps w5 HP.out.pn HP.out.pc (by have := HP.out.fits.ps.1; have := HP.out.pn; omega) HP.out.pr HP.out.fits.ps.2 (by omega) H5.out hT)
    go_wp2_with fail
    (with_reducible refine C6.out.mono ?_)
    rintro e w6 ⟨rfl, h6, m6⟩
    have B6 := Lib.hid (B5.out.modT m6 (by unfold wT; decide))
    have M6 := Lib.hid (M5.out.trans m6)
    obtain ⟨o6, e6⟩ : ∃ x, wProps 1 o5 p.ps = x := ⟨_, rfl⟩
    rw [e6] at h6
    have s6 : o6.s.size ≤ 9700000 := by rw [← e6]; have := props_size 1 o5 p.ps; omega
    have E6 := Lib.hid e6
    have H6 := Lib.hid h6
    clear e6 h6 m6
    have k6_10 : w6.cell? ⟨w.heap.size, 10, none⟩ = some (.string p.client) := B6.out.cell 10
    have C7 := Lib.hid (wtext_any W0 b o6 p.client w6 (by have := HP.out.fits.client; omega) (by omega) H6.out hT)
    go_wp2_with fail
    (with_reducible refine C7.out.mono ?_)
    rintro e w7 ⟨rfl, h7, m7⟩
    have B7 := Lib.hid (B6.out.modT m7 (by unfold wT; decide))
    have M7 := Lib.hid (M6.out.trans m7)
    obtain ⟨o7, e7⟩ : ∃ x, wText o6 p.client = x := ⟨_, rfl⟩
    rw [e7] at h7
    have s7 : o7.s.size ≤ 9800000 := by rw [← e7]; have := text_size o6 p.client; omega
    have E7 := Lib.hid e7
    have H7 := Lib.hid h7
    clear e7 h7 m7
    have k7_13 : w7.cell? ⟨w.heap.size, 13, none⟩ = some (.bool true) := (B7.out.cell 13).trans (by show some (Value.bool _) = _; rw [HWL.out])
    have k7_18 : w7.cell? ⟨w.heap.size, 18, none⟩ = some (.slice m.w.A m.w.n m.w.cap) := B7.out.cell 18
    have C8 := Lib.hid (wprops_any W0 b o7 0 m.w.A m.w.n m.w.cap p.wps w7 HP.out.wn HP.out.wc (by have := HP.out.fits.wps.1; have := HP.out.wn; omega) HP.out.wr HP.out.fits.wps.2 (by omega) H7.out hT)
    go_wp2_with fail
    (with_reducible refine C8.out.mono ?_)
    rintro e w8 ⟨rfl, h8, m8⟩
    have B8 := Lib.hid (B7.out.modT m8 (by unfold wT; decide))
    have M8 := Lib.hid (M7.out.trans m8)
    obtain ⟨o8, e8⟩ : ∃ x, wProps 0 o7 p.wps = x := ⟨_, rfl⟩
    rw [e8] at h8
    have s8 : o8.s.size ≤ 18500000 := by rw [← e8]; have := props_size 0 o7 p.wps; omega
    have E8 := Lib.hid e8
    have H8 := Lib.hid h8
    clear e8 h8 m8
    have k8_14 : w8.cell? ⟨w.heap.size, 14, none⟩ = some (.string p.wt) := B8.out.cell 14
    have C9 := Lib.hid (wtext_any W0 b o8 p.wt w8 (by have := HP.out.fits.wt; omega) (by omega) H8.out hT)
    go_wp2_with fail
    (with_reducible refine C9.out.mono ?_)
    rintro e w9 ⟨rfl, h9, m9⟩
    have B9 := Lib.hid (B8.out.modT m9 (by unfold wT; decide))
    have M9 := Lib.hid (M8.out.trans m9)
    obtain ⟨o9, e9⟩ : ∃ x, wText o8 p.wt = x := ⟨_, rfl⟩
    rw [e9] at h9
    have s9 : o9.s.size ≤ 18600000 := by rw [← e9]; have := text_size o8 p.wt; omega
    have E9 := Lib.hid e9
    have H9 := Lib.hid h9
    clear e9 h9 m9
    have k9_15 : w9.cell? ⟨w.heap.size, 15, none⟩ = some (.string p.wp) := B9.out.cell 15
    have C10 := Lib.hid (wdata_any W0 b o9 p.wp w9 (by have := HP.out.fits.wp; omega) (by omega) H9.out)
    go_wp2_with fail
    (with_reducible refine C10.out.mono ?_)
    rintro e w10 ⟨rfl, h10, m10⟩
    have B10 := Lib.hid (B9.out.modT m10 (by unfold wT; decide))
    have M10 := Lib.hid (M9.out.trans m10)
    obtain ⟨o10, e10⟩ : ∃ x, wData o9 p.wp = x := ⟨_, rfl⟩
    rw [e10] at h10
    have s10 : o10.s.size ≤ 18700000 := by rw [← e10]; have := data_size o9 p.wp; omega
    have E10 := Lib.hid e10
    have H10 := Lib.hid h10
    clear e10 h10 m10
    have k10_19 : w10.cell? ⟨w.heap.size, 19, none⟩ = some (.bool false) := (B10.out.cell 19).trans (by show some (Value.bool _) = _; rw [HUS.out])
    have k10_20 : w10.cell? ⟨w.heap.size, 20, none⟩ = some (.bool true) := (B10.out.cell 20).trans (by show some (Value.bool _) = _; rw [HPS.out])
    have k10_22 : w10.cell? ⟨w.heap.size, 22, none⟩ = some (.string p.pass) := B10.out.cell 22
    have C11 := Lib.hid (wdata_any W0 b o10 p.pass w10 (by have := HP.out.fits.pass; omega) (by omega) H10.out)
    go_wp2_with fail
    (with_reducible refine C11.out.mono ?_)
    rintro e w11 ⟨rfl, h11, m11⟩
    have B11 := Lib.hid (B10.out.modT m11 (by unfold wT; decide))
    have M11 := Lib.hid (M10.out.trans m11)
    obtain ⟨o11, e11⟩ : ∃ x, wData o10 p.pass = x := ⟨_, rfl⟩
    rw [e11] at h11
    have s11 : o11.s.size ≤ 18900000 := by rw [← e11]; have := data_size o10 p.pass; omega
    have E11 := Lib.hid e11
    have H11 := Lib.hid h11
    clear e11 h11 m11
    go_wp2
    go_end0
    refine ⟨rfl, ?_, M11.out⟩
    have e : wConnect o p = o11 := by
      unfold wConnect cPass cUser cWill cHead
      rw [HWL.out, HUS.out, HPS.out]
      simp only [if_true, Bool.false_eq_true, if_false]
      rw [show name5 = ⟨#[77, 81, 84, 84]⟩ from rfl, show cFlags p = ((bt1 p.clean 2 + bt1 p.hasPass 64 + bt1 p.hasUser 128) + (4 + p.wq % 4 * 8 + bt1 p.wr 32)) from by unfold cFlags; rw [HWL.out]; simp; omega, E1.out, E2.out, E3.out, E4.out, E5.out, E6.out, E7.out, E8.out, E9.out, E10.out, E11.out]
    rw [e]
    exact H11.out
set_option maxRecDepth 100000 in
set_option maxHeartbeats 8000000 in
theorem wconnect_ft (W0 : World) (b : Nat) (o : Ot) (p : Pk) (m : Hs) (w : World) (hP : PkIn .u8 W0 p m) (hs : o.s.size ≤ 1048576) (h : Wst W0 b o w) (hT : Tabs W0) (hwl : p.hasWill = false) (hus : p.hasUser = true) :
    Calls Tryd.prog 40 #[.pointer (some ⟨b, 0, none⟩), pkV .u8 p m] w fun e w' => WPost W0 b (wConnect o p) w w' e := by
  have hB := Blk.new w (pkA .u8 p m) 45
  have hA := h.alloc (.cells (pkA .u8 p m) 45)
  have mA : ModT wT w (w.alloc (.cells (pkA .u8 p m) 45)) := ModT.of_below ((Below.refl _ _).alloc (Nat.le_refl _) _)
  obtain ⟨W, hW⟩ : ∃ W, w.alloc (.cells (pkA .u8 p m) 45) = W := ⟨_, rfl⟩
  rw [hW] at hB hA mA
  unfold pkA at hW
  have HW := Lib.hid hW
  have HB := Lib.hid hB
  have HA := Lib.hid hA
  have MA := Lib.hid mA
  have HP := Lib.hid hP
  clear hW hB hA mA hP h
  unfold pkV pkA
  rcases (by cases p.hasPass <;> simp : p.hasPass = false ∨ p.hasPass = true) with hps | hps
  · have HWL : Hid (p.hasWill = false) := Lib.hid hwl
    have HUS : Hid (p.hasUser = true) := Lib.hid hus
    have HPS : Hid (p.hasPass = false) := Lib.hid hps
    have a1 := bt1_bd p.clean 2 (by decide)
    have a2 := bt1_bd p.hasPass 64 (by decide)
    have a3 := bt1_bd p.hasUser 128 (by decide)
    have a4 := bt1_bd p.wr 32 (by decide)
    have a5 := Int.emod_nonneg p.wq (show (4 : Int) ≠ 0 by decide)
    have a6 := Int.emod_lt_of_pos p.wq (show (0 : Int) < 4 by decide)
    have hand := and_3 HP.out.fits.wq.1 HP.out.fits.wq.2
    have r1 : IntKind.i64.wrap (bt1 p.clean 2 + bt1 p.hasPass 64) = bt1 p.clean 2 + bt1 p.hasPass 64 := IntWalk.i64_in _ (by omega)
    have r2 : IntKind.i64.wrap (bt1 p.clean 2 + bt1 p.hasPass 64 + bt1 p.hasUser 128) = bt1 p.clean 2 + bt1 p.hasPass 64 + bt1 p.hasUser 128 := IntWalk.i64_in _ (by omega)
    clear hwl hus hps a1 a2 a3 a4 a5 a6
    go_enter Tryd.func40, Tryd.ntmps40
    have C1 := Lib.hid (wtext_any W0 b o ⟨#[77, 81, 84, 84]⟩ W (by decide) (by omega) HA.out hT)
    go_wp2_with fail
    rw [HW.out]
    (with_reducible refine C1.out.mono ?_)
    rintro e w1 ⟨rfl, h1, m1⟩
    have B1 := Lib.hid (HB.out.modT m1 (by unfold wT; decide))
    have M1 := Lib.hid (MA.out.trans m1)
    obtain ⟨o1, e1⟩ : ∃ x, wText o ⟨#[77, 81, 84, 84]⟩ = x := ⟨_, rfl⟩
    rw [e1] at h1
    have s1 : o1.s.size ≤ 1200000 := by rw [← e1]; have := text_size o ⟨#[77, 81, 84, 84]⟩; omega
    have E1 := Lib.hid e1
    have H1 := Lib.hid h1
    clear e1 h1 m1
    have C2 := Lib.hid (wbyte_any W0 b o1 5 w1 (by omega) H1.out)
    go_wp2_with fail
    (with_reducible refine C2.out.mono ?_)
    rintro e w2 ⟨rfl, h2, m2⟩
    have B2 := Lib.hid (B1.out.modT m2 (by unfold wT; decide))
    have M2 := Lib.hid (M1.out.trans m2)
    obtain ⟨o2, e2⟩ : ∃ x, wNum 1 o1 5 = x := ⟨_, rfl⟩
    rw [e2] at h2
    have s2 : o2.s.size ≤ 1200010 := by rw [← e2]; have := num_size 1 o1 5; have : (1 : Int).toNat = 1 := rfl; omega
    have E2 := Lib.hid e2
    have H2 := Lib.hid h2
    clear e2 h2 m2
    have k2_11 : w2.cell? ⟨w.heap.size, 11, none⟩ = some (.bool p.clean) := B2.out.cell 11
    have k2_20 : w2.cell? ⟨w.heap.size, 20, none⟩ = some (.bool p.hasPass) := B2.out.cell 20
    have k2_19 : w2.cell? ⟨w.heap.size, 19, none⟩ = some (.bool p.hasUser) := B2.out.cell 19
    have g11 := (B2.out.cell 11); clear g11
    go_wp2_with fail
    go_quiet ((go_at_call 25; exact Calls.quiet_of_same (bit_q _ _ _)))
    have HX1 := Lib.hid (Wst.drewN (H2.out) nq)
    have MX1 := Lib.hid (ModT.drewN M2.out nq)
    have BX1 : Hid (Blk (w2.drewN nq) w.heap.size (pkA .u8 p m) 45) := Lib.hid B2.out
    obtain ⟨X1, hX1⟩ : ∃ X, w2.drewN nq = X := ⟨_, rfl⟩
    rw [hX1] at HX1 MX1 BX1 ⊢
    clear hX1
    have x1_13 : X1.cell? ⟨w.heap.size, 13, none⟩ = some (.bool false) := (BX1.out.cell 13).trans (by show some (Value.bool _) = _; rw [HWL.out])
    have C3 := Lib.hid (wbyte_any W0 b o2 (bt1 p.clean 2 + bt1 p.hasPass 64 + bt1 p.hasUser 128) X1 (by omega) HX1.out)
    go_wp2_with fail
    (with_reducible refine C3.out.mono ?_)
    rintro e w3 ⟨rfl, h3, m3⟩
    have B3 := Lib.hid (BX1.out.modT m3 (by unfold wT; decide))
    have M3 := Lib.hid (MX1.out.trans m3)
    obtain ⟨o3, e3⟩ : ∃ x, wNum 1 o2 (bt1 p.clean 2 + bt1 p.hasPass 64 + bt1 p.hasUser 128) = x := ⟨_, rfl⟩
    rw [e3] at h3
    have s3 : o3.s.size ≤ 1200020 := by rw [← e3]; have := num_size 1 o2 (bt1 p.clean 2 + bt1 p.hasPass 64 + bt1 p.hasUser 128); have : (1 : Int).toNat = 1 := rfl; omega
    have E3 := Lib.hid e3
    have H3 := Lib.hid h3
    clear e3 h3 m3
    have k3_12 : w3.cell? ⟨w.heap.size, 12, none⟩ = some (.int .i64 p.keep) := B3.out.cell 12
    have C4 := Lib.hid (wtwo_any W0 b o3 p.keep w3 (by omega) H3.out)
    go_wp2_with fail
    (with_reducible refine C4.out.mono ?_)
    rintro e w4 ⟨rfl, h4, m4⟩
    have B4 := Lib.hid (B3.out.modT m4 (by unfold wT; decide))
    have M4 := Lib.hid (M3.out.trans m4)
    obtain ⟨o4, e4⟩ : ∃ x, wNum 2 o3 p.keep = x := ⟨_, rfl⟩
    rw [e4] at h4
    have s4 : o4.s.size ≤ 1200030 := by rw [← e4]; have := num_size 2 o3 p.keep; have : (2 : Int).toNat = 2 := rfl; omega
    have E4 := Lib.hid e4
    have H4 := Lib.hid h4
    clear e4 h4 m4
    have k4_9 : w4.cell? ⟨w.heap.size, 9, none⟩ = some (.slice m.p.A m.p.n m.p.cap) := B4.out.cell 9
    have C5 := Lib.hid (wprops_any W0 b o4 1 m.p.A m.p.n m.p.cap p.ps w4 HP.out.pn HP.out.pc (by have := HP.out.fits.ps.1; have := HP.out.pn; omega) HP.out.pr HP.out.fits.ps.2 (by omega) H4.out hT)
    go_wp2_with fail
    (with_reducible refine C5.out.mono ?_)
    rintro e w5 ⟨rfl, h5, m5⟩
    have B5 := Lib.hid (B4.out.modT m5 (by unfold wT; decide))
    have M5 := Lib.hid (M4.out.trans m5)
    obtain ⟨o5, e5⟩ : ∃ x, wProps 1 o4 p.ps = x := ⟨_, rfl⟩
    rw [e5] at h5
    have s5 : o5.s.size ≤ 9700000 := by rw [← e5]; have := props_size 1 o4 p.ps; omega
    have E5 := Lib.hid e5
    have H5 := Lib.hid h5
    clear e5 h5 m5
    have k5_10 : w5.cell? ⟨w.heap.size, 10, none⟩ = some (.string p.client) := B5.out.cell 10
    have C6 := Lib.hid (wtext_any W0 b o5 p.client w5 (by have := HP.out.fits.client; omega) (by omega) H5.out hT)
    go_wp2_with fail
    (with_reducible refine C6.out.mono ?_)
    rintro e w6 ⟨rfl, h6, m6⟩
    have B6 := Lib.hid (B5.out.modT m6 (by unfold wT; decide))
    have M6 := Lib.hid (M5.out.trans m6)
    obtain ⟨o6, e6⟩ : ∃ x, wText o5 p.client = x := ⟨_, rfl⟩
    rw [e6] at h6
    have s6 : o6.s.size ≤ 9800000 := by rw [← e6]; have := text_size o5 p.client; omega
    have E6 := Lib.hid e6
    have H6 := Lib.hid h6
    clear e6 h6 m6
    have k6_13 : w6.cell? ⟨w.heap.size, 13, none⟩ = some (.bool false) := (B6.out.cell 13).trans (by show some (Value.bool _) = _; rw [HWL.out])
    have k6_19 : w6.cell? ⟨w.heap.size, 19, none⟩ = some (.bool true) := (B6.out.cell 19).trans (by show some (Value.bool _) = _; rw [HUS.out])
    have k6_21 : w6.cell? ⟨w.heap.size, 21, none⟩ = some (.string p.user) := B6.out.cell 21
    have C7 := Lib.hid (wtext_any W0 b o6 p.user w6 (by have := HP.out.fits.user; omega) (by omega) H6.out hT)
    go_wp2_with fail
    (with_reducible refine C7.out.mono ?_)
    rintro e w7 ⟨rfl, h7, m7⟩
    have B7 := Lib.hid (B6.out.modT m7 (by unfold wT; decide))
    have M7 := Lib.hid (M6.out.trans m7)
    obtain ⟨o7, e7⟩ : ∃ x, wText o6 p.user = x := ⟨_, rfl⟩
    rw [e7] at h7
    have s7 : o7.s.size ≤ 18800000 := by rw [← e7]; have := text_size o6 p.user; omega
    have E7 := Lib.hid e7
    have H7 := Lib.hid h7
    clear e7 h7 m7
    have k7_20 : w7.cell? ⟨w.heap.size, 20, none⟩ = some (.bool false) := (B7.out.cell 20).trans (by show some (Value.bool _) = _; rw [HPS.out])
    go_wp2
    go_end0
    refine ⟨rfl, ?_, M7.out⟩
    have e : wConnect o p = o7 := by
      unfold wConnect cPass cUser cWill cHead
      rw [HWL.out, HUS.out, HPS.out]
      simp only [if_true, Bool.false_eq_true, if_false]
      rw [show name5 = ⟨#[77, 81, 84, 84]⟩ from rfl, show cFlags p = (bt1 p.clean 2 + bt1 p.hasPass 64 + bt1 p.hasUser 128) from by unfold cFlags; rw [HWL.out]; simp, E1.out, E2.out, E3.out, E4.out, E5.out, E6.out, E7.out]
    rw [e]
    exact H7.out
  · have HWL : Hid (p.hasWill = false) := Lib.hid hwl
    have HUS : Hid (p.hasUser = true) := Lib.hid hus
    have HPS : Hid (p.hasPass = true) := Lib.hid hps
    have a1 := bt1_bd p.clean 2 (by decide)
    have a2 := bt1_bd p.hasPass 64 (by decide)
    have a3 := bt1_bd p.hasUser 128 (by decide)
    have a4 := bt1_bd p.wr 32 (by decide)
    have a5 := Int.emod_nonneg p.wq (show (4 : Int) ≠ 0 by decide)
    have a6 := Int.emod_lt_of_pos p.wq (show (0 : Int) < 4 by decide)
    have hand := and_3 HP.out.fits.wq.1 HP.out.fits.wq.2
    have r1 : IntKind.i64.wrap (bt1 p.clean 2 + bt1 p.hasPass 64) = bt1 p.clean 2 + bt1 p.hasPass 64 := IntWalk.i64_in _ (by omega)
    have r2 : IntKind.i64.wrap (bt1 p.clean 2 + bt1 p.hasPass 64 + bt1 p.hasUser 128) = bt1 p.clean 2 + bt1 p.hasPass 64 + bt1 p.hasUser 128 := IntWalk.i64_in _ (by omega)
    clear hwl hus hps a1 a2 a3 a4 a5 a6
    go_enter Tryd.func40, Tryd.ntmps40
    have C1 := Lib.hid (wtext_any W0 b o ⟨#[77, 81, 84, 84]⟩ W (by decide) (by omega) HA.out hT)
    go_wp2_with fail
    rw [HW.out]
    (with_reducible refine C1.out.mono ?_)
    rintro e w1 ⟨rfl, h1, m1⟩
    have B1 := Lib.hid (HB.out.modT m1 (by unfold wT; decide))
    have M1 := Lib.hid (MA.out.trans m1)
    obtain ⟨o1, e1⟩ : ∃ x, wText o ⟨#[77, 81, 84, 84]⟩ = x := ⟨_, rfl⟩
    rw [e1] at h1
    have s1 : o1.s.size ≤ 1200000 := by rw [← e1]; have := text_size o ⟨#[77, 81, 84, 84]⟩; omega
    have E1 := Lib.hid e1
    have H1 := Lib.hid h1
    clear e1 h1 m1
    have C2 := Lib.hid (wbyte_any W0 b o1 5 w1 (by omega) H1.out)
    go_wp2_with fail
    (with_reducible refine C2.out.mono ?_)
    rintro e w2 ⟨rfl, h2, m2⟩
    have B2 := Lib.hid (B1.out.modT m2 (by unfold wT; decide))
    have M2 := Lib.hid (M1.out.trans m2)
    obtain ⟨o2, e2⟩ : ∃ x, wNum 1 o1 5 = x := ⟨_, rfl⟩
    rw [e2] at h2
    have s2 : o2.s.size ≤ 1200010 := by rw [← e2]; have := num_size 1 o1 5; have : (1 : Int).toNat = 1 := rfl; omega
    have E2 := Lib.hid e2
    have H2 := Lib.hid h2
    clear e2 h2 m2
    have k2_11 : w2.cell? ⟨w.heap.size, 11, none⟩ = some (.bool p.clean) := B2.out.cell 11
    have k2_20 : w2.cell? ⟨w.heap.size, 20, none⟩ = some (.bool p.hasPass) := B2.out.cell 20
    have k2_19 : w2.cell? ⟨w.heap.size, 19, none⟩ = some (.bool p.hasUser) := B2.out.cell 19
    have g11 := (B2.out.cell 11); clear g11
    go_wp2_with fail
    go_quiet ((go_at_call 25; exact Calls.quiet_of_same (bit_q _ _ _)))
    have HX1 := Lib.hid (Wst.drewN (H2.out) nq)
    have MX1 := Lib.hid (ModT.drewN M2.out nq)
    have BX1 : Hid (Blk (w2.drewN nq) w.heap.size (pkA .u8 p m) 45) := Lib.hid B2.out
    obtain ⟨X1, hX1⟩ : ∃ X, w2.drewN nq = X := ⟨_, rfl⟩
    rw [hX1] at HX1 MX1 BX1 ⊢
    clear hX1
    have x1_13 : X1.cell? ⟨w.heap.size, 13, none⟩ = some (.bool false) := (BX1.out.cell 13).trans (by show some (Value.bool _) = _; rw [HWL.out])
    have C3 := Lib.hid (wbyte_any W0 b o2 (bt1 p.clean 2 + bt1 p.hasPass 64 + bt1 p.hasUser 128) X1 (by omega) HX1.out)
    go_wp2_with fail
    (with_reducible refine C3.out.mono ?_)
    rintro e w3 ⟨rfl, h3, m3⟩
    have B3 := Lib.hid (BX1.out.modT m3 (by unfold wT; decide))
    have M3 := Lib.hid (MX1.out.trans m3)
    obtain ⟨o3, e3⟩ : ∃ x, wNum 1 o2 (bt1 p.clean 2 + bt1 p.hasPass 64 + bt1 p.hasUser 128) = x := ⟨_, rfl⟩
    rw [e3] at h3
    have s3 : o3.s.size ≤ 1200020 := by rw [← e3]; have := num_size 1 o2 (bt1 p.clean 2 + bt1 p.hasPass 64 + bt1 p.hasUser 128); have : (1 : Int).toNat = 1 := rfl; omega
    have E3 := Lib.hid e3
    have H3 := Lib.hid h3
    clear e3 h3 m3
    have k3_12 : w3.cell? ⟨w.heap.size, 12, none⟩ = some (.int .i64 p.keep) := B3.out.cell 12
    have C4 := Lib.hid (wtwo_any W0 b o3 p.keep w3 (by omega) H3.out)
    go_wp2_with fail
    (with_reducible refine C4.out.mono ?_)
    rintro e w4 ⟨rfl, h4, m4⟩
    have B4 := Lib.hid (B3.out.modT m4 (by unfold wT; decide))
    have M4 := Lib.hid (M3.out.trans m4)
    obtain ⟨o4, e4⟩ : ∃ x, wNum 2 o3 p.keep = x := ⟨_, rfl⟩
    rw [e4] at h4
    have s4 : o4.s.size ≤ 1200030 := by rw [← e4]; have := num_size 2 o3 p.keep; have : (2 : Int).toNat = 2 := rfl; omega
    have E4 := Lib.hid e4
    have H4 := Lib.hid h4
    clear e4 h4 m4
    have k4_9 : w4.cell? ⟨w.heap.size, 9, none⟩ = some (.slice m.p.A m.p.n m.p.cap) := B4.out.cell 9
    have C5 := Lib.hid (wprops_any W0 b o4 1 m.p.A m.p.n m.p.cap p.ps w4 HP.out.pn HP.out.pc (by have := HP.out.fits.ps.1; have := HP.out.pn; omega) HP.out.pr HP.out.fits.ps.2 (by omega) H4.out hT)
    go_wp2_with fail
    (with_reducible refine C5.out.mono ?_)
    rintro e w5 ⟨rfl, h5, m5⟩
    have B5 := Lib.hid (B4.out.modT m5 (by unfold wT; decide))
    have M5 := Lib.hid (M4.out.trans m5)
    obtain ⟨o5, e5⟩ : ∃ x, wProps 1 o4 p.ps = x := ⟨_, rfl⟩
    rw [e5] at h5
    have s5 : o5.s.size ≤ 9700000 := by rw [← e5]; have := props_size 1 o4 p.ps; omega
    have E5 := Lib.hid e5
    have H5 := Lib.hid h5
    clear e5 h5 m5
    have k5_10 : w5.cell? ⟨w.heap.size, 10, none⟩ = some (.string p.client) := B5.out.cell 10
    have C6 := Lib.hid (wtext_any W0 b o5 p.client w5 (by have := HP.out.fits.client; omega) (by omega) H5.out hT)
    go_wp2_with fail
    (with_reducible refine C6.out.mono ?_)
    rintro e w6 ⟨rfl, h6, m6⟩
    have B6 := Lib.hid (B5.out.modT m6 (by unfold wT; decide))
    have M6 := Lib.hid (M5.out.trans m6)
    obtain ⟨o6, e6⟩ : ∃ x, wText o5 p.client = x := ⟨_, rfl⟩
    rw [e6] at h6
    have s6 : o6.s.size ≤ 9800000 := by rw [← e6]; have := text_size o5 p.client; omega
    have E6 := Lib.hid e6
    have H6 := Lib.hid h6
    clear e6 h6 m6
    have k6_13 : w6.cell? ⟨w.heap.size, 13, none⟩ = some (.bool false) := (B6.out.cell 13).trans (by show some (Value.bool _) = _; rw [HWL.out])
    have k6_19 : w6.cell? ⟨w.heap.size, 19, none⟩ = some (.bool true) := (B6.out.cell 19).trans (by show some (Value.bool _) = _; rw [HUS.out])
    have k6_21 : w6.cell? ⟨w.heap.size, 21, none⟩ = some (.string p.user) := B6.out.cell 21
    have C7 := Lib.hid (wtext_any W0 b o6 p.user w6 (by have := HP.out.fits.user; omega) (by omega) H6.out hT)
    go_wp2_with fail
    (with_reducible refine C7.out.mono ?_)
    rintro e w7 ⟨rfl, h7, m7⟩
    have B7 := Lib.hid (B6.out.modT m7 (by unfold wT; decide))
    have M7 := Lib.hid (M6.out.trans m7)
    obtain ⟨o7, e7⟩ : ∃ x, wText o6 p.user = x := ⟨_, rfl⟩
    rw [e7] at h7
    have s7 : o7.s.size ≤ 18800000 := by rw [← e7]; have := text_size o6 p.user; omega
    have E7 := Lib.hid e7
    have H7 := Lib.hid h7
    clear e7 h7 m7
    have k7_20 : w7.cell? ⟨w.heap.size, 20, none⟩ = some (.bool true) := (B7.out.cell 20).trans (by show some (Value.bool _) = _; rw [HPS.out])
    have k7_22 : w7.cell? ⟨w.heap.size, 22, none⟩ = some (.string p.pass) := B7.out.cell 22
    have C8 := Lib.hid (wdata_any W0 b o7 p.pass w7 (by have := HP.out.fits.pass; omega) (by omega) H7.out)
    go_wp2_with fail
    (with_reducible refine C8.out.mono ?_)
    rintro e w8 ⟨rfl, h8, m8⟩
    have B8 := Lib.hid (B7.out.modT m8 (by unfold wT; decide))
    have M8 := Lib.hid (M7.out.trans m8)
    obtain ⟨o8, e8⟩ : ∃ x, wData o7 p.pass = x := ⟨_, rfl⟩
    rw [e8] at h8
    have s8 : o8.s.size ≤ 18900000 := by rw [← e8]; have := data_size o7 p.pass; omega
    have E8 := Lib.hid e8
    have H8 := Lib.hid h8
    clear e8 h8 m8
    go_wp2
    go_end0
    refine ⟨rfl, ?_, M8.out⟩
    have e : wConnect o p = o8 := by
      unfold wConnect cPass cUser cWill cHead
      rw [HWL.out, HUS.out, HPS.out]
      simp only [if_true, Bool.false_eq_true, if_false]
      rw [show name5 = ⟨#[77, 81, 84, 84]⟩ from rfl, show cFlags p = (bt1 p.clean 2 + bt1 p.hasPass 64 + bt1 p.hasUser 128) from by unfold cFlags; rw [HWL.out]; simp, E1.out, E2.out, E3.out, E4.out, E5.out, E6.out, E7.out, E8.out]
    rw [e]
    exact H8.out
set_option maxRecDepth 100000 in
set_option maxHeartbeats 8000000 in
theorem wconnect_ff (W0 : World) (b : Nat) (o : Ot) (p : Pk) (m : Hs) (w : World) (hP : PkIn .u8 W0 p m) (hs : o.s.size ≤ 1048576) (h : Wst W0 b o w) (hT : Tabs W0) (hwl : p.hasWill = false) (hus : p.hasUser = false) :
    Calls Tryd.prog 40 #[.pointer (some ⟨b, 0, none⟩), pkV .u8 p m] w fun e w' => WPost W0 b (wConnect o p) w w' e := by
  have hB := Blk.new w (pkA .u8 p m) 45
  have hA := h.alloc (.cells (pkA .u8 p m) 45)
  have mA : ModT wT w (w.alloc (.cells (pkA .u8 p m) 45)) := ModT.of_below ((Below.refl _ _).alloc (Nat.le_refl _) _)
  obtain ⟨W, hW⟩ : ∃ W, w.alloc (.cells (pkA .u8 p m) 45) = W := ⟨_, rfl⟩
  rw [hW] at hB hA mA
  unfold pkA at hW
  have HW := Lib.hid hW
  have HB := Lib.hid hB
  have HA := Lib.hid hA
  have MA := Lib.hid mA
  have HP := Lib.hid hP
  clear hW hB hA mA hP h
  unfold pkV pkA
  rcases (by cases p.hasPass <;> simp : p.hasPass = false ∨ p.hasPass = true) with hps | hps
  · have HWL : Hid (p.hasWill = false) := Lib.hid hwl
    have HUS : Hid (p.hasUser = false) := Lib.hid hus
    have HPS : Hid (p.hasPass = false) := Lib.hid hps
    have a1 := bt1_bd p.clean 2 (by decide)
    have a2 := bt1_bd p.hasPass 64 (by decide)
    have a3 := bt1_bd p.hasUser 128 (by decide)
    have a4 := bt1_bd p.wr 32 (by decide)
    have a5 := Int.emod_nonneg p.wq (show (4 : Int) ≠ 0 by decide)
    have a6 := Int.emod_lt_of_pos p.wq (show (0 : Int) < 4 by decide)
    have hand := and_3 HP.out.fits.wq.1 HP.out.fits.wq.2
    have r1 : IntKind.i64.wrap (bt1 p.clean 2 + bt1 p.hasPass 64) = bt1 p.clean 2 + bt1 p.hasPass 64 := IntWalk.i64_in _ (by omega)
    have r2 : IntKind.i64.wrap (bt1 p.clean 2 + bt1 p.hasPass 64 + bt1 p.hasUser 128) = bt1 p.clean 2 + bt1 p.hasPass 64 + bt1 p.hasUser 128 := IntWalk.i64_in _ (by omega)
    clear hwl hus hps a1 a2 a3 a4 a5 a6
    go_enter Tryd.func40, Tryd.ntmps40
    have C1 := Lib.hid (wtext_any W0 b o ⟨#[77, 81, 84, 84]⟩ W (by decide) (by omega) HA.out hT)
    go_wp2_with fail
    rw [HW.out]
    (with_reducible refine C1.out.mono ?_)
    rintro e w1 ⟨rfl, h1, m1⟩
    have B1 := Lib.hid (HB.out.modT m1 (by unfold wT; decide))
    have M1 := Lib.hid (MA.out.trans m1)
    obtain ⟨o1, e1⟩ : ∃ x, wText o ⟨#[77, 81, 84, 84]⟩ = x := ⟨_, rfl⟩
    rw [e1] at h1
    have s1 : o1.s.size ≤ 1200000 := by rw [← e1]; have := text_size o ⟨#[77, 81, 84, 84]⟩; omega
    have E1 := Lib.hid e1
    have H1 := Lib.hid h1
    clear e1 h1 m1
    have C2 := Lib.hid (wbyte_any W0 b o1 5 w1 (by omega) H1.out)
    go_wp2_with fail
    (with_reducible refine C2.out.mono ?_)
    rintro e w2 ⟨rfl, h2, m2⟩
    have B2 := Lib.hid (B1.out.modT m2 (by unfold wT; decide))
    have M2 := Lib.hid (M1.out.trans m2)
    obtain ⟨o2, e2⟩ : ∃ x, wNum 1 o1 5 = x := ⟨_, rfl⟩
    rw [e2] at h2
    have s2 : o2.s.size ≤ 1200010 := by rw [← e2]; have := num_size 1 o1 5; have : (1 : Int).toNat = 1 := rfl; omega
    have E2 := Lib.hid e2
    have H2 := Lib.hid h2
    clear e2 h2 m2
    have k2_11 : w2.cell? ⟨w.heap.size, 11, none⟩ = some (.bool p.clean) := B2.out.cell 11
    have k2_20 : w2.cell? ⟨w.heap.size, 20, none⟩ = some (.bool p.hasPass) := B2.out.cell 20
    have k2_19 : w2.cell? ⟨w.heap.size, 19, none⟩ = some (.bool p.hasUser) := B2.out.cell 19
    have g11 := (B2.out.cell 11); clear g11
    go_wp2_with fail
    go_quiet ((go_at_call 25; exact Calls.quiet_of_same (bit_q _ _ _)))
    have HX1 := Lib.hid (Wst.drewN (H2.out) nq)
    have MX1 := Lib.hid (ModT.drewN M2.out nq)
    have BX1 : Hid (Blk (w2.drewN nq) w.heap.size (pkA .u8 p m) 45) := Lib.hid B2.out
    obtain ⟨X1, hX1⟩ : ∃ X, w2.drewN nq = X := ⟨_, rfl⟩
    rw [hX1] at HX1 MX1 BX1 ⊢
    clear hX1
    have x1_13 : X1.cell? ⟨w.heap.size, 13, none⟩ = some (.bool false) := (BX1.out.cell 13).trans (by show some (Value.bool _) = _; rw [HWL.out])
    have C3 := Lib.hid (wbyte_any W0 b o2 (bt1 p.clean 2 + bt1 p.hasPass 64 + bt1 p.hasUser 128) X1 (by omega) HX1.out)
    go_wp2_with fail
    (with_reducible refine C3.out.mono ?_)
    rintro e w3 ⟨rfl, h3, m3⟩
    have B3 := Lib.hid (BX1.out.modT m3 (by unfold wT; decide))
    have M3 := Lib.hid (MX1.out.trans m3)
    obtain ⟨o3, e3⟩ : ∃ x, wNum 1 o2 (bt1 p.clean 2 + bt1 p.hasPass 64 + bt1 p.hasUser 128) = x := ⟨_, rfl⟩
    rw [e3] at h3
    have s3 : o3.s.size ≤ 1200020 := by rw [← e3]; have := num_size 1 o2 (bt1 p.clean 2 + bt1 p.hasPass 64 + bt1 p.hasUser 128); have : (1 : Int).toNat = 1 := rfl; omega
    have E3 := Lib.hid e3
    have H3 := Lib.hid h3
    clear e3 h3 m3
    have k3_12 : w3.cell? ⟨w.heap.size, 12, none⟩ = some (.int .i64 p.keep) := B3.out.cell 12
    have C4 := Lib.hid (wtwo_any W0 b o3 p.keep w3 (by omega) H3.out)
    go_wp2_with fail
    (with_reducible refine C4.out.mono ?_)
    rintro e w4 ⟨rfl, h4, m4⟩
    have B4 := Lib.hid (B3.out.modT m4 (by unfold wT; decide))
    have M4 := Lib.hid (M3.out.trans m4)
    obtain ⟨o4, e4⟩ : ∃ x, wNum 2 o3 p.keep = x := ⟨_, rfl⟩
    rw [e4] at h4
    have s4 : o4.s.size ≤ 1200030 := by rw [← e4]; have := num_size 2 o3 p.keep; have : (2 : Int).toNat = 2 := rfl; omega
    have E4 := Lib.hid e4
    have H4 := Lib.hid h4
    clear e4 h4 m4
    have k4_9 : w4.cell? ⟨w.heap.size, 9, none⟩ = some (.slice m.p.A m.p.n m.p.cap) := B4.out.cell 9
    have C5 := Lib.hid (wprops_any W0 b o4 1 m.p.A m.p.n m.p.cap p.ps w4 HP.out.pn HP.out.pc (by have := HP.out.fits.ps.1; have := HP.out.pn; omega) HP.out.pr HP.out.fits.ps.2 (by omega) H4.out hT)
    go_wp2_with fail
    (with_reducible refine C5.out.mono ?_)
    rintro e w5 ⟨rfl, h5, m5⟩
    have B5 := Lib.hid (B4.out.modT m5 (by unfold wT; decide))
    have M5 := Lib.hid (M4.out.trans m5)
    obtain ⟨o5, e5⟩ : ∃ x, wProps 1 o4 p.ps = x := ⟨_, rfl⟩
    rw [e5] at h5
    have s5 : o5.s.size ≤ 9700000 := by rw [← e5]; have := props_size 1 o4 p.ps; omega
    have E5 := Lib.hid e5
    have H5 := Lib.hid h5
    clear e5 h5 m5
    have k5_10 : w5.cell? ⟨w.heap.size, 10, none⟩ = some (.string p.client) := B5.out.cell 10
    have C6 := Lib.hid (wtext_any W0 b o5 p.client w5 (by have := HP.out.fits.client; omega) (by omega) H5.out hT)
    go_wp2_with fail
    (with_reducible refine C6.out.mono ?_)
    rintro e w6 ⟨rfl, h6, m6⟩
    have B6 := Lib.hid (B5.out.modT m6 (by unfold wT; decide))
    have M6 := Lib.hid (M5.out.trans m6)
    obtain ⟨o6, e6⟩ : ∃ x, wText o5 p.client = x := ⟨_, rfl⟩
    rw [e6] at h6
    have s6 : o6.s.size ≤ 9800000 := by rw [← e6]; have := text_size o5 p.client; omega
    have E6 := Lib.hid e6
    have H6 := Lib.hid h6
    clear e6 h6 m6
    have k6_13 : w6.cell? ⟨w.heap.size, 13, none⟩ = some (.bool false) := (B6.out.cell 13).trans (by show some (Value.bool _) = _; rw [HWL.out])
    have k6_19 : w6.cell? ⟨w.heap.size, 19, none⟩ = some (.bool false) := (B6.out.cell 19).trans (by show some (Value.bool _) = _; rw [HUS.out])
    have k6_20 : w6.cell? ⟨w.heap.size, 20, none⟩ = some (.bool false) := (B6.out.cell 20).trans (by show some (Value.bool _) = _; rw [HPS.out])
    go_wp2
    go_end0
    refine ⟨rfl, ?_, M6.out⟩
    have e : wConnect o p = o6 := by
      unfold wConnect cPass cUser cWill cHead
      rw [HWL.out, HUS.out, HPS.out]
      simp only [Bool.false_eq_true, if_false]
      rw [show name5 = ⟨#[77, 81, 84, 84]⟩ from rfl, show cFlags p = (bt1 p.clean 2 + bt1 p.hasPass 64 + bt1 p.hasUser 128) from by unfold cFlags; rw [HWL.out]; simp, E1.out, E2.out, E3.out, E4.out, E5.out, E6.out]
    rw [e]
    exact H6.out
  · have HWL : Hid (p.hasWill = false) := Lib.hid hwl
    have HUS : Hid (p.hasUser = false) := Lib.hid hus
    have HPS : Hid (p.hasPass = true) := Lib.hid hps
    have a1 := bt1_bd p.clean 2 (by decide)
    have a2 := bt1_bd p.hasPass 64 (by decide)
    have a3 := bt1_bd p.hasUser 128 (by decide)
    have a4 := bt1_bd p.wr 32 (by decide)
    have a5 := Int.emod_nonneg p.wq (show (4 : Int) ≠ 0 by decide)
    have a6 := Int.emod_lt_of_pos p.wq (show (0 : Int) < 4 by decide)
    have hand := and_3 HP.out.fits.wq.1 HP.out.fits.wq.2
    have r1 : IntKind.i64.wrap (bt1 p.clean 2 + bt1 p.hasPass 64) = bt1 p.clean 2 + bt1 p.hasPass 64 := IntWalk.i64_in _ (by omega)
    have r2 : IntKind.i64.wrap (bt1 p.clean 2 + bt1 p.hasPass 64 + bt1 p.hasUser 128) = bt1 p.clean 2 + bt1 p.hasPass 64 + bt1 p.hasUser 128 := IntWalk.i64_in _ (by omega)
    clear hwl hus hps a1 a2 a3 a4 a5 a6
    go_enter Tryd.func40, Tryd.ntmps40
    have C1 := Lib.hid (wtext_any W0 b o ⟨#[77, 81, 84, 84]⟩ W (by decide) (by omega) HA.out hT)
    go_wp2_with fail
    rw [HW.out]
    (with_reducible refine C1.out.mono ?_)
    rintro e w1 ⟨rfl, h1, m1⟩
    have B1 := Lib.hid (HB.out.modT m1 (by unfold wT; decide))
    have M1 := Lib.hid (MA.out.trans m1)
    obtain ⟨o1, e1⟩ : ∃ x, wText o ⟨#[77, 81, 84, 84]⟩ = x := ⟨_, rfl⟩
    rw [e1] at h1
    have s1 : o1.s.size ≤ 1200000 := by rw [← e1]; have := text_size o ⟨#[77, 81, 84, 84]⟩; omega
    have E1 := Lib.hid e1
    have H1 := Lib.hid h1
    clear e1 h1 m1
    have C2 := Lib.hid (wbyte_any W0 b o1 5 w1 (by omega) H1.out)
    go_wp2_with fail
    (with_reducible refine C2.out.mono ?_)
    rintro e w2 ⟨rfl, h2, m2⟩
    have B2 := Lib.hid (B1.out.modT m2 (by unfold wT; decide))
    have M2 := Lib.hid (M1.out.trans m2)
    obtain ⟨o2, e2⟩ : ∃ x, wNum 1 o1 5 = x := ⟨_, rfl⟩
    rw [e2] at h2
    have s2 : o2.s.size ≤ 1200010 := by rw [← e2]; have := num_size 1 o1 5; have : (1 : Int).toNat = 1 := rfl; omega
    have E2 := Lib.hid e2
    have H2 := Lib.hid h2
    clear e2 h2 m2
    have k2_11 : w2.cell? ⟨w.heap.size, 11, none⟩ = some (.bool p.clean) := B2.out.cell 11
    have k2_20 : w2.cell? ⟨w.heap.size, 20, none⟩ = some (.bool p.hasPass) := B2.out.cell 20
    have k2_19 : w2.cell? ⟨w.heap.size, 19, none⟩ = some (.bool p.hasUser) := B2.out.cell 19
    have g11 := (B2.out.cell 11); clear g11
    go_wp2_with fail
    go_quiet ((go_at_call 25; exact Calls.quiet_of_same (bit_q _ _ _)))
    have HX1 := Lib.hid (Wst.drewN (H2.out) nq)
    have MX1 := Lib.hid (ModT.drewN M2.out nq)
    have BX1 : Hid (Blk (w2.drewN nq) w.heap.size (pkA .u8 p m) 45) := Lib.hid B2.out
    obtain ⟨X1, hX1⟩ : ∃ X, w2.drewN nq = X := ⟨_, rfl⟩
    rw [hX1] at HX1 MX1 BX1 ⊢
    clear hX1
    have x1_13 : X1.cell? ⟨w.heap.size, 13, none⟩ = some (.bool false) := (BX1.out.cell 13).trans (by show some (Value.bool _) = _; rw [HWL.out])
    have C3 := Lib.hid (wbyte_any W0 b o2 (bt1 p.clean 2 + bt1 p.hasPass 64 + bt1 p.hasUser 128) X1 (by omega) HX1.out)
    go_wp2_with fail
    (with_reducible refine C3.out.mono ?_)
    rintro e w3 ⟨rfl, h3, m3⟩
    have B3 := Lib.hid (BX1.out.modT m3 (by unfold wT; decide))
    have M3 := Lib.hid (MX1.out.trans m3)
    obtain ⟨o3, e3⟩ : ∃ x, wNum 1 o2 (bt1 p.clean 2 + bt1 p.hasPass 64 + bt1 p.hasUser 128) = x := ⟨_, rfl⟩
    rw [e3] at h3
    have s3 : o3.s.size ≤ 1200020 := by rw [← e3]; have := num_size 1 o2 (bt1 p.clean 2 + bt1 p.hasPass 64 + bt1 p.hasUser 128); have : (1 : Int).toNat = 1 := rfl; omega
    have E3 := Lib.hid e3
    have H3 := Lib.hid h3
    clear e3 h3 m3
    have k3_12 : w3.cell? ⟨w.heap.size, 12, none⟩ = some (.int .i64 p.keep) := B3.out.cell 12
    have C4 := Lib.hid (wtwo_any W0 b o3 p.keep w3 (by omega) H3.out)
    go_wp2_with fail
    (with_reducible refine C4.out.mono ?_)
    rintro e w4 ⟨rfl, h4, m4⟩
    have B4 := Lib.hid (B3.out.modT m4 (by unfold wT; decide))
    have M4 := Lib.hid (M3.out.trans m4)
    obtain ⟨o4, e4⟩ : ∃ x, wNum 2 o3 p.keep = x := ⟨_, rfl⟩
    rw [e4] at h4
    have s4 : o4.s.size ≤ 1200030 := by rw [← e4]; have := num_size 2 o3 p.keep; have : (2 : Int).toNat = 2 := rfl; omega
    have E4 := Lib.hid e4
    have H4 := Lib.hid h4
    clear e4 h4 m4
    have k4_9 : w4.cell? ⟨w.heap.size, 9, none⟩ = some (.slice m.p.A m.p.n m.p.cap) := B4.out.cell 9
    have C5 := Lib.hid (wprops_any W0 b o4 1 m.p.A m.p.n m.p.cap p.ps w4 HP.out.pn HP.out.pc (by have := HP.out.fits.ps.1; have := HP.out.pn; omega) HP.out.pr HP.out.fits.ps.2 (by omega) H4.out hT)
    go_wp2_with fail
    (with_reducible refine C5.out.mono ?_)
    rintro e w5 ⟨rfl, h5, m5⟩
    have B5 := Lib.hid (B4.out.modT m5 (by unfold wT; decide))
    have M5 := Lib.hid (M4.out.trans m5)
    obtain ⟨o5, e5⟩ : ∃ x, wProps 1 o4 p.ps = x := ⟨_, rfl⟩
    rw [e5] at h5
    have s5 : o5.s.size ≤ 9700000 := by rw [← e5]; have := props_size 1 o4 p.ps; omega
    have E5 := Lib.hid e5
    have H5 := Lib.hid h5
    clear e5 h5 m5
    have k5_10 : w5.cell? ⟨w.heap.size, 10, none⟩ = some (.string p.client) := B5.out.cell 10
    have C6 := Lib.hid (wtext_any W0 b o5 p.client w5 (by have := HP.out.fits.client; omega) (by omega) H5.out hT)
    go_wp2_with fail
    (with_reducible refine C6.out.mono ?_)
    rintro e w6 ⟨rfl, h6, m6⟩
    have B6 := Lib.hid (B5.out.modT m6 (by unfold wT; decide))
    have M6 := Lib.hid (M5.out.trans m6)
    obtain ⟨o6, e6⟩ : ∃ x, wText o5 p.client = x := ⟨_, rfl⟩
    rw [e6] at h6
    have s6 : o6.s.size ≤ 9800000 := by rw [← e6]; have := text_size o5 p.client; omega
    have E6 := Lib.hid e6
    have H6 := Lib.hid h6
    clear e6 h6 m6
    have k6_13 : w6.cell? ⟨w.heap.size, 13, none⟩ = some (.bool false) := (B6.out.cell 13).trans (by show some (Value.bool _) = _; rw [HWL.out])
    have k6_19 : w6.cell? ⟨w.heap.size, 19, none⟩ = some (.bool false) := (B6.out.cell 19).trans (by show some (Value.bool _) = _; rw [HUS.out])
    have k6_20 : w6.cell? ⟨w.heap.size, 20, none⟩ = some (.bool true) := (B6.out.cell 20).trans (by show some (Value.bool _) = _; rw [HPS.out])
    have k6_22 : w6.cell? ⟨w.heap.size, 22, none⟩ = some (.string p.pass) := B6.out.cell 22
    have C7 := Lib.hid (wdata_any W0 b o6 p.pass w6 (by have := HP.out.fits.pass; omega) (by omega) H6.out)
    go_wp2_with fail
    (with_reducible refine C7.out.mono ?_)
    rintro e w7 ⟨rfl, h7, m7⟩
    have B7 := Lib.hid (B6.out.modT m7 (by unfold wT; decide))
    have M7 := Lib.hid (M6.out.trans m7)
    obtain ⟨o7, e7⟩ : ∃ x, wData o6 p.pass = x := ⟨_, rfl⟩
    rw [e7] at h7
    have s7 : o7.s.size ≤ 18900000 := by rw [← e7]; have := data_size o6 p.pass; omega
    have E7 := Lib.hid e7
    have H7 := Lib.hid h7
    clear e7 h7 m7
    go_wp2
    go_end0
    refine ⟨rfl, ?_, M7.out⟩
    have e : wConnect o p = o7 := by
      unfold wConnect cPass cUser cWill cHead
      rw [HWL.out, HUS.out, HPS.out]
      simp only [if_true, Bool.false_eq_true, if_false]
      rw [show name5 = ⟨#[77, 81, 84, 84]⟩ from rfl, show cFlags p = (bt1 p.clean 2 + bt1 p.hasPass 64 + bt1 p.hasUser 128) from by unfold cFlags; rw [HWL.out]; simp, E1.out, E2.out, E3.out, E4.out, E5.out, E6.out, E7.out]
    rw [e]
    exact H7.out
theorem wconnect_any (W0 : World) (b : Nat) (o : Ot) (p : Pk) (m : Hs) (w : World) (hP : PkIn .u8 W0 p m) (hs : o.s.size ≤ 1048576) (h : Wst W0 b o w) (hT : Tabs W0) :
    Calls Tryd.prog 40 #[.pointer (some ⟨b, 0, none⟩), pkV .u8 p m] w fun e w' => WPost W0 b (wConnect o p) w w' e := by
  rcases (by cases p.hasWill <;> simp : p.hasWill = false ∨ p.hasWill = true) with h1 | h1
  · rcases (by cases p.hasUser <;> simp : p.hasUser = false ∨ p.hasUser = true) with h2 | h2
    · exact wconnect_ff W0 b o p m w hP hs h hT h1 h2
    · exact wconnect_ft W0 b o p m w hP hs h hT h1 h2
  · rcases (by cases p.hasUser <;> simp : p.hasUser = false ∨ p.hasUser = true) with h2 | h2
    · exact wconnect_tf W0 b o p m w hP hs h hT h1 h2
    · exact wconnect_tt W0 b o p m w hP hs h hT h1 h2
end Go.Proofs.YtedapgeabpadaaaDoor
