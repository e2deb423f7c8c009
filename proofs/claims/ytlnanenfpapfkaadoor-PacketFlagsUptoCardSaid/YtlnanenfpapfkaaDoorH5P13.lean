/- Parts of the proof, joined: Wr10, PkW. -/
import Derived.Test.YtlnanenfpapfkaaDoorH5P12
import Derived.Test.YtlnanenfpapfkaaDoorH5P3
import Derived.Test.YtlnanenfpapfkaaDoorH5P5
import Derived.Great.BuildSlice
/- The walk of packet.Put. -/
set_option linter.unusedVariables false
namespace Go.Proofs.YtlnanenfpapfkaaDoor
open Go.Shelf Go.RowKit Pl

def PkPut (p : Pk) (w w' : World) (e : Ending) : Prop := e = .returned (.tuple #[.string (pkS p), .int .u8 (pkC p)]) ∧ Below w.heap.size w w'
theorem pk_out {p : Pk} (h : p.kind < 1 ∨ 15 < p.kind) : pkC p = 129 ∧ pkS p = ⟨#[]⟩ := by
  have e : pkC p = 129 := by unfold pkC; rw [if_pos h]
  exact ⟨e, by unfold pkS; rw [e, if_neg (by decide)]⟩
theorem pk_code {p : Pk} (h : ¬ (p.kind < 1 ∨ 15 < p.kind)) (h1 : (wAll p).c ≠ 0) : pkC p = (wAll p).c ∧ pkS p = ⟨#[]⟩ := by
  have e : pkC p = (wAll p).c := by unfold pkC; rw [if_neg h, if_pos h1]
  exact ⟨e, by unfold pkS; rw [e, if_neg h1]⟩
theorem pk_large {p : Pk} (h : ¬ (p.kind < 1 ∨ 15 < p.kind)) (h1 : (wAll p).c = 0) (h2 : 65536 < (wAll p).s.size) : pkC p = 149 ∧ pkS p = ⟨#[]⟩ := by
  have e : pkC p = 149 := by unfold pkC; rw [if_neg h, if_neg (by rw [h1]; decide), if_pos h2]
  exact ⟨e, by unfold pkS; rw [e, if_neg (by decide)]⟩
theorem pk_ok {p : Pk} (h : ¬ (p.kind < 1 ∨ 15 < p.kind)) (h1 : (wAll p).c = 0) (h2 : ¬ 65536 < (wAll p).s.size) : pkC p = 0 ∧ pkS p = ⟨(fixS 1 (16 * p.kind + pFlags p)).toArray⟩ ++ ⟨(enc (wAll p).s.size).toArray⟩ ++ (wAll p).s := by
  have e : pkC p = 0 := by unfold pkC; rw [if_neg h, if_neg (by rw [h1]; decide), if_neg h2]
  exact ⟨e, by unfold pkS; rw [e, if_pos rfl]⟩
theorem wHead_size (p : Pk) : (wHead p).s.size = 0 := by
  unfold wHead
  split
  · split
    · rw [fail_size, qos_size]; rfl
    · rw [qos_size]; rfl
  · rfl
set_option maxRecDepth 100000 in
set_option maxHeartbeats 4000000 in
theorem wput_out (p : Pk) (m : Hs) (w : World) (hk : p.kind < 1 ∨ 15 < p.kind) :
    Calls Tryd.prog 9 #[pkV .u8 p m] w fun e w' => PkPut p w w' e := by
  have hB := Blk.new w (pkA .u8 p m) 38
  have b1 : Below w.heap.size w (w.alloc (.cells (pkA .u8 p m) 38)) := (Below.refl _ _).alloc (Nat.le_refl _) _
  obtain ⟨W, hW⟩ : ∃ W, w.alloc (.cells (pkA .u8 p m) 38) = W := ⟨_, rfl⟩
  rw [hW] at hB b1
  have b2 := b1.alloc b1.size (.cells #[.pointer none, .slice none 0 0, .int .u8 0] 71)
  have hB2 := hB.alloc (.cells #[.pointer none, .slice none 0 0, .int .u8 0] 71)
  obtain ⟨X, hX⟩ : ∃ X, W.alloc (.cells #[.pointer none, .slice none 0 0, .int .u8 0] 71) = X := ⟨_, rfl⟩
  rw [hX] at b2 hB2
  have k0 : W.cell? ⟨w.heap.size, 0, none⟩ = some (.int .i64 p.kind) := hB.cell 0
  have x0 : X.cell? ⟨w.heap.size, 0, none⟩ = some (.int .i64 p.kind) := hB2.cell 0
  have B2 := Lib.hid b2
  obtain ⟨q1, q2⟩ := pk_out hk
  have Q1 := Lib.hid q1
  have Q2 := Lib.hid q2
  clear hB hB2 b1 b2 q1 q2
  unfold pkV
  rcases hk with hk | hk
  · go_enter Tryd.func9, Tryd.ntmps9
    go_wp2_with fail
    (with_reducible refine (kflags_any _ _).mono ?_)
    rintro e w1 ⟨rfl, rfl⟩
    go_wp2
    go_ret2
    exact ⟨by rw [Q1.out, Q2.out]; rfl, B2.out⟩
  · have hk1 : ¬ p.kind < 1 := by omega
    go_enter Tryd.func9, Tryd.ntmps9
    go_wp2_with fail
    (with_reducible refine (kflags_any _ _).mono ?_)
    rintro e w1 ⟨rfl, rfl⟩
    go_wp2
    go_ret2
    exact ⟨by rw [Q1.out, Q2.out]; rfl, B2.out⟩
set_option maxRecDepth 100000 in
set_option maxHeartbeats 8000000 in
theorem wput_c (p : Pk) (m : Hs) (w : World) (hP : PkIn .u8 w p m) (hT : Tabs w) (hk : ¬ (p.kind < 1 ∨ 15 < p.kind)) (h3 : p.kind ≠ 3) :
    Calls Tryd.prog 9 #[pkV .u8 p m] w fun e w' => PkPut p w w' e := by
  have hB := Blk.new w (pkA .u8 p m) 38
  have b1 : Below w.heap.size w (w.alloc (.cells (pkA .u8 p m) 38)) := (Below.refl _ _).alloc (Nat.le_refl _) _
  obtain ⟨W, hW⟩ : ∃ W, w.alloc (.cells (pkA .u8 p m) 38) = W := ⟨_, rfl⟩
  rw [hW] at hB b1
  have hA : Wst w W.heap.size ⟨⟨#[]⟩, 0⟩ (W.alloc (.cells #[.pointer none, .slice none 0 0, .int .u8 0] 71)) := ⟨b1.alloc b1.size _, b1.size, .pointer none, .slice none 0 0, .inl rfl, Blk.new _ _ _, World.ownsRow_nil _ _ _ _⟩
  have hB2 := hB.alloc (.cells #[.pointer none, .slice none 0 0, .int .u8 0] 71)
  obtain ⟨X, hX⟩ : ∃ X, W.alloc (.cells #[.pointer none, .slice none 0 0, .int .u8 0] 71) = X := ⟨_, rfl⟩
  rw [hX] at hA hB2
  have k0 : W.cell? ⟨w.heap.size, 0, none⟩ = some (.int .i64 p.kind) := hB.cell 0
  have x0 : X.cell? ⟨w.heap.size, 0, none⟩ = some (.int .i64 p.kind) := hB2.cell 0
  have HB := Lib.hid hB2
  have HA := Lib.hid hA
  have HP := Lib.hid hP
  have hk1 : ¬ p.kind < 1 := by omega
  have hk2 : ¬ 15 < p.kind := by omega
  have HK := Lib.hid hk
  have hs0 := wHead_size p
  obtain ⟨b, hb⟩ : ∃ b, W.heap.size = b := ⟨_, rfl⟩
  rw [hb] at HA
  have t3 : (p.kind == 3) = false := beq_eq_false_iff_ne.2 h3
  have hH : wHead p = ⟨⟨#[]⟩, 0⟩ := by unfold wHead; rw [if_neg h3]
  have HH : Hid (Wst w b (wHead p) X) := Lib.hid (by rw [hH]; exact HA.out)
  have HFL : Hid (pFlags p = kFlags p.kind) := Lib.hid (by unfold pFlags; rw [if_neg h3])
  have HFB : Hid (0 ≤ kFlags p.kind ∧ kFlags p.kind ≤ 15) := Lib.hid (by unfold kFlags; split <;> decide)
  clear hB b1 hA hB2 hP hk h3 hH
  unfold pkV
  go_enter Tryd.func9, Tryd.ntmps9
  go_wp2_with fail
  (with_reducible refine (kflags_any _ _).mono ?_)
  rintro e w1 ⟨rfl, rfl⟩
  have CB := wbody_any w b (wHead p) p m _ HP.out (by rw [wHead_size]; decide) HH.out hT
  change Calls _ _ _ _ (fun e w' => WPost w b (wAll p) _ w' e) at CB
  unfold pkV at CB
  obtain ⟨O, hO⟩ : ∃ O, wAll p = O := ⟨_, rfl⟩
  rw [hO] at CB
  have HO := Lib.hid hO
  have CB := Lib.hid CB
  clear hO
  by_cases hc : O.c = 0
  · have HC := Lib.hid hc
    by_cases hbig : 65536 < O.s.size
    · go_wp2_with (refine wpList_load_row rfl 38 (.tmp 1) rfl w.heap.size rfl 38 (pkA .u8 p m) (0, 0) _ HB.out Tryd.underlying38 rfl pk_size ?_)
      (with_reducible refine CB.out.mono ?_)
      rintro e wz ⟨rfl, hz, mz⟩
      have HZ := Lib.hid hz
      have BZ := Lib.hid (HB.out.modT mz (by unfold wT; decide))
      obtain ⟨vp, vs, hwb⟩ := wr_blk hz.wr
      rw [hc] at hwb
      have z1 : wz.cell? ⟨b, 1 + 1, none⟩ = some (.int .u8 0) := hwb.cell 2
      have z2 : wz.cell? ⟨b, 2, none⟩ = some (.int .u8 0) := hwb.cell 2
      have CL := Lib.hid (wlen_any w.heap.size b O.s O.c wz hz.wr)
      clear hz mz hwb
      have hsz : (65536 : Int) < (O.s.size : Int) := by omega
      go_wp2_with fail
      (with_reducible refine CL.out.mono ?_)
      rintro e w9 ⟨rfl, rfl⟩
      go_wp2
      go_ret2
      obtain ⟨q1, q2⟩ := pk_large HK.out (by rw [HO.out]; exact HC.out) (by rw [HO.out]; exact hbig)
      exact ⟨by rw [q1, q2]; rfl, HZ.out.below⟩
    · go_wp2_with (refine wpList_load_row rfl 38 (.tmp 1) rfl w.heap.size rfl 38 (pkA .u8 p m) (0, 0) _ HB.out Tryd.underlying38 rfl pk_size ?_)
      (with_reducible refine CB.out.mono ?_)
      rintro e wz ⟨rfl, hz, mz⟩
      have HZ := Lib.hid hz
      have BZ := Lib.hid (HB.out.modT mz (by unfold wT; decide))
      obtain ⟨vp, vs, hwb⟩ := wr_blk hz.wr
      rw [hc] at hwb
      have z1 : wz.cell? ⟨b, 1 + 1, none⟩ = some (.int .u8 0) := hwb.cell 2
      have z2 : wz.cell? ⟨b, 2, none⟩ = some (.int .u8 0) := hwb.cell 2
      have CL := Lib.hid (wlen_any w.heap.size b O.s O.c wz hz.wr)
      clear hz mz hwb
      have hsz : ¬ (65536 : Int) < (O.s.size : Int) := by omega
      have z0 : wz.cell? ⟨w.heap.size, 0, none⟩ = some (.int .i64 p.kind) := BZ.out.cell 0
      obtain ⟨q1, q2⟩ := pk_ok HK.out (by rw [HO.out]; exact HC.out) (by rw [HO.out]; exact hbig)
      rw [HO.out, show 16 * p.kind + pFlags p = p.kind * 16 + kFlags p.kind from by rw [HFL.out]; omega] at q2
      obtain ⟨fx, hfx⟩ : ∃ x, (⟨(fixS 1 (p.kind * 16 + kFlags p.kind)).toArray⟩ : ByteArray) = x := ⟨_, rfl⟩
      obtain ⟨ex, hex⟩ : ∃ x, (⟨(enc (O.s.size : Int)).toArray⟩ : ByteArray) = x := ⟨_, rfl⟩
      have s1 : ex.size ≤ 4 := by rw [← hex]; have := enc_small O.s.size; show (enc (O.s.size : Int)).toArray.size ≤ 4; simpa using this
      have s2 : fx.size ≤ 1 := by rw [← hfx]; have := fixS_len 1 (p.kind * 16 + kFlags p.kind); show (fixS 1 (p.kind * 16 + kFlags p.kind)).toArray.size ≤ 1; simpa using this
      have s3 : (fx ++ ex).size ≤ 5 := by rw [ByteArray.size_append]; omega
      have s4 : O.s.size ≤ 65536 := by omega
      have CX := fixed_all 1 (p.kind * 16 + kFlags p.kind) wz
      rw [hfx] at CX
      have CE : ∀ Y : World, _ := fun Y => put_all (O.s.size : Int) Y
      rw [hex] at CE
      rw [hfx, hex] at q2
      have CX := Lib.hid CX
      have CE := Lib.hid CE
      have Q1 := Lib.hid q1
      have Q2 := Lib.hid q2
      have hfl := HFB.out
      clear q1 q2 hfx hex
      go_wp2_with fail
      (with_reducible refine CL.out.mono ?_)
      rintro e w9 ⟨rfl, rfl⟩
      go_wp2_with fail
      (with_reducible refine CX.out.mono ?_)
      rintro e w10 ⟨rfl, b10⟩
      have H10 := Lib.hid (HZ.out.step b10)
      have CL2 := Lib.hid (wlen_any w.heap.size b O.s O.c w10 H10.out.wr)
      clear b10
      go_wp2_with fail
      (with_reducible refine CL2.out.mono ?_)
      rintro e w11 ⟨rfl, rfl⟩
      go_wp2_with fail
      (with_reducible refine (CE.out _).mono ?_)
      rintro e w12 ⟨rfl, b12⟩
      have H12 := Lib.hid (H10.out.step b12)
      have CS := Lib.hid (wstr_any w.heap.size b O.s O.c w12 H12.out.wr H12.out.below.size)
      clear b12
      go_wp2_with fail
      (with_reducible refine CS.out.mono ?_)
      rintro e w13 ⟨rfl, b13⟩
      go_wp2
      go_ret2
      exact ⟨by rw [Q1.out, Q2.out]; rfl, H12.out.below.trans b13⟩
  · have e0 : (O.c == 0) = false := beq_eq_false_iff_ne.2 hc
    have e1 : (O.c != 0) = true := by rw [bne, e0]; rfl
    have HC := Lib.hid hc
    clear hc
    go_wp2_with (refine wpList_load_row rfl 38 (.tmp 1) rfl w.heap.size rfl 38 (pkA .u8 p m) (0, 0) _ HB.out Tryd.underlying38 rfl pk_size ?_)
    (with_reducible refine CB.out.mono ?_)
    rintro e wz ⟨rfl, hz, mz⟩
    have HZ := Lib.hid hz
    have BZ := Lib.hid (HB.out.modT mz (by unfold wT; decide))
    obtain ⟨vp, vs, hwb⟩ := wr_blk hz.wr
    have z1 : wz.cell? ⟨b, 1 + 1, none⟩ = some (.int .u8 O.c) := hwb.cell 2
    have z2 : wz.cell? ⟨b, 2, none⟩ = some (.int .u8 O.c) := hwb.cell 2
    clear hz mz hwb
    go_wp2_with fail
    go_quiet (fail)
    go_wp2
    go_ret2
    obtain ⟨q1, q2⟩ := pk_code HK.out (by rw [HO.out]; exact HC.out)
    exact ⟨by rw [q1, q2, HO.out]; rfl, ⟨HZ.out.below.os, HZ.out.below.tape, HZ.out.below.output, HZ.out.below.size, HZ.out.below.block⟩⟩
set_option maxRecDepth 100000 in
set_option maxHeartbeats 8000000 in
theorem wput_b1 (p : Pk) (m : Hs) (w : World) (hP : PkIn .u8 w p m) (hT : Tabs w) (hk : ¬ (p.kind < 1 ∨ 15 < p.kind)) (h3 : p.kind = 3) (hd : p.dup = false) :
    Calls Tryd.prog 9 #[pkV .u8 p m] w fun e w' => PkPut p w w' e := by
  have hB := Blk.new w (pkA .u8 p m) 38
  have b1 : Below w.heap.size w (w.alloc (.cells (pkA .u8 p m) 38)) := (Below.refl _ _).alloc (Nat.le_refl _) _
  obtain ⟨W, hW⟩ : ∃ W, w.alloc (.cells (pkA .u8 p m) 38) = W := ⟨_, rfl⟩
  rw [hW] at hB b1
  have hA : Wst w W.heap.size ⟨⟨#[]⟩, 0⟩ (W.alloc (.cells #[.pointer none, .slice none 0 0, .int .u8 0] 71)) := ⟨b1.alloc b1.size _, b1.size, .pointer none, .slice none 0 0, .inl rfl, Blk.new _ _ _, World.ownsRow_nil _ _ _ _⟩
  have hB2 := hB.alloc (.cells #[.pointer none, .slice none 0 0, .int .u8 0] 71)
  obtain ⟨X, hX⟩ : ∃ X, W.alloc (.cells #[.pointer none, .slice none 0 0, .int .u8 0] 71) = X := ⟨_, rfl⟩
  rw [hX] at hA hB2
  have k0 : W.cell? ⟨w.heap.size, 0, none⟩ = some (.int .i64 p.kind) := hB.cell 0
  have x0 : X.cell? ⟨w.heap.size, 0, none⟩ = some (.int .i64 p.kind) := hB2.cell 0
  have HB := Lib.hid hB2
  have HA := Lib.hid hA
  have HP := Lib.hid hP
  have hk1 : ¬ p.kind < 1 := by omega
  have hk2 : ¬ 15 < p.kind := by omega
  have HK := Lib.hid hk
  have hs0 := wHead_size p
  obtain ⟨b, hb⟩ : ∃ b, W.heap.size = b := ⟨_, rfl⟩
  rw [hb] at HA
  have t3 : (p.kind == 3) = true := by rw [h3]; rfl
  have HFL : Hid (pFlags p = (bt1 p.dup 8 + p.q % 4 * 2 + bt1 p.ret 1)) := Lib.hid (by unfold pFlags; rw [if_pos h3]; omega)
  have a1 := Int.emod_nonneg p.q (show (4 : Int) ≠ 0 by decide)
  have a2 := Int.emod_lt_of_pos p.q (show (0 : Int) < 4 by decide)
  have a3 := bt1_bd p.dup 8 (by decide)
  have a4 := bt1_bd p.ret 1 (by decide)
  have HFB : Hid (0 ≤ (bt1 p.dup 8 + p.q % 4 * 2 + bt1 p.ret 1) ∧ (bt1 p.dup 8 + p.q % 4 * 2 + bt1 p.ret 1) ≤ 15) := Lib.hid (by omega)
  have r0 : IntKind.i64.wrap (p.q % 4 * 2) = p.q % 4 * 2 := IntWalk.i64_in _ (by omega)
  have r1 : IntKind.i64.wrap (bt1 p.dup 8 + p.q % 4 * 2) = bt1 p.dup 8 + p.q % 4 * 2 := IntWalk.i64_in _ (by omega)
  have r2 : IntKind.i64.wrap (bt1 p.dup 8 + p.q % 4 * 2 + bt1 p.ret 1) = bt1 p.dup 8 + p.q % 4 * 2 + bt1 p.ret 1 := IntWalk.i64_in _ (by omega)
  have hand := and_3 hP.fits.q.1 hP.fits.q.2
  have x3 : X.cell? ⟨w.heap.size, 3, none⟩ = some (.int .i64 p.q) := hB2.cell 3
  have CQ := Lib.hid (wqos_any w b ⟨⟨#[]⟩, 0⟩ p.q X HA.out)
  have HH0 : Hid (wHead p = wQos ⟨⟨#[]⟩, 0⟩ p.q) := Lib.hid (by unfold wHead; rw [if_pos h3, hd, if_neg (by simp)])
  have HD := Lib.hid hd
  clear hB b1 hA hB2 hP hk h3 hd a1 a2 a3 a4
  unfold pkV
  go_enter Tryd.func9, Tryd.ntmps9
  go_wp2_with fail
  (with_reducible refine (kflags_any _ _).mono ?_)
  rintro e w1 ⟨rfl, rfl⟩
  go_wp2_with fail
  (with_reducible refine CQ.out.mono ?_)
  rintro e wa ⟨rfl, ha, ma⟩
  have BA := Lib.hid (HB.out.modT ma (by unfold wT; decide))
  have d1 : wa.cell? ⟨w.heap.size, 1, none⟩ = some (.bool false) := (BA.out.cell 1).trans (by show some (Value.bool p.dup) = _; rw [HD.out])
  have d2 : wa.cell? ⟨w.heap.size, 2, none⟩ = some (.bool p.ret) := BA.out.cell 2
  have d3 : wa.cell? ⟨w.heap.size, 3, none⟩ = some (.int .i64 p.q) := BA.out.cell 3
  go_wp2_with fail
  have d1' : wa.cell? ⟨w.heap.size, 1, none⟩ = some (.bool p.dup) := BA.out.cell 1
  clear d1
  rw [← HH0.out] at ha
  have HX := Lib.hid ha
  clear ha ma
  go_quiet ((go_at_call 17; exact Calls.quiet_of_same (bit_q _ _ _)))
  have HY := Lib.hid (Wst.drewN HX.out nq)
  have BY : Hid (Blk (wa.drewN nq) w.heap.size (pkA .u8 p m) 38) := Lib.hid BA.out
  obtain ⟨Y, hY⟩ : ∃ Y, wa.drewN nq = Y := ⟨_, rfl⟩
  rw [hY] at HY BY ⊢
  clear hY
  have CB := wbody_any w b (wHead p) p m _ HP.out (by rw [wHead_size]; decide) HY.out hT
  change Calls _ _ _ _ (fun e w' => WPost w b (wAll p) _ w' e) at CB
  unfold pkV at CB
  obtain ⟨O, hO⟩ : ∃ O, wAll p = O := ⟨_, rfl⟩
  rw [hO] at CB
  have HO := Lib.hid hO
  have CB := Lib.hid CB
  clear hO
  by_cases hc : O.c = 0
  · have HC := Lib.hid hc
    by_cases hbig : 65536 < O.s.size
    · go_wp2_with (refine wpList_load_row rfl 38 (.tmp 1) rfl w.heap.size rfl 38 (pkA .u8 p m) (0, 0) _ BY.out Tryd.underlying38 rfl pk_size ?_)
      (with_reducible refine CB.out.mono ?_)
      rintro e wz ⟨rfl, hz, mz⟩
      have HZ := Lib.hid hz
      have BZ := Lib.hid (BY.out.modT mz (by unfold wT; decide))
      obtain ⟨vp, vs, hwb⟩ := wr_blk hz.wr
      rw [hc] at hwb
      have z1 : wz.cell? ⟨b, 1 + 1, none⟩ = some (.int .u8 0) := hwb.cell 2
      have z2 : wz.cell? ⟨b, 2, none⟩ = some (.int .u8 0) := hwb.cell 2
      have CL := Lib.hid (wlen_any w.heap.size b O.s O.c wz hz.wr)
      clear hz mz hwb
      have hsz : (65536 : Int) < (O.s.size : Int) := by omega
      go_wp2_with fail
      (with_reducible refine CL.out.mono ?_)
      rintro e w9 ⟨rfl, rfl⟩
      go_wp2
      go_ret2
      obtain ⟨q1, q2⟩ := pk_large HK.out (by rw [HO.out]; exact HC.out) (by rw [HO.out]; exact hbig)
      exact ⟨by rw [q1, q2]; rfl, HZ.out.below⟩
    · go_wp2_with (refine wpList_load_row rfl 38 (.tmp 1) rfl w.heap.size rfl 38 (pkA .u8 p m) (0, 0) _ BY.out Tryd.underlying38 rfl pk_size ?_)
      (with_reducible refine CB.out.mono ?_)
      rintro e wz ⟨rfl, hz, mz⟩
      have HZ := Lib.hid hz
      have BZ := Lib.hid (BY.out.modT mz (by unfold wT; decide))
      obtain ⟨vp, vs, hwb⟩ := wr_blk hz.wr
      rw [hc] at hwb
      have z1 : wz.cell? ⟨b, 1 + 1, none⟩ = some (.int .u8 0) := hwb.cell 2
      have z2 : wz.cell? ⟨b, 2, none⟩ = some (.int .u8 0) := hwb.cell 2
      have CL := Lib.hid (wlen_any w.heap.size b O.s O.c wz hz.wr)
      clear hz mz hwb
      have hsz : ¬ (65536 : Int) < (O.s.size : Int) := by omega
      have z0 : wz.cell? ⟨w.heap.size, 0, none⟩ = some (.int .i64 p.kind) := BZ.out.cell 0
      obtain ⟨q1, q2⟩ := pk_ok HK.out (by rw [HO.out]; exact HC.out) (by rw [HO.out]; exact hbig)
      rw [HO.out, show 16 * p.kind + pFlags p = p.kind * 16 + (bt1 p.dup 8 + p.q % 4 * 2 + bt1 p.ret 1) from by rw [HFL.out]; omega] at q2
      obtain ⟨fx, hfx⟩ : ∃ x, (⟨(fixS 1 (p.kind * 16 + (bt1 p.dup 8 + p.q % 4 * 2 + bt1 p.ret 1))).toArray⟩ : ByteArray) = x := ⟨_, rfl⟩
      obtain ⟨ex, hex⟩ : ∃ x, (⟨(enc (O.s.size : Int)).toArray⟩ : ByteArray) = x := ⟨_, rfl⟩
      have s1 : ex.size ≤ 4 := by rw [← hex]; have := enc_small O.s.size; show (enc (O.s.size : Int)).toArray.size ≤ 4; simpa using this
      have s2 : fx.size ≤ 1 := by rw [← hfx]; have := fixS_len 1 (p.kind * 16 + (bt1 p.dup 8 + p.q % 4 * 2 + bt1 p.ret 1)); show (fixS 1 (p.kind * 16 + (bt1 p.dup 8 + p.q % 4 * 2 + bt1 p.ret 1))).toArray.size ≤ 1; simpa using this
      have s3 : (fx ++ ex).size ≤ 5 := by rw [ByteArray.size_append]; omega
      have s4 : O.s.size ≤ 65536 := by omega
      have CX := fixed_all 1 (p.kind * 16 + (bt1 p.dup 8 + p.q % 4 * 2 + bt1 p.ret 1)) wz
      rw [hfx] at CX
      have CE : ∀ Y : World, _ := fun Y => put_all (O.s.size : Int) Y
      rw [hex] at CE
      rw [hfx, hex] at q2
      have CX := Lib.hid CX
      have CE := Lib.hid CE
      have Q1 := Lib.hid q1
      have Q2 := Lib.hid q2
      have hfl := HFB.out
      clear q1 q2 hfx hex
      go_wp2_with fail
      (with_reducible refine CL.out.mono ?_)
      rintro e w9 ⟨rfl, rfl⟩
      go_wp2_with fail
      (with_reducible refine CX.out.mono ?_)
      rintro e w10 ⟨rfl, b10⟩
      have H10 := Lib.hid (HZ.out.step b10)
      have CL2 := Lib.hid (wlen_any w.heap.size b O.s O.c w10 H10.out.wr)
      clear b10
      go_wp2_with fail
      (with_reducible refine CL2.out.mono ?_)
      rintro e w11 ⟨rfl, rfl⟩
      go_wp2_with fail
      (with_reducible refine (CE.out _).mono ?_)
      rintro e w12 ⟨rfl, b12⟩
      have H12 := Lib.hid (H10.out.step b12)
      have CS := Lib.hid (wstr_any w.heap.size b O.s O.c w12 H12.out.wr H12.out.below.size)
      clear b12
      go_wp2_with fail
      (with_reducible refine CS.out.mono ?_)
      rintro e w13 ⟨rfl, b13⟩
      go_wp2
      go_ret2
      exact ⟨by rw [Q1.out, Q2.out]; rfl, H12.out.below.trans b13⟩
  · have e0 : (O.c == 0) = false := beq_eq_false_iff_ne.2 hc
    have e1 : (O.c != 0) = true := by rw [bne, e0]; rfl
    have HC := Lib.hid hc
    clear hc
    go_wp2_with (refine wpList_load_row rfl 38 (.tmp 1) rfl w.heap.size rfl 38 (pkA .u8 p m) (0, 0) _ BY.out Tryd.underlying38 rfl pk_size ?_)
    (with_reducible refine CB.out.mono ?_)
    rintro e wz ⟨rfl, hz, mz⟩
    have HZ := Lib.hid hz
    have BZ := Lib.hid (BY.out.modT mz (by unfold wT; decide))
    obtain ⟨vp, vs, hwb⟩ := wr_blk hz.wr
    have z1 : wz.cell? ⟨b, 1 + 1, none⟩ = some (.int .u8 O.c) := hwb.cell 2
    have z2 : wz.cell? ⟨b, 2, none⟩ = some (.int .u8 O.c) := hwb.cell 2
    clear hz mz hwb
    go_wp2_with fail
    go_quiet (fail)
    go_wp2
    go_ret2
    obtain ⟨q1, q2⟩ := pk_code HK.out (by rw [HO.out]; exact HC.out)
    exact ⟨by rw [q1, q2, HO.out]; rfl, ⟨HZ.out.below.os, HZ.out.below.tape, HZ.out.below.output, HZ.out.below.size, HZ.out.below.block⟩⟩
set_option maxRecDepth 100000 in
set_option maxHeartbeats 8000000 in
theorem wput_b2 (p : Pk) (m : Hs) (w : World) (hP : PkIn .u8 w p m) (hT : Tabs w) (hk : ¬ (p.kind < 1 ∨ 15 < p.kind)) (h3 : p.kind = 3) (hd : p.dup = true) (hq : p.q = 0) :
    Calls Tryd.prog 9 #[pkV .u8 p m] w fun e w' => PkPut p w w' e := by
  have hB := Blk.new w (pkA .u8 p m) 38
  have b1 : Below w.heap.size w (w.alloc (.cells (pkA .u8 p m) 38)) := (Below.refl _ _).alloc (Nat.le_refl _) _
  obtain ⟨W, hW⟩ : ∃ W, w.alloc (.cells (pkA .u8 p m) 38) = W := ⟨_, rfl⟩
  rw [hW] at hB b1
  have hA : Wst w W.heap.size ⟨⟨#[]⟩, 0⟩ (W.alloc (.cells #[.pointer none, .slice none 0 0, .int .u8 0] 71)) := ⟨b1.alloc b1.size _, b1.size, .pointer none, .slice none 0 0, .inl rfl, Blk.new _ _ _, World.ownsRow_nil _ _ _ _⟩
  have hB2 := hB.alloc (.cells #[.pointer none, .slice none 0 0, .int .u8 0] 71)
  obtain ⟨X, hX⟩ : ∃ X, W.alloc (.cells #[.pointer none, .slice none 0 0, .int .u8 0] 71) = X := ⟨_, rfl⟩
  rw [hX] at hA hB2
  have k0 : W.cell? ⟨w.heap.size, 0, none⟩ = some (.int .i64 p.kind) := hB.cell 0
  have x0 : X.cell? ⟨w.heap.size, 0, none⟩ = some (.int .i64 p.kind) := hB2.cell 0
  have HB := Lib.hid hB2
  have HA := Lib.hid hA
  have HP := Lib.hid hP
  have hk1 : ¬ p.kind < 1 := by omega
  have hk2 : ¬ 15 < p.kind := by omega
  have HK := Lib.hid hk
  have hs0 := wHead_size p
  obtain ⟨b, hb⟩ : ∃ b, W.heap.size = b := ⟨_, rfl⟩
  rw [hb] at HA
  have t3 : (p.kind == 3) = true := by rw [h3]; rfl
  have HFL : Hid (pFlags p = (bt1 p.dup 8 + p.q % 4 * 2 + bt1 p.ret 1)) := Lib.hid (by unfold pFlags; rw [if_pos h3]; omega)
  have a1 := Int.emod_nonneg p.q (show (4 : Int) ≠ 0 by decide)
  have a2 := Int.emod_lt_of_pos p.q (show (0 : Int) < 4 by decide)
  have a3 := bt1_bd p.dup 8 (by decide)
  have a4 := bt1_bd p.ret 1 (by decide)
  have HFB : Hid (0 ≤ (bt1 p.dup 8 + p.q % 4 * 2 + bt1 p.ret 1) ∧ (bt1 p.dup 8 + p.q % 4 * 2 + bt1 p.ret 1) ≤ 15) := Lib.hid (by omega)
  have r0 : IntKind.i64.wrap (p.q % 4 * 2) = p.q % 4 * 2 := IntWalk.i64_in _ (by omega)
  have r1 : IntKind.i64.wrap (bt1 p.dup 8 + p.q % 4 * 2) = bt1 p.dup 8 + p.q % 4 * 2 := IntWalk.i64_in _ (by omega)
  have r2 : IntKind.i64.wrap (bt1 p.dup 8 + p.q % 4 * 2 + bt1 p.ret 1) = bt1 p.dup 8 + p.q % 4 * 2 + bt1 p.ret 1 := IntWalk.i64_in _ (by omega)
  have hand := and_3 hP.fits.q.1 hP.fits.q.2
  have x3 : X.cell? ⟨w.heap.size, 3, none⟩ = some (.int .i64 p.q) := hB2.cell 3
  have CQ := Lib.hid (wqos_any w b ⟨⟨#[]⟩, 0⟩ p.q X HA.out)
  have HH0 : Hid (wHead p = (wQos ⟨⟨#[]⟩, 0⟩ p.q).fail 129) := Lib.hid (by unfold wHead; rw [if_pos h3, if_pos ⟨hd, hq⟩])
  have hq0 : (p.q == 0) = true := by rw [hq]; rfl
  have HD := Lib.hid hd
  clear hB b1 hA hB2 hP hk h3 hd a1 a2 a3 a4 hq
  unfold pkV
  go_enter Tryd.func9, Tryd.ntmps9
  go_wp2_with fail
  (with_reducible refine (kflags_any _ _).mono ?_)
  rintro e w1 ⟨rfl, rfl⟩
  go_wp2_with fail
  (with_reducible refine CQ.out.mono ?_)
  rintro e wa ⟨rfl, ha, ma⟩
  have BA := Lib.hid (HB.out.modT ma (by unfold wT; decide))
  have d1 : wa.cell? ⟨w.heap.size, 1, none⟩ = some (.bool true) := (BA.out.cell 1).trans (by show some (Value.bool p.dup) = _; rw [HD.out])
  have d2 : wa.cell? ⟨w.heap.size, 2, none⟩ = some (.bool p.ret) := BA.out.cell 2
  have d3 : wa.cell? ⟨w.heap.size, 3, none⟩ = some (.int .i64 p.q) := BA.out.cell 3
  have CF := Lib.hid (wfail_any w b _ 129 wa ha)
  clear ha ma
  go_wp2_with fail
  (with_reducible refine CF.out.mono ?_)
  rintro e wc ⟨rfl, ha, ma⟩
  have BA := Lib.hid (BA.out.modT ma (by unfold wT; decide))
  clear d1 d2 d3
  have d1 : wc.cell? ⟨w.heap.size, 1, none⟩ = some (.bool p.dup) := BA.out.cell 1
  have d2 : wc.cell? ⟨w.heap.size, 2, none⟩ = some (.bool p.ret) := BA.out.cell 2
  have d3 : wc.cell? ⟨w.heap.size, 3, none⟩ = some (.int .i64 p.q) := BA.out.cell 3
  go_wp2_with fail
  rw [← HH0.out] at ha
  have HX := Lib.hid ha
  clear ha ma
  go_quiet ((go_at_call 17; exact Calls.quiet_of_same (bit_q _ _ _)))
  have HY := Lib.hid (Wst.drewN HX.out nq)
  have BY : Hid (Blk (wc.drewN nq) w.heap.size (pkA .u8 p m) 38) := Lib.hid BA.out
  obtain ⟨Y, hY⟩ : ∃ Y, wc.drewN nq = Y := ⟨_, rfl⟩
  rw [hY] at HY BY ⊢
  clear hY
  have CB := wbody_any w b (wHead p) p m _ HP.out (by rw [wHead_size]; decide) HY.out hT
  change Calls _ _ _ _ (fun e w' => WPost w b (wAll p) _ w' e) at CB
  unfold pkV at CB
  obtain ⟨O, hO⟩ : ∃ O, wAll p = O := ⟨_, rfl⟩
  rw [hO] at CB
  have HO := Lib.hid hO
  have CB := Lib.hid CB
  clear hO
  by_cases hc : O.c = 0
  · have HC := Lib.hid hc
    by_cases hbig : 65536 < O.s.size
    · go_wp2_with (refine wpList_load_row rfl 38 (.tmp 1) rfl w.heap.size rfl 38 (pkA .u8 p m) (0, 0) _ BY.out Tryd.underlying38 rfl pk_size ?_)
      (with_reducible refine CB.out.mono ?_)
      rintro e wz ⟨rfl, hz, mz⟩
      have HZ := Lib.hid hz
      have BZ := Lib.hid (BY.out.modT mz (by unfold wT; decide))
      obtain ⟨vp, vs, hwb⟩ := wr_blk hz.wr
      rw [hc] at hwb
      have z1 : wz.cell? ⟨b, 1 + 1, none⟩ = some (.int .u8 0) := hwb.cell 2
      have z2 : wz.cell? ⟨b, 2, none⟩ = some (.int .u8 0) := hwb.cell 2
      have CL := Lib.hid (wlen_any w.heap.size b O.s O.c wz hz.wr)
      clear hz mz hwb
      have hsz : (65536 : Int) < (O.s.size : Int) := by omega
      go_wp2_with fail
      (with_reducible refine CL.out.mono ?_)
      rintro e w9 ⟨rfl, rfl⟩
      go_wp2
      go_ret2
      obtain ⟨q1, q2⟩ := pk_large HK.out (by rw [HO.out]; exact HC.out) (by rw [HO.out]; exact hbig)
      exact ⟨by rw [q1, q2]; rfl, HZ.out.below⟩
    · go_wp2_with (refine wpList_load_row rfl 38 (.tmp 1) rfl w.heap.size rfl 38 (pkA .u8 p m) (0, 0) _ BY.out Tryd.underlying38 rfl pk_size ?_)
      (with_reducible refine CB.out.mono ?_)
      rintro e wz ⟨rfl, hz, mz⟩
      have HZ := Lib.hid hz
      have BZ := Lib.hid (BY.out.modT mz (by unfold wT; decide))
      obtain ⟨vp, vs, hwb⟩ := wr_blk hz.wr
      rw [hc] at hwb
      have z1 : wz.cell? ⟨b, 1 + 1, none⟩ = some (.int .u8 0) := hwb.cell 2
      have z2 : wz.cell? ⟨b, 2, none⟩ = some (.int .u8 0) := hwb.cell 2
      have CL := Lib.hid (wlen_any w.heap.size b O.s O.c wz hz.wr)
      clear hz mz hwb
      have hsz : ¬ (65536 : Int) < (O.s.size : Int) := by omega
      have z0 : wz.cell? ⟨w.heap.size, 0, none⟩ = some (.int .i64 p.kind) := BZ.out.cell 0
      obtain ⟨q1, q2⟩ := pk_ok HK.out (by rw [HO.out]; exact HC.out) (by rw [HO.out]; exact hbig)
      rw [HO.out, show 16 * p.kind + pFlags p = p.kind * 16 + (bt1 p.dup 8 + p.q % 4 * 2 + bt1 p.ret 1) from by rw [HFL.out]; omega] at q2
      obtain ⟨fx, hfx⟩ : ∃ x, (⟨(fixS 1 (p.kind * 16 + (bt1 p.dup 8 + p.q % 4 * 2 + bt1 p.ret 1))).toArray⟩ : ByteArray) = x := ⟨_, rfl⟩
      obtain ⟨ex, hex⟩ : ∃ x, (⟨(enc (O.s.size : Int)).toArray⟩ : ByteArray) = x := ⟨_, rfl⟩
      have s1 : ex.size ≤ 4 := by rw [← hex]; have := enc_small O.s.size; show (enc (O.s.size : Int)).toArray.size ≤ 4; simpa using this
      have s2 : fx.size ≤ 1 := by rw [← hfx]; have := fixS_len 1 (p.kind * 16 + (bt1 p.dup 8 + p.q % 4 * 2 + bt1 p.ret 1)); show (fixS 1 (p.kind * 16 + (bt1 p.dup 8 + p.q % 4 * 2 + bt1 p.ret 1))).toArray.size ≤ 1; simpa using this
      have s3 : (fx ++ ex).size ≤ 5 := by rw [ByteArray.size_append]; omega
      have s4 : O.s.size ≤ 65536 := by omega
      have CX := fixed_all 1 (p.kind * 16 + (bt1 p.dup 8 + p.q % 4 * 2 + bt1 p.ret 1)) wz
      rw [hfx] at CX
      have CE : ∀ Y : World, _ := fun Y => put_all (O.s.size : Int) Y
      rw [hex] at CE
      rw [hfx, hex] at q2
      have CX := Lib.hid CX
      have CE := Lib.hid CE
      have Q1 := Lib.hid q1
      have Q2 := Lib.hid q2
      have hfl := HFB.out
      clear q1 q2 hfx hex
      go_wp2_with fail
      (with_reducible refine CL.out.mono ?_)
      rintro e w9 ⟨rfl, rfl⟩
      go_wp2_with fail
      (with_reducible refine CX.out.mono ?_)
      rintro e w10 ⟨rfl, b10⟩
      have H10 := Lib.hid (HZ.out.step b10)
      have CL2 := Lib.hid (wlen_any w.heap.size b O.s O.c w10 H10.out.wr)
      clear b10
      go_wp2_with fail
      (with_reducible refine CL2.out.mono ?_)
      rintro e w11 ⟨rfl, rfl⟩
      go_wp2_with fail
      (with_reducible refine (CE.out _).mono ?_)
      rintro e w12 ⟨rfl, b12⟩
      have H12 := Lib.hid (H10.out.step b12)
      have CS := Lib.hid (wstr_any w.heap.size b O.s O.c w12 H12.out.wr H12.out.below.size)
      clear b12
      go_wp2_with fail
      (with_reducible refine CS.out.mono ?_)
      rintro e w13 ⟨rfl, b13⟩
      go_wp2
      go_ret2
      exact ⟨by rw [Q1.out, Q2.out]; rfl, H12.out.below.trans b13⟩
  · have e0 : (O.c == 0) = false := beq_eq_false_iff_ne.2 hc
    have e1 : (O.c != 0) = true := by rw [bne, e0]; rfl
    have HC := Lib.hid hc
    clear hc
    go_wp2_with (refine wpList_load_row rfl 38 (.tmp 1) rfl w.heap.size rfl 38 (pkA .u8 p m) (0, 0) _ BY.out Tryd.underlying38 rfl pk_size ?_)
    (with_reducible refine CB.out.mono ?_)
    rintro e wz ⟨rfl, hz, mz⟩
    have HZ := Lib.hid hz
    have BZ := Lib.hid (BY.out.modT mz (by unfold wT; decide))
    obtain ⟨vp, vs, hwb⟩ := wr_blk hz.wr
    have z1 : wz.cell? ⟨b, 1 + 1, none⟩ = some (.int .u8 O.c) := hwb.cell 2
    have z2 : wz.cell? ⟨b, 2, none⟩ = some (.int .u8 O.c) := hwb.cell 2
    clear hz mz hwb
    go_wp2_with fail
    go_quiet (fail)
    go_wp2
    go_ret2
    obtain ⟨q1, q2⟩ := pk_code HK.out (by rw [HO.out]; exact HC.out)
    exact ⟨by rw [q1, q2, HO.out]; rfl, ⟨HZ.out.below.os, HZ.out.below.tape, HZ.out.below.output, HZ.out.below.size, HZ.out.below.block⟩⟩
set_option maxRecDepth 100000 in
set_option maxHeartbeats 8000000 in
theorem wput_b3 (p : Pk) (m : Hs) (w : World) (hP : PkIn .u8 w p m) (hT : Tabs w) (hk : ¬ (p.kind < 1 ∨ 15 < p.kind)) (h3 : p.kind = 3) (hd : p.dup = true) (hq : p.q ≠ 0) :
    Calls Tryd.prog 9 #[pkV .u8 p m] w fun e w' => PkPut p w w' e := by
  have hB := Blk.new w (pkA .u8 p m) 38
  have b1 : Below w.heap.size w (w.alloc (.cells (pkA .u8 p m) 38)) := (Below.refl _ _).alloc (Nat.le_refl _) _
  obtain ⟨W, hW⟩ : ∃ W, w.alloc (.cells (pkA .u8 p m) 38) = W := ⟨_, rfl⟩
  rw [hW] at hB b1
  have hA : Wst w W.heap.size ⟨⟨#[]⟩, 0⟩ (W.alloc (.cells #[.pointer none, .slice none 0 0, .int .u8 0] 71)) := ⟨b1.alloc b1.size _, b1.size, .pointer none, .slice none 0 0, .inl rfl, Blk.new _ _ _, World.ownsRow_nil _ _ _ _⟩
  have hB2 := hB.alloc (.cells #[.pointer none, .slice none 0 0, .int .u8 0] 71)
  obtain ⟨X, hX⟩ : ∃ X, W.alloc (.cells #[.pointer none, .slice none 0 0, .int .u8 0] 71) = X := ⟨_, rfl⟩
  rw [hX] at hA hB2
  have k0 : W.cell? ⟨w.heap.size, 0, none⟩ = some (.int .i64 p.kind) := hB.cell 0
  have x0 : X.cell? ⟨w.heap.size, 0, none⟩ = some (.int .i64 p.kind) := hB2.cell 0
  have HB := Lib.hid hB2
  have HA := Lib.hid hA
  have HP := Lib.hid hP
  have hk1 : ¬ p.kind < 1 := by omega
  have hk2 : ¬ 15 < p.kind := by omega
  have HK := Lib.hid hk
  have hs0 := wHead_size p
  obtain ⟨b, hb⟩ : ∃ b, W.heap.size = b := ⟨_, rfl⟩
  rw [hb] at HA
  have t3 : (p.kind == 3) = true := by rw [h3]; rfl
  have HFL : Hid (pFlags p = (bt1 p.dup 8 + p.q % 4 * 2 + bt1 p.ret 1)) := Lib.hid (by unfold pFlags; rw [if_pos h3]; omega)
  have a1 := Int.emod_nonneg p.q (show (4 : Int) ≠ 0 by decide)
  have a2 := Int.emod_lt_of_pos p.q (show (0 : Int) < 4 by decide)
  have a3 := bt1_bd p.dup 8 (by decide)
  have a4 := bt1_bd p.ret 1 (by decide)
  have HFB : Hid (0 ≤ (bt1 p.dup 8 + p.q % 4 * 2 + bt1 p.ret 1) ∧ (bt1 p.dup 8 + p.q % 4 * 2 + bt1 p.ret 1) ≤ 15) := Lib.hid (by omega)
  have r0 : IntKind.i64.wrap (p.q % 4 * 2) = p.q % 4 * 2 := IntWalk.i64_in _ (by omega)
  have r1 : IntKind.i64.wrap (bt1 p.dup 8 + p.q % 4 * 2) = bt1 p.dup 8 + p.q % 4 * 2 := IntWalk.i64_in _ (by omega)
  have r2 : IntKind.i64.wrap (bt1 p.dup 8 + p.q % 4 * 2 + bt1 p.ret 1) = bt1 p.dup 8 + p.q % 4 * 2 + bt1 p.ret 1 := IntWalk.i64_in _ (by omega)
  have hand := and_3 hP.fits.q.1 hP.fits.q.2
  have x3 : X.cell? ⟨w.heap.size, 3, none⟩ = some (.int .i64 p.q) := hB2.cell 3
  have CQ := Lib.hid (wqos_any w b ⟨⟨#[]⟩, 0⟩ p.q X HA.out)
  have HH0 : Hid (wHead p = wQos ⟨⟨#[]⟩, 0⟩ p.q) := Lib.hid (by unfold wHead; rw [if_pos h3, if_neg (fun c => hq c.2)])
  have hq0 : (p.q == 0) = false := beq_eq_false_iff_ne.2 hq
  have HD := Lib.hid hd
  clear hB b1 hA hB2 hP hk h3 hd a1 a2 a3 a4 hq
  unfold pkV
  go_enter Tryd.func9, Tryd.ntmps9
  go_wp2_with fail
  (with_reducible refine (kflags_any _ _).mono ?_)
  rintro e w1 ⟨rfl, rfl⟩
  go_wp2_with fail
  (with_reducible refine CQ.out.mono ?_)
  rintro e wa ⟨rfl, ha, ma⟩
  have BA := Lib.hid (HB.out.modT ma (by unfold wT; decide))
  have d1 : wa.cell? ⟨w.heap.size, 1, none⟩ = some (.bool true) := (BA.out.cell 1).trans (by show some (Value.bool p.dup) = _; rw [HD.out])
  have d2 : wa.cell? ⟨w.heap.size, 2, none⟩ = some (.bool p.ret) := BA.out.cell 2
  have d3 : wa.cell? ⟨w.heap.size, 3, none⟩ = some (.int .i64 p.q) := BA.out.cell 3
  go_wp2_with fail
  have d1' : wa.cell? ⟨w.heap.size, 1, none⟩ = some (.bool p.dup) := BA.out.cell 1
  clear d1
  rw [← HH0.out] at ha
  have HX := Lib.hid ha
  clear ha ma
  go_quiet ((go_at_call 17; exact Calls.quiet_of_same (bit_q _ _ _)))
  have HY := Lib.hid (Wst.drewN HX.out nq)
  have BY : Hid (Blk (wa.drewN nq) w.heap.size (pkA .u8 p m) 38) := Lib.hid BA.out
  obtain ⟨Y, hY⟩ : ∃ Y, wa.drewN nq = Y := ⟨_, rfl⟩
  rw [hY] at HY BY ⊢
  clear hY
  have CB := wbody_any w b (wHead p) p m _ HP.out (by rw [wHead_size]; decide) HY.out hT
  change Calls _ _ _ _ (fun e w' => WPost w b (wAll p) _ w' e) at CB
  unfold pkV at CB
  obtain ⟨O, hO⟩ : ∃ O, wAll p = O := ⟨_, rfl⟩
  rw [hO] at CB
  have HO := Lib.hid hO
  have CB := Lib.hid CB
  clear hO
  by_cases hc : O.c = 0
  · have HC := Lib.hid hc
    by_cases hbig : 65536 < O.s.size
    · go_wp2_with (refine wpList_load_row rfl 38 (.tmp 1) rfl w.heap.size rfl 38 (pkA .u8 p m) (0, 0) _ BY.out Tryd.underlying38 rfl pk_size ?_)
      (with_reducible refine CB.out.mono ?_)
      rintro e wz ⟨rfl, hz, mz⟩
      have HZ := Lib.hid hz
      have BZ := Lib.hid (BY.out.modT mz (by unfold wT; decide))
      obtain ⟨vp, vs, hwb⟩ := wr_blk hz.wr
      rw [hc] at hwb
      have z1 : wz.cell? ⟨b, 1 + 1, none⟩ = some (.int .u8 0) := hwb.cell 2
      have z2 : wz.cell? ⟨b, 2, none⟩ = some (.int .u8 0) := hwb.cell 2
      have CL := Lib.hid (wlen_any w.heap.size b O.s O.c wz hz.wr)
      clear hz mz hwb
      have hsz : (65536 : Int) < (O.s.size : Int) := by omega
      go_wp2_with fail
      (with_reducible refine CL.out.mono ?_)
      rintro e w9 ⟨rfl, rfl⟩
      go_wp2
      go_ret2
      obtain ⟨q1, q2⟩ := pk_large HK.out (by rw [HO.out]; exact HC.out) (by rw [HO.out]; exact hbig)
      exact ⟨by rw [q1, q2]; rfl, HZ.out.below⟩
    · go_wp2_with (refine wpList_load_row rfl 38 (.tmp 1) rfl w.heap.size rfl 38 (pkA .u8 p m) (0, 0) _ BY.out Tryd.underlying38 rfl pk_size ?_)
      (with_reducible refine CB.out.mono ?_)
      rintro e wz ⟨rfl, hz, mz⟩
      have HZ := Lib.hid hz
      have BZ := Lib.hid (BY.out.modT mz (by unfold wT; decide))
      obtain ⟨vp, vs, hwb⟩ := wr_blk hz.wr
      rw [hc] at hwb
      have z1 : wz.cell? ⟨b, 1 + 1, none⟩ = some (.int .u8 0) := hwb.cell 2
      have z2 : wz.cell? ⟨b, 2, none⟩ = some (.int .u8 0) := hwb.cell 2
      have CL := Lib.hid (wlen_any w.heap.size b O.s O.c wz hz.wr)
      clear hz mz hwb
      have hsz : ¬ (65536 : Int) < (O.s.size : Int) := by omega
      have z0 : wz.cell? ⟨w.heap.size, 0, none⟩ = some (.int .i64 p.kind) := BZ.out.cell 0
      obtain ⟨q1, q2⟩ := pk_ok HK.out (by rw [HO.out]; exact HC.out) (by rw [HO.out]; exact hbig)
      rw [HO.out, show 16 * p.kind + pFlags p = p.kind * 16 + (bt1 p.dup 8 + p.q % 4 * 2 + bt1 p.ret 1) from by rw [HFL.out]; omega] at q2
      obtain ⟨fx, hfx⟩ : ∃ x, (⟨(fixS 1 (p.kind * 16 + (bt1 p.dup 8 + p.q % 4 * 2 + bt1 p.ret 1))).toArray⟩ : ByteArray) = x := ⟨_, rfl⟩
      obtain ⟨ex, hex⟩ : ∃ x, (⟨(enc (O.s.size : Int)).toArray⟩ : ByteArray) = x := ⟨_, rfl⟩
      have s1 : ex.size ≤ 4 := by rw [← hex]; have := enc_small O.s.size; show (enc (O.s.size : Int)).toArray.size ≤ 4; simpa using this
      have s2 : fx.size ≤ 1 := by rw [← hfx]; have := fixS_len 1 (p.kind * 16 + (bt1 p.dup 8 + p.q % 4 * 2 + bt1 p.ret 1)); show (fixS 1 (p.kind * 16 + (bt1 p.dup 8 + p.q % 4 * 2 + bt1 p.ret 1))).toArray.size ≤ 1; simpa using this
      have s3 : (fx ++ ex).size ≤ 5 := by rw [ByteArray.size_append]; omega
      have s4 : O.s.size ≤ 65536 := by omega
      have CX := fixed_all 1 (p.kind * 16 + (bt1 p.dup 8 + p.q % 4 * 2 + bt1 p.ret 1)) wz
      rw [hfx] at CX
      have CE : ∀ Y : World, _ := fun Y => put_all (O.s.size : Int) Y
      rw [hex] at CE
      rw [hfx, hex] at q2
      have CX := Lib.hid CX
      have CE := Lib.hid CE
      have Q1 := Lib.hid q1
      have Q2 := Lib.hid q2
      have hfl := HFB.out
      clear q1 q2 hfx hex
      go_wp2_with fail
      (with_reducible refine CL.out.mono ?_)
      rintro e w9 ⟨rfl, rfl⟩
      go_wp2_with fail
      (with_reducible refine CX.out.mono ?_)
      rintro e w10 ⟨rfl, b10⟩
      have H10 := Lib.hid (HZ.out.step b10)
      have CL2 := Lib.hid (wlen_any w.heap.size b O.s O.c w10 H10.out.wr)
      clear b10
      go_wp2_with fail
      (with_reducible refine CL2.out.mono ?_)
      rintro e w11 ⟨rfl, rfl⟩
      go_wp2_with fail
      (with_reducible refine (CE.out _).mono ?_)
      rintro e w12 ⟨rfl, b12⟩
      have H12 := Lib.hid (H10.out.step b12)
      have CS := Lib.hid (wstr_any w.heap.size b O.s O.c w12 H12.out.wr H12.out.below.size)
      clear b12
      go_wp2_with fail
      (with_reducible refine CS.out.mono ?_)
      rintro e w13 ⟨rfl, b13⟩
      go_wp2
      go_ret2
      exact ⟨by rw [Q1.out, Q2.out]; rfl, H12.out.below.trans b13⟩
  · have e0 : (O.c == 0) = false := beq_eq_false_iff_ne.2 hc
    have e1 : (O.c != 0) = true := by rw [bne, e0]; rfl
    have HC := Lib.hid hc
    clear hc
    go_wp2_with (refine wpList_load_row rfl 38 (.tmp 1) rfl w.heap.size rfl 38 (pkA .u8 p m) (0, 0) _ BY.out Tryd.underlying38 rfl pk_size ?_)
    (with_reducible refine CB.out.mono ?_)
    rintro e wz ⟨rfl, hz, mz⟩
    have HZ := Lib.hid hz
    have BZ := Lib.hid (BY.out.modT mz (by unfold wT; decide))
    obtain ⟨vp, vs, hwb⟩ := wr_blk hz.wr
    have z1 : wz.cell? ⟨b, 1 + 1, none⟩ = some (.int .u8 O.c) := hwb.cell 2
    have z2 : wz.cell? ⟨b, 2, none⟩ = some (.int .u8 O.c) := hwb.cell 2
    clear hz mz hwb
    go_wp2_with fail
    go_quiet (fail)
    go_wp2
    go_ret2
    obtain ⟨q1, q2⟩ := pk_code HK.out (by rw [HO.out]; exact HC.out)
    exact ⟨by rw [q1, q2, HO.out]; rfl, ⟨HZ.out.below.os, HZ.out.below.tape, HZ.out.below.output, HZ.out.below.size, HZ.out.below.block⟩⟩
theorem wput_any (p : Pk) (m : Hs) (w : World) (hP : PkIn .u8 w p m) (hT : Tabs w) :
    Calls Tryd.prog 9 #[pkV .u8 p m] w fun e w' => PkPut p w w' e := by
  by_cases hk : p.kind < 1 ∨ 15 < p.kind
  · exact wput_out p m w hk
  · by_cases h3 : p.kind = 3
    · rcases (by cases p.dup <;> simp : p.dup = false ∨ p.dup = true) with hd | hd
      · exact wput_b1 p m w hP hT hk h3 hd
      · by_cases hq : p.q = 0
        · exact wput_b2 p m w hP hT hk h3 hd hq
        · exact wput_b3 p m w hP hT hk h3 hd hq
    · exact wput_c p m w hP hT hk h3
end Go.Proofs.YtlnanenfpapfkaaDoor

/- The codes' bounds, and the bytes that the document fixes: law 05's wakes. -/
set_option linter.unusedVariables false
namespace Go.Proofs.YtlnanenfpapfkaaDoor
open Go.RowKit Pl

theorem fold_bd {α : Type} {f : Ot → α → Ot} (hf : ∀ {o : Ot} {x : α}, (0 ≤ o.c ∧ o.c ≤ 255) → 0 ≤ (f o x).c ∧ (f o x).c ≤ 255) : ∀ (l : List α) (o : Ot), (0 ≤ o.c ∧ o.c ≤ 255) → 0 ≤ (l.foldl f o).c ∧ (l.foldl f o).c ≤ 255
  | [], o, h => h
  | x :: l, o, h => fold_bd hf l (f o x) (hf h)
theorem sub_bd {o : Ot} {x : Sb} (h : 0 ≤ o.c ∧ o.c ≤ 255) : 0 ≤ (wSub o x).c ∧ (wSub o x).c ≤ 255 := num_bd (qos_bd (qos_bd (text_bd h)))
theorem end_bd {o : Ot} {p : Pk} (h : 0 ≤ o.c ∧ o.c ≤ 255) : 0 ≤ (wEnd o p).c ∧ (wEnd o p).c ≤ 255 := by
  unfold wEnd; split
  · split; exact h; exact num_bd h
  · exact props_bd (num_bd h)
theorem all_bd (p : Pk) : 0 ≤ (wAll p).c ∧ (wAll p).c ≤ 255 := by
  have h0 : 0 ≤ (wHead p).c ∧ (wHead p).c ≤ 255 := by
    have z : 0 ≤ (⟨⟨#[]⟩, 0⟩ : Ot).c ∧ (⟨⟨#[]⟩, 0⟩ : Ot).c ≤ 255 := by decide
    unfold wHead; split
    · split
      · exact fail_bd (qos_bd z) (by decide)
      · exact qos_bd z
    · exact z
  unfold wAll wBody
  split
  · have hh : 0 ≤ (cHead (wHead p) p).c ∧ (cHead (wHead p) p).c ≤ 255 := by
      unfold cHead
      refine text_bd (props_bd (num_bd (num_bd ?_)))
      split
      · exact qos_bd (num_bd (text_bd h0))
      · exact num_bd (text_bd h0)
    have h1 : 0 ≤ (cWill (cHead (wHead p) p) p).c ∧ (cWill (cHead (wHead p) p) p).c ≤ 255 := by
      unfold cWill; split; exact data_bd (text_bd (props_bd hh)); exact hh
    have h2 : 0 ≤ (cUser (cWill (cHead (wHead p) p) p) p).c ∧ (cUser (cWill (cHead (wHead p) p) p) p).c ≤ 255 := by
      unfold cUser; split; exact text_bd h1; exact h1
    unfold wConnect cPass; split; exact data_bd h2; exact h2
  · split
    · exact props_bd (num_bd (num_bd h0))
    · split
      · unfold wPublish
        refine add_bd (props_bd ?_) (by decide)
        split; exact id_bd (text_bd h0); exact text_bd h0
      · split
        · exact end_bd (id_bd h0)
        · split
          · exact end_bd h0
          · split
            · have hp : 0 ≤ (wProps p.kind (wId (wHead p) p.id) p.ps).c ∧ (wProps p.kind (wId (wHead p) p.id) p.ps).c ≤ 255 := props_bd (id_bd h0)
              unfold wLists; split
              · exact fold_bd sub_bd _ _ (some_bd hp)
              · split
                · exact fold_bd text_bd _ _ (some_bd hp)
                · exact fold_bd num_bd _ _ (some_bd hp)
            · exact h0
theorem pkC_bd (p : Pk) : 0 ≤ pkC p ∧ pkC p ≤ 255 := by
  unfold pkC
  split; decide
  split; exact all_bd p
  split <;> decide
/-! wakes. -/
def wk : Pk := ⟨3, false, false, 1, 10, ⟨#[97]⟩, ⟨#[120]⟩, 0, [], [], ⟨#[]⟩, false, 0, false, ⟨#[]⟩, ⟨#[]⟩, 0, false, [], false, false, ⟨#[]⟩, ⟨#[]⟩, false, [], []⟩
def hd0 : Hd := ⟨none, 0, 0⟩
theorem wkC : pkC wk = 0 := by kernel_rfl
theorem wkS : pkS wk = ⟨#[50, 7, 0, 1, 97, 0, 10, 0, 120]⟩ := by kernel_rfl
theorem wkIn (w : World) : PkIn .u8 w wk ⟨hd0, hd0, hd0, hd0, hd0⟩ := by
  refine ⟨⟨by unfold i64B; decide, by unfold i64B; decide, by unfold i64B; decide, by unfold i64B; decide, by unfold i64B; decide, by decide, by decide, by decide, by decide, by decide, by decide, by decide, by decide, ⟨by decide, fun x h => by cases h⟩, ⟨by decide, fun x h => by cases h⟩, ⟨by decide, fun x h => by cases h⟩, ⟨by decide, fun x h => by cases h⟩, ⟨by decide, fun x h => by cases h⟩⟩, rfl, Nat.le_refl _, fun h => absurd h (by decide), rfl, Nat.le_refl _, fun h => absurd h (by decide), rfl, Nat.le_refl _, fun h => absurd h (by decide), rfl, Nat.le_refl _, fun h => absurd h (by decide), rfl, Nat.le_refl _, fun h => absurd h (by decide), .inl ⟨rfl, rfl⟩, .inl ⟨rfl, rfl⟩⟩
set_option maxRecDepth 100000 in
set_option maxHeartbeats 4000000 in
theorem lwakes_any (w : World) (hT : Tabs w) :
    Calls Tryd.prog 11 #[] w fun e w' => e = .returned (.bool true) ∧ Below w.heap.size w w' := by
  have C := wput_any wk ⟨hd0, hd0, hd0, hd0, hd0⟩ w (wkIn w) hT
  unfold PkPut at C
  rw [wkC, wkS] at C
  have C := Lib.hid C
  clear hT
  go_enter Tryd.func11, Tryd.ntmps11
  go_wp2_with (first | (refine wpList_buildTo rfl 38 _ rfl (some 4) rfl (pkA .u8 wk ⟨hd0, hd0, hd0, hd0, hd0⟩) (by kernel_rfl) ?_) | (fail))
  refine C.out.mono ?_
  rintro e w1 ⟨rfl, b1⟩
  go_wp2
  go_ret
  exact ⟨rfl, b1⟩
end Go.Proofs.YtlnanenfpapfkaaDoor
