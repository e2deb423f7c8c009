/- Parts of the proof, joined: Wr10, PkW, RefPutV. -/
import Derived.Test.YtlnanenfpapfkaaDoorPPP12
import Derived.Test.YtlnanenfpapfkaaDoorPPP3
import Derived.Test.YtlnanenfpapfkaaDoorPPP5
import Derived.Great.BuildSlice
import Derived.Test.YtlnanenfpapfkaaDoorPPP8
/- The walk of packet.Put. -/
set_option linter.unusedVariables false
namespace Go.Proofs.YtlnanenfpapfkaaDoor
open Go.Shelf Go.RowKit Pl

def PkPut (p : Pk) (w w' : World) (e : Ending) : Prop := e = .returned (.tuple #[.string (pkS p), .int .u8 (pkC p)]) ∧ Below w.heap.size w w'
theorem pk_out {p : Pk} (h : p.kind < 1 ∨ 15 < p.kind) : pkC p = 129 ∧ pkS p = ⟨#[]⟩ := by
  have e : pkC p = 129 := by unfold pkC; rw [if_pos h]
  exact ⟨e, by unfold pkS; rw [e, if_neg (by decide)]⟩
theorem pk_code {p : Pk} (h : ¬ (p.kind < 1 ∨ 15 < p.kind)) (h1 : (wAll p).c ≠ 0) : pkC p = (wAll p).c ∧ pkS p = ⟨#[]⟩ := by
  have e : pkC p = (wAll p).c := by unfold pkC; rw [if_neg h, if_pos h1]
  exact ⟨e, by unfold pkS; rw [e, if_neg h1]⟩
theorem pk_large {p : Pk} (h : ¬ (p.kind < 1 ∨ 15 < p.kind)) (h1 : (wAll p).c = 0) (h2 : 65536 < (wAll p).s.size) : pkC p = 149 ∧ pkS p = ⟨#[]⟩ := by
  have e : pkC p = 149 := by unfold pkC; rw [if_neg h, if_neg (by rw [h1]; decide), if_pos h2]
  exact ⟨e, by unfold pkS; rw [e, if_neg (by decide)]⟩
theorem pk_ok {p : Pk} (h : ¬ (p.kind < 1 ∨ 15 < p.kind)) (h1 : (wAll p).c = 0) (h2 : ¬ 65536 < (wAll p).s.size) : pkC p = 0 ∧ pkS p = ⟨(fixS 1 (16 * p.kind + pFlags p)).toArray⟩ ++ ⟨(enc (wAll p).s.size).toArray⟩ ++ (wAll p).s := by
  have e : pkC p = 0 := by unfold pkC; rw [if_neg h, if_neg (by rw [h1]; decide), if_neg h2]
  exact ⟨e, by unfold pkS; rw [e, if_pos rfl]⟩
theorem wHead_size (p : Pk) : (wHead p).s.size = 0 := by
  unfold wHead
  split
  · split
    · rw [fail_size, qos_size]; rfl
    · rw [qos_size]; rfl
  · rfl
set_option maxRecDepth 100000 in
set_option maxHeartbeats 4000000 in
theorem wput_out (p : Pk) (m : Hs) (w : World) (hk : p.kind < 1 ∨ 15 < p.kind) :
    Calls Tryd.prog 9 #[pkV .u8 p m] w fun e w' => PkPut p w w' e := by
  have hB := Blk.new w (pkA .u8 p m) 38
  have b1 : Below w.heap.size w (w.alloc (.cells (pkA .u8 p m) 38)) := (Below.refl _ _).alloc (Nat.le_refl _) _
  obtain ⟨W, hW⟩ : ∃ W, w.alloc (.cells (pkA .u8 p m) 38) = W := ⟨_, rfl⟩
  rw [hW] at hB b1
  have b2 := b1.alloc b1.size (.cells #[.pointer none, .slice none 0 0, .int .u8 0] 71)
  have hB2 := hB.alloc (.cells #[.pointer none, .slice none 0 0, .int .u8 0] 71)
  obtain ⟨X, hX⟩ : ∃ X, W.alloc (.cells #[.pointer none, .slice none 0 0, .int .u8 0] 71) = X := ⟨_, rfl⟩
  rw [hX] at b2 hB2
  have k0 : W.cell? ⟨w.heap.size, 0, none⟩ = some (.int .i64 p.kind) := hB.cell 0
  have x0 : X.cell? ⟨w.heap.size, 0, none⟩ = some (.int .i64 p.kind) := hB2.cell 0
  have B2 := Lib.hid b2
  obtain ⟨q1, q2⟩ := pk_out hk
  have Q1 := Lib.hid q1
  have Q2 := Lib.hid q2
  clear hB hB2 b1 b2 q1 q2
  unfold pkV
  rcases hk with hk | hk
  · go_enter Tryd.func9, Tryd.ntmps9
    go_wp2_with fail
    (with_reducible refine (kflags_any _ _).mono ?_)
    rintro e w1 ⟨rfl, rfl⟩
    go_wp2
    go_ret2
    exact ⟨by rw [Q1.out, Q2.out]; rfl, B2.out⟩
  · have hk1 : ¬ p.kind < 1 := by omega
    go_enter Tryd.func9, Tryd.ntmps9
    go_wp2_with fail
    (with_reducible refine (kflags_any _ _).mono ?_)
    rintro e w1 ⟨rfl, rfl⟩
    go_wp2
    go_ret2
    exact ⟨by rw [Q1.out, Q2.out]; rfl, B2.out⟩
set_option maxRecDepth 100000 in
set_option maxHeartbeats 8000000 in
theorem wput_c (p : Pk) (m : Hs) (w : World) (hP : PkIn .u8 w p m) (hT : Tabs w) (hk : ¬ (p.kind < 1 ∨ 15 < p.kind)) (h3 : p.kind ≠ 3) :
    Calls Tryd.prog 9 #[pkV .u8 p m] w fun e w' => PkPut p w w' e := by
  have hB := Blk.new w (pkA .u8 p m) 38
  have b1 : Below w.heap.size w (w.alloc (.cells (pkA .u8 p m) 38)) := (Below.refl _ _).alloc (Nat.le_refl _) _
  obtain ⟨W, hW⟩ : ∃ W, w.alloc (.cells (pkA .u8 p m) 38) = W := ⟨_, rfl⟩
  rw [hW] at hB b1
  have hA : Wst w W.heap.size ⟨⟨#[]⟩, 0⟩ (W.alloc (.cells #[.pointer none, .slice none 0 0, .int .u8 0] 71)) := ⟨b1.alloc b1.size _, b1.size, .pointer none, .slice none 0 0, .inl rfl, Blk.new _ _ _, World.ownsRow_nil _ _ _ _⟩
  have hB2 := hB.alloc (.cells #[.pointer none, .slice none 0 0, .int .u8 0] 71)
  obtain ⟨X, hX⟩ : ∃ X, W.alloc (.cells #[.pointer none, .slice none 0 0, .int .u8 0] 71) = X := ⟨_, rfl⟩
  rw [hX] at hA hB2
  have k0 : W.cell? ⟨w.heap.size, 0, none⟩ = some (.int .i64 p.kind) := hB.cell 0
  have x0 : X.cell? ⟨w.heap.size, 0, none⟩ = some (.int .i64 p.kind) := hB2.cell 0
  have HB := Lib.hid hB2
  have HA := Lib.hid hA
  have HP := Lib.hid hP
  have hk1 : ¬ p.kind < 1 := by omega
  have hk2 : ¬ 15 < p.kind := by omega
  have HK := Lib.hid hk
  have hs0 := wHead_size p
  obtain ⟨b, hb⟩ : ∃ b, W.heap.size = b := ⟨_, rfl⟩
  rw [hb] at HA
  have t3 : (p.kind == 3) = false := beq_eq_false_iff_ne.2 h3
  have hH : wHead p = ⟨⟨#[]⟩, 0⟩ := by unfold wHead; rw [if_neg h3]
  have HH : Hid (Wst w b (wHead p) X) := Lib.hid (by rw [hH]; exact HA.out)
  have HFL : Hid (pFlags p = kFlags p.kind) := Lib.hid (by unfold pFlags; rw [if_neg h3])
  have HFB : Hid (0 ≤ kFlags p.kind ∧ kFlags p.kind ≤ 15) := Lib.hid (by unfold kFlags; split <;> decide)
  clear hB b1 hA hB2 hP hk h3 hH
  unfold pkV
  go_enter Tryd.func9, Tryd.ntmps9
  go_wp2_with fail
  (with_reducible refine (kflags_any _ _).mono ?_)
  rintro e w1 ⟨rfl, rfl⟩
  have CB := wbody_any w b (wHead p) p m _ HP.out (by rw [wHead_size]; decide) HH.out hT
  change Calls _ _ _ _ (fun e w' => WPost w b (wAll p) _ w' e) at CB
  unfold pkV at CB
  obtain ⟨O, hO⟩ : ∃ O, wAll p = O := ⟨_, rfl⟩
  rw [hO] at CB
  have HO := Lib.hid hO
  have CB := Lib.hid CB
  clear hO
  by_cases hc : O.c = 0
  · have HC := Lib.hid hc
    by_cases hbig : 65536 < O.s.size
    · go_wp2_with (refine wpList_load_row rfl 38 (.tmp 1) rfl w.heap.size rfl 38 (pkA .u8 p m) (0, 0) _ HB.out Tryd.underlying38 rfl pk_size ?_)
      (with_reducible refine CB.out.mono ?_)
      rintro e wz ⟨rfl, hz, mz⟩
      have HZ := Lib.hid hz
      have BZ := Lib.hid (HB.out.modT mz (by unfold wT; decide))
      obtain ⟨vp, vs, hwb⟩ := wr_blk hz.wr
      rw [hc] at hwb
      have z1 : wz.cell? ⟨b, 1 + 1, none⟩ = some (.int .u8 0) := hwb.cell 2
      have z2 : wz.cell? ⟨b, 2, none⟩ = some (.int .u8 0) := hwb.cell 2
      have CL := Lib.hid (wlen_any w.heap.size b O.s O.c wz hz.wr)
      clear hz mz hwb
      have hsz : (65536 : Int) < (O.s.size : Int) := by omega
      go_wp2_with fail
      (with_reducible refine CL.out.mono ?_)
      rintro e w9 ⟨rfl, rfl⟩
      go_wp2
      go_ret2
      obtain ⟨q1, q2⟩ := pk_large HK.out (by rw [HO.out]; exact HC.out) (by rw [HO.out]; exact hbig)
      exact ⟨by rw [q1, q2]; rfl, HZ.out.below⟩
    · go_wp2_with (refine wpList_load_row rfl 38 (.tmp 1) rfl w.heap.size rfl 38 (pkA .u8 p m) (0, 0) _ HB.out Tryd.underlying38 rfl pk_size ?_)
      (with_reducible refine CB.out.mono ?_)
      rintro e wz ⟨rfl, hz, mz⟩
      have HZ := Lib.hid hz
      have BZ := Lib.hid (HB.out.modT mz (by unfold wT; decide))
      obtain ⟨vp, vs, hwb⟩ := wr_blk hz.wr
      rw [hc] at hwb
      have z1 : wz.cell? ⟨b, 1 + 1, none⟩ = some (.int .u8 0) := hwb.cell 2
      have z2 : wz.cell? ⟨b, 2, none⟩ = some (.int .u8 0) := hwb.cell 2
      have CL := Lib.hid (wlen_any w.heap.size b O.s O.c wz hz.wr)
      clear hz mz hwb
      have hsz : ¬ (65536 : Int) < (O.s.size : Int) := by omega
      have z0 : wz.cell? ⟨w.heap.size, 0, none⟩ = some (.int .i64 p.kind) := BZ.out.cell 0
      obtain ⟨q1, q2⟩ := pk_ok HK.out (by rw [HO.out]; exact HC.out) (by rw [HO.out]; exact hbig)
      rw [HO.out, show 16 * p.kind + pFlags p = p.kind * 16 + kFlags p.kind from by rw [HFL.out]; omega] at q2
      obtain ⟨fx, hfx⟩ : ∃ x, (⟨(fixS 1 (p.kind * 16 + kFlags p.kind)).toArray⟩ : ByteArray) = x := ⟨_, rfl⟩
      obtain ⟨ex, hex⟩ : ∃ x, (⟨(enc (O.s.size : Int)).toArray⟩ : ByteArray) = x := ⟨_, rfl⟩
      have s1 : ex.size ≤ 4 := by rw [← hex]; have := enc_small O.s.size; show (enc (O.s.size : Int)).toArray.size ≤ 4; simpa using this
      have s2 : fx.size ≤ 1 := by rw [← hfx]; have := fixS_len 1 (p.kind * 16 + kFlags p.kind); show (fixS 1 (p.kind * 16 + kFlags p.kind)).toArray.size ≤ 1; simpa using this
      have s3 : (fx ++ ex).size ≤ 5 := by rw [ByteArray.size_append]; omega
      have s4 : O.s.size ≤ 65536 := by omega
      have CX := fixed_all 1 (p.kind * 16 + kFlags p.kind) wz
      rw [hfx] at CX
      have CE : ∀ Y : World, _ := fun Y => put_all (O.s.size : Int) Y
      rw [hex] at CE
      rw [hfx, hex] at q2
      have CX := Lib.hid CX
      have CE := Lib.hid CE
      have Q1 := Lib.hid q1
      have Q2 := Lib.hid q2
      have hfl := HFB.out
      clear q1 q2 hfx hex
      go_wp2_with fail
      (with_reducible refine CL.out.mono ?_)
      rintro e w9 ⟨rfl, rfl⟩
      go_wp2_with fail
      (with_reducible refine CX.out.mono ?_)
      rintro e w10 ⟨rfl, b10⟩
      have H10 := Lib.hid (HZ.out.step b10)
      have CL2 := Lib.hid (wlen_any w.heap.size b O.s O.c w10 H10.out.wr)
      clear b10
      go_wp2_with fail
      (with_reducible refine CL2.out.mono ?_)
      rintro e w11 ⟨rfl, rfl⟩
      go_wp2_with fail
      (with_reducible refine (CE.out _).mono ?_)
      rintro e w12 ⟨rfl, b12⟩
      have H12 := Lib.hid (H10.out.step b12)
      have CS := Lib.hid (wstr_any w.heap.size b O.s O.c w12 H12.out.wr H12.out.below.size)
      clear b12
      go_wp2_with fail
      (with_reducible refine CS.out.mono ?_)
      rintro e w13 ⟨rfl, b13⟩
      go_wp2
      go_ret2
      exact ⟨by rw [Q1.out, Q2.out]; rfl, H12.out.below.trans b13⟩
  · have e0 : (O.c == 0) = false := beq_eq_false_iff_ne.2 hc
    have e1 : (O.c != 0) = true := by rw [bne, e0]; rfl
    have HC := Lib.hid hc
    clear hc
    go_wp2_with (refine wpList_load_row rfl 38 (.tmp 1) rfl w.heap.size rfl 38 (pkA .u8 p m) (0, 0) _ HB.out Tryd.underlying38 rfl pk_size ?_)
    (with_reducible refine CB.out.mono ?_)
    rintro e wz ⟨rfl, hz, mz⟩
    have HZ := Lib.hid hz
    have BZ := Lib.hid (HB.out.modT mz (by unfold wT; decide))
    obtain ⟨vp, vs, hwb⟩ := wr_blk hz.wr
    have z1 : wz.cell? ⟨b, 1 + 1, none⟩ = some (.int .u8 O.c) := hwb.cell 2
    have z2 : wz.cell? ⟨b, 2, none⟩ = some (.int .u8 O.c) := hwb.cell 2
    clear hz mz hwb
    go_wp2_with fail
    go_quiet (fail)
    go_wp2
    go_ret2
    obtain ⟨q1, q2⟩ := pk_code HK.out (by rw [HO.out]; exact HC.out)
    exact ⟨by rw [q1, q2, HO.out]; rfl, ⟨HZ.out.below.os, HZ.out.below.tape, HZ.out.below.output, HZ.out.below.size, HZ.out.below.block⟩⟩
set_option maxRecDepth 100000 in
set_option maxHeartbeats 8000000 in
theorem wput_b1 (p : Pk) (m : Hs) (w : World) (hP : PkIn .u8 w p m) (hT : Tabs w) (hk : ¬ (p.kind < 1 ∨ 15 < p.kind)) (h3 : p.kind = 3) (hd : p.dup = false) :
    Calls Tryd.prog 9 #[pkV .u8 p m] w fun e w' => PkPut p w w' e := by
  have hB := Blk.new w (pkA .u8 p m) 38
  have b1 : Below w.heap.size w (w.alloc (.cells (pkA .u8 p m) 38)) := (Below.refl _ _).alloc (Nat.le_refl _) _
  obtain ⟨W, hW⟩ : ∃ W, w.alloc (.cells (pkA .u8 p m) 38) = W := ⟨_, rfl⟩
  rw [hW] at hB b1
  have hA : Wst w W.heap.size ⟨⟨#[]⟩, 0⟩ (W.alloc (.cells #[.pointer none, .slice none 0 0, .int .u8 0] 71)) := ⟨b1.alloc b1.size _, b1.size, .pointer none, .slice none 0 0, .inl rfl, Blk.new _ _ _, World.ownsRow_nil _ _ _ _⟩
  have hB2 := hB.alloc (.cells #[.pointer none, .slice none 0 0, .int .u8 0] 71)
  obtain ⟨X, hX⟩ : ∃ X, W.alloc (.cells #[.pointer none, .slice none 0 0, .int .u8 0] 71) = X := ⟨_, rfl⟩
  rw [hX] at hA hB2
  have k0 : W.cell? ⟨w.heap.size, 0, none⟩ = some (.int .i64 p.kind) := hB.cell 0
  have x0 : X.cell? ⟨w.heap.size, 0, none⟩ = some (.int .i64 p.kind) := hB2.cell 0
  have HB := Lib.hid hB2
  have HA := Lib.hid hA
  have HP := Lib.hid hP
  have hk1 : ¬ p.kind < 1 := by omega
  have hk2 : ¬ 15 < p.kind := by omega
  have HK := Lib.hid hk
  have hs0 := wHead_size p
  obtain ⟨b, hb⟩ : ∃ b, W.heap.size = b := ⟨_, rfl⟩
  rw [hb] at HA
  have t3 : (p.kind == 3) = true := by rw [h3]; rfl
  have HFL : Hid (pFlags p = (bt1 p.dup 8 + p.q % 4 * 2 + bt1 p.ret 1)) := Lib.hid (by unfold pFlags; rw [if_pos h3]; omega)
  have a1 := Int.emod_nonneg p.q (show (4 : Int) ≠ 0 by decide)
  have a2 := Int.emod_lt_of_pos p.q (show (0 : Int) < 4 by decide)
  have a3 := bt1_bd p.dup 8 (by decide)
  have a4 := bt1_bd p.ret 1 (by decide)
  have HFB : Hid (0 ≤ (bt1 p.dup 8 + p.q % 4 * 2 + bt1 p.ret 1) ∧ (bt1 p.dup 8 + p.q % 4 * 2 + bt1 p.ret 1) ≤ 15) := Lib.hid (by omega)
  have r0 : IntKind.i64.wrap (p.q % 4 * 2) = p.q % 4 * 2 := IntWalk.i64_in _ (by omega)
  have r1 : IntKind.i64.wrap (bt1 p.dup 8 + p.q % 4 * 2) = bt1 p.dup 8 + p.q % 4 * 2 := IntWalk.i64_in _ (by omega)
  have r2 : IntKind.i64.wrap (bt1 p.dup 8 + p.q % 4 * 2 + bt1 p.ret 1) = bt1 p.dup 8 + p.q % 4 * 2 + bt1 p.ret 1 := IntWalk.i64_in _ (by omega)
  have hand := and_3 hP.fits.q.1 hP.fits.q.2
  have x3 : X.cell? ⟨w.heap.size, 3, none⟩ = some (.int .i64 p.q) := hB2.cell 3
  have CQ := Lib.hid (wqos_any w b ⟨⟨#[]⟩, 0⟩ p.q X HA.out)
  have HH0 : Hid (wHead p = wQos ⟨⟨#[]⟩, 0⟩ p.q) := Lib.hid (by unfold wHead; rw [if_pos h3, hd, if_neg (by simp)])
  have HD := Lib.hid hd
  clear hB b1 hA hB2 hP hk h3 hd a1 a2 a3 a4
  unfold pkV
  go_enter Tryd.func9, Tryd.ntmps9
  go_wp2_with fail
  (with_reducible refine (kflags_any _ _).mono ?_)
  rintro e w1 ⟨rfl, rfl⟩
  go_wp2_with fail
  (with_reducible refine CQ.out.mono ?_)
  rintro e wa ⟨rfl, ha, ma⟩
  have BA := Lib.hid (HB.out.modT ma (by unfold wT; decide))
  have d1 : wa.cell? ⟨w.heap.size, 1, none⟩ = some (.bool false) := (BA.out.cell 1).trans (by show some (Value.bool p.dup) = _; rw [HD.out])
  have d2 : wa.cell? ⟨w.heap.size, 2, none⟩ = some (.bool p.ret) := BA.out.cell 2
  have d3 : wa.cell? ⟨w.heap.size, 3, none⟩ = some (.int .i64 p.q) := BA.out.cell 3
  go_wp2_with fail
  have d1' : wa.cell? ⟨w.heap.size, 1, none⟩ = some (.bool p.dup) := BA.out.cell 1
  clear d1
  rw [← HH0.out] at ha
  have HX := Lib.hid ha
  clear ha ma
  go_quiet ((go_at_call 17; exact Calls.quiet_of_same (bit_q _ _ _)))
  have HY := Lib.hid (Wst.drewN HX.out nq)
  have BY : Hid (Blk (wa.drewN nq) w.heap.size (pkA .u8 p m) 38) := Lib.hid BA.out
  obtain ⟨Y, hY⟩ : ∃ Y, wa.drewN nq = Y := ⟨_, rfl⟩
  rw [hY] at HY BY ⊢
  clear hY
  have CB := wbody_any w b (wHead p) p m _ HP.out (by rw [wHead_size]; decide) HY.out hT
  change Calls _ _ _ _ (fun e w' => WPost w b (wAll p) _ w' e) at CB
  unfold pkV at CB
  obtain ⟨O, hO⟩ : ∃ O, wAll p = O := ⟨_, rfl⟩
  rw [hO] at CB
  have HO := Lib.hid hO
  have CB := Lib.hid CB
  clear hO
  by_cases hc : O.c = 0
  · have HC := Lib.hid hc
    by_cases hbig : 65536 < O.s.size
    · go_wp2_with (refine wpList_load_row rfl 38 (.tmp 1) rfl w.heap.size rfl 38 (pkA .u8 p m) (0, 0) _ BY.out Tryd.underlying38 rfl pk_size ?_)
      (with_reducible refine CB.out.mono ?_)
      rintro e wz ⟨rfl, hz, mz⟩
      have HZ := Lib.hid hz
      have BZ := Lib.hid (BY.out.modT mz (by unfold wT; decide))
      obtain ⟨vp, vs, hwb⟩ := wr_blk hz.wr
      rw [hc] at hwb
      have z1 : wz.cell? ⟨b, 1 + 1, none⟩ = some (.int .u8 0) := hwb.cell 2
      have z2 : wz.cell? ⟨b, 2, none⟩ = some (.int .u8 0) := hwb.cell 2
      have CL := Lib.hid (wlen_any w.heap.size b O.s O.c wz hz.wr)
      clear hz mz hwb
      have hsz : (65536 : Int) < (O.s.size : Int) := by omega
      go_wp2_with fail
      (with_reducible refine CL.out.mono ?_)
      rintro e w9 ⟨rfl, rfl⟩
      go_wp2
      go_ret2
      obtain ⟨q1, q2⟩ := pk_large HK.out (by rw [HO.out]; exact HC.out) (by rw [HO.out]; exact hbig)
      exact ⟨by rw [q1, q2]; rfl, HZ.out.below⟩
    · go_wp2_with (refine wpList_load_row rfl 38 (.tmp 1) rfl w.heap.size rfl 38 (pkA .u8 p m) (0, 0) _ BY.out Tryd.underlying38 rfl pk_size ?_)
      (with_reducible refine CB.out.mono ?_)
      rintro e wz ⟨rfl, hz, mz⟩
      have HZ := Lib.hid hz
      have BZ := Lib.hid (BY.out.modT mz (by unfold wT; decide))
      obtain ⟨vp, vs, hwb⟩ := wr_blk hz.wr
      rw [hc] at hwb
      have z1 : wz.cell? ⟨b, 1 + 1, none⟩ = some (.int .u8 0) := hwb.cell 2
      have z2 : wz.cell? ⟨b, 2, none⟩ = some (.int .u8 0) := hwb.cell 2
      have CL := Lib.hid (wlen_any w.heap.size b O.s O.c wz hz.wr)
      clear hz mz hwb
      have hsz : ¬ (65536 : Int) < (O.s.size : Int) := by omega
      have z0 : wz.cell? ⟨w.heap.size, 0, none⟩ = some (.int .i64 p.kind) := BZ.out.cell 0
      obtain ⟨q1, q2⟩ := pk_ok HK.out (by rw [HO.out]; exact HC.out) (by rw [HO.out]; exact hbig)
      rw [HO.out, show 16 * p.kind + pFlags p = p.kind * 16 + (bt1 p.dup 8 + p.q % 4 * 2 + bt1 p.ret 1) from by rw [HFL.out]; omega] at q2
      obtain ⟨fx, hfx⟩ : ∃ x, (⟨(fixS 1 (p.kind * 16 + (bt1 p.dup 8 + p.q % 4 * 2 + bt1 p.ret 1))).toArray⟩ : ByteArray) = x := ⟨_, rfl⟩
      obtain ⟨ex, hex⟩ : ∃ x, (⟨(enc (O.s.size : Int)).toArray⟩ : ByteArray) = x := ⟨_, rfl⟩
      have s1 : ex.size ≤ 4 := by rw [← hex]; have := enc_small O.s.size; show (enc (O.s.size : Int)).toArray.size ≤ 4; simpa using this
      have s2 : fx.size ≤ 1 := by rw [← hfx]; have := fixS_len 1 (p.kind * 16 + (bt1 p.dup 8 + p.q % 4 * 2 + bt1 p.ret 1)); show (fixS 1 (p.kind * 16 + (bt1 p.dup 8 + p.q % 4 * 2 + bt1 p.ret 1))).toArray.size ≤ 1; simpa using this
      have s3 : (fx ++ ex).size ≤ 5 := by rw [ByteArray.size_append]; omega
      have s4 : O.s.size ≤ 65536 := by omega
      have CX := fixed_all 1 (p.kind * 16 + (bt1 p.dup 8 + p.q % 4 * 2 + bt1 p.ret 1)) wz
      rw [hfx] at CX
      have CE : ∀ Y : World, _ := fun Y => put_all (O.s.size : Int) Y
      rw [hex] at CE
      rw [hfx, hex] at q2
      have CX := Lib.hid CX
      have CE := Lib.hid CE
      have Q1 := Lib.hid q1
      have Q2 := Lib.hid q2
      have hfl := HFB.out
      clear q1 q2 hfx hex
      go_wp2_with fail
      (with_reducible refine CL.out.mono ?_)
      rintro e w9 ⟨rfl, rfl⟩
      go_wp2_with fail
      (with_reducible refine CX.out.mono ?_)
      rintro e w10 ⟨rfl, b10⟩
      have H10 := Lib.hid (HZ.out.step b10)
      have CL2 := Lib.hid (wlen_any w.heap.size b O.s O.c w10 H10.out.wr)
      clear b10
      go_wp2_with fail
      (with_reducible refine CL2.out.mono ?_)
      rintro e w11 ⟨rfl, rfl⟩
      go_wp2_with fail
      (with_reducible refine (CE.out _).mono ?_)
      rintro e w12 ⟨rfl, b12⟩
      have H12 := Lib.hid (H10.out.step b12)
      have CS := Lib.hid (wstr_any w.heap.size b O.s O.c w12 H12.out.wr H12.out.below.size)
      clear b12
      go_wp2_with fail
      (with_reducible refine CS.out.mono ?_)
      rintro e w13 ⟨rfl, b13⟩
      go_wp2
      go_ret2
      exact ⟨by rw [Q1.out, Q2.out]; rfl, H12.out.below.trans b13⟩
  · have e0 : (O.c == 0) = false := beq_eq_false_iff_ne.2 hc
    have e1 : (O.c != 0) = true := by rw [bne, e0]; rfl
    have HC := Lib.hid hc
    clear hc
    go_wp2_with (refine wpList_load_row rfl 38 (.tmp 1) rfl w.heap.size rfl 38 (pkA .u8 p m) (0, 0) _ BY.out Tryd.underlying38 rfl pk_size ?_)
    (with_reducible refine CB.out.mono ?_)
    rintro e wz ⟨rfl, hz, mz⟩
    have HZ := Lib.hid hz
    have BZ := Lib.hid (BY.out.modT mz (by unfold wT; decide))
    obtain ⟨vp, vs, hwb⟩ := wr_blk hz.wr
    have z1 : wz.cell? ⟨b, 1 + 1, none⟩ = some (.int .u8 O.c) := hwb.cell 2
    have z2 : wz.cell? ⟨b, 2, none⟩ = some (.int .u8 O.c) := hwb.cell 2
    clear hz mz hwb
    go_wp2_with fail
    go_quiet (fail)
    go_wp2
    go_ret2
    obtain ⟨q1, q2⟩ := pk_code HK.out (by rw [HO.out]; exact HC.out)
    exact ⟨by rw [q1, q2, HO.out]; rfl, ⟨HZ.out.below.os, HZ.out.below.tape, HZ.out.below.output, HZ.out.below.size, HZ.out.below.block⟩⟩
set_option maxRecDepth 100000 in
set_option maxHeartbeats 8000000 in
theorem wput_b2 (p : Pk) (m : Hs) (w : World) (hP : PkIn .u8 w p m) (hT : Tabs w) (hk : ¬ (p.kind < 1 ∨ 15 < p.kind)) (h3 : p.kind = 3) (hd : p.dup = true) (hq : p.q = 0) :
    Calls Tryd.prog 9 #[pkV .u8 p m] w fun e w' => PkPut p w w' e := by
  have hB := Blk.new w (pkA .u8 p m) 38
  have b1 : Below w.heap.size w (w.alloc (.cells (pkA .u8 p m) 38)) := (Below.refl _ _).alloc (Nat.le_refl _) _
  obtain ⟨W, hW⟩ : ∃ W, w.alloc (.cells (pkA .u8 p m) 38) = W := ⟨_, rfl⟩
  rw [hW] at hB b1
  have hA : Wst w W.heap.size ⟨⟨#[]⟩, 0⟩ (W.alloc (.cells #[.pointer none, .slice none 0 0, .int .u8 0] 71)) := ⟨b1.alloc b1.size _, b1.size, .pointer none, .slice none 0 0, .inl rfl, Blk.new _ _ _, World.ownsRow_nil _ _ _ _⟩
  have hB2 := hB.alloc (.cells #[.pointer none, .slice none 0 0, .int .u8 0] 71)
  obtain ⟨X, hX⟩ : ∃ X, W.alloc (.cells #[.pointer none, .slice none 0 0, .int .u8 0] 71) = X := ⟨_, rfl⟩
  rw [hX] at hA hB2
  have k0 : W.cell? ⟨w.heap.size, 0, none⟩ = some (.int .i64 p.kind) := hB.cell 0
  have x0 : X.cell? ⟨w.heap.size, 0, none⟩ = some (.int .i64 p.kind) := hB2.cell 0
  have HB := Lib.hid hB2
  have HA := Lib.hid hA
  have HP := Lib.hid hP
  have hk1 : ¬ p.kind < 1 := by omega
  have hk2 : ¬ 15 < p.kind := by omega
  have HK := Lib.hid hk
  have hs0 := wHead_size p
  obtain ⟨b, hb⟩ : ∃ b, W.heap.size = b := ⟨_, rfl⟩
  rw [hb] at HA
  have t3 : (p.kind == 3) = true := by rw [h3]; rfl
  have HFL : Hid (pFlags p = (bt1 p.dup 8 + p.q % 4 * 2 + bt1 p.ret 1)) := Lib.hid (by unfold pFlags; rw [if_pos h3]; omega)
  have a1 := Int.emod_nonneg p.q (show (4 : Int) ≠ 0 by decide)
  have a2 := Int.emod_lt_of_pos p.q (show (0 : Int) < 4 by decide)
  have a3 := bt1_bd p.dup 8 (by decide)
  have a4 := bt1_bd p.ret 1 (by decide)
  have HFB : Hid (0 ≤ (bt1 p.dup 8 + p.q % 4 * 2 + bt1 p.ret 1) ∧ (bt1 p.dup 8 + p.q % 4 * 2 + bt1 p.ret 1) ≤ 15) := Lib.hid (by omega)
  have r0 : IntKind.i64.wrap (p.q % 4 * 2) = p.q % 4 * 2 := IntWalk.i64_in _ (by omega)
  have r1 : IntKind.i64.wrap (bt1 p.dup 8 + p.q % 4 * 2) = bt1 p.dup 8 + p.q % 4 * 2 := IntWalk.i64_in _ (by omega)
  have r2 : IntKind.i64.wrap (bt1 p.dup 8 + p.q % 4 * 2 + bt1 p.ret 1) = bt1 p.dup 8 + p.q % 4 * 2 + bt1 p.ret 1 := IntWalk.i64_in _ (by omega)
  have hand := and_3 hP.fits.q.1 hP.fits.q.2
  have x3 : X.cell? ⟨w.heap.size, 3, none⟩ = some (.int .i64 p.q) := hB2.cell 3
  have CQ := Lib.hid (wqos_any w b ⟨⟨#[]⟩, 0⟩ p.q X HA.out)
  have HH0 : Hid (wHead p = (wQos ⟨⟨#[]⟩, 0⟩ p.q).fail 129) := Lib.hid (by unfold wHead; rw [if_pos h3, if_pos ⟨hd, hq⟩])
  have hq0 : (p.q == 0) = true := by rw [hq]; rfl
  have HD := Lib.hid hd
  clear hB b1 hA hB2 hP hk h3 hd a1 a2 a3 a4 hq
  unfold pkV
  go_enter Tryd.func9, Tryd.ntmps9
  go_wp2_with fail
  (with_reducible refine (kflags_any _ _).mono ?_)
  rintro e w1 ⟨rfl, rfl⟩
  go_wp2_with fail
  (with_reducible refine CQ.out.mono ?_)
  rintro e wa ⟨rfl, ha, ma⟩
  have BA := Lib.hid (HB.out.modT ma (by unfold wT; decide))
  have d1 : wa.cell? ⟨w.heap.size, 1, none⟩ = some (.bool true) := (BA.out.cell 1).trans (by show some (Value.bool p.dup) = _; rw [HD.out])
  have d2 : wa.cell? ⟨w.heap.size, 2, none⟩ = some (.bool p.ret) := BA.out.cell 2
  have d3 : wa.cell? ⟨w.heap.size, 3, none⟩ = some (.int .i64 p.q) := BA.out.cell 3
  have CF := Lib.hid (wfail_any w b _ 129 wa ha)
  clear ha ma
  go_wp2_with fail
  (with_reducible refine CF.out.mono ?_)
  rintro e wc ⟨rfl, ha, ma⟩
  have BA := Lib.hid (BA.out.modT ma (by unfold wT; decide))
  clear d1 d2 d3
  have d1 : wc.cell? ⟨w.heap.size, 1, none⟩ = some (.bool p.dup) := BA.out.cell 1
  have d2 : wc.cell? ⟨w.heap.size, 2, none⟩ = some (.bool p.ret) := BA.out.cell 2
  have d3 : wc.cell? ⟨w.heap.size, 3, none⟩ = some (.int .i64 p.q) := BA.out.cell 3
  go_wp2_with fail
  rw [← HH0.out] at ha
  have HX := Lib.hid ha
  clear ha ma
  go_quiet ((go_at_call 17; exact Calls.quiet_of_same (bit_q _ _ _)))
  have HY := Lib.hid (Wst.drewN HX.out nq)
  have BY : Hid (Blk (wc.drewN nq) w.heap.size (pkA .u8 p m) 38) := Lib.hid BA.out
  obtain ⟨Y, hY⟩ : ∃ Y, wc.drewN nq = Y := ⟨_, rfl⟩
  rw [hY] at HY BY ⊢
  clear hY
  have CB := wbody_any w b (wHead p) p m _ HP.out (by rw [wHead_size]; decide) HY.out hT
  change Calls _ _ _ _ (fun e w' => WPost w b (wAll p) _ w' e) at CB
  unfold pkV at CB
  obtain ⟨O, hO⟩ : ∃ O, wAll p = O := ⟨_, rfl⟩
  rw [hO] at CB
  have HO := Lib.hid hO
  have CB := Lib.hid CB
  clear hO
  by_cases hc : O.c = 0
  · have HC := Lib.hid hc
    by_cases hbig : 65536 < O.s.size
    · go_wp2_with (refine wpList_load_row rfl 38 (.tmp 1) rfl w.heap.size rfl 38 (pkA .u8 p m) (0, 0) _ BY.out Tryd.underlying38 rfl pk_size ?_)
      (with_reducible refine CB.out.mono ?_)
      rintro e wz ⟨rfl, hz, mz⟩
      have HZ := Lib.hid hz
      have BZ := Lib.hid (BY.out.modT mz (by unfold wT; decide))
      obtain ⟨vp, vs, hwb⟩ := wr_blk hz.wr
      rw [hc] at hwb
      have z1 : wz.cell? ⟨b, 1 + 1, none⟩ = some (.int .u8 0) := hwb.cell 2
      have z2 : wz.cell? ⟨b, 2, none⟩ = some (.int .u8 0) := hwb.cell 2
      have CL := Lib.hid (wlen_any w.heap.size b O.s O.c wz hz.wr)
      clear hz mz hwb
      have hsz : (65536 : Int) < (O.s.size : Int) := by omega
      go_wp2_with fail
      (with_reducible refine CL.out.mono ?_)
      rintro e w9 ⟨rfl, rfl⟩
      go_wp2
      go_ret2
      obtain ⟨q1, q2⟩ := pk_large HK.out (by rw [HO.out]; exact HC.out) (by rw [HO.out]; exact hbig)
      exact ⟨by rw [q1, q2]; rfl, HZ.out.below⟩
    · go_wp2_with (refine wpList_load_row rfl 38 (.tmp 1) rfl w.heap.size rfl 38 (pkA .u8 p m) (0, 0) _ BY.out Tryd.underlying38 rfl pk_size ?_)
      (with_reducible refine CB.out.mono ?_)
      rintro e wz ⟨rfl, hz, mz⟩
      have HZ := Lib.hid hz
      have BZ := Lib.hid (BY.out.modT mz (by unfold wT; decide))
      obtain ⟨vp, vs, hwb⟩ := wr_blk hz.wr
      rw [hc] at hwb
      have z1 : wz.cell? ⟨b, 1 + 1, none⟩ = some (.int .u8 0) := hwb.cell 2
      have z2 : wz.cell? ⟨b, 2, none⟩ = some (.int .u8 0) := hwb.cell 2
      have CL := Lib.hid (wlen_any w.heap.size b O.s O.c wz hz.wr)
      clear hz mz hwb
      have hsz : ¬ (65536 : Int) < (O.s.size : Int) := by omega
      have z0 : wz.cell? ⟨w.heap.size, 0, none⟩ = some (.int .i64 p.kind) := BZ.out.cell 0
      obtain ⟨q1, q2⟩ := pk_ok HK.out (by rw [HO.out]; exact HC.out) (by rw [HO.out]; exact hbig)
      rw [HO.out, show 16 * p.kind + pFlags p = p.kind * 16 + (bt1 p.dup 8 + p.q % 4 * 2 + bt1 p.ret 1) from by rw [HFL.out]; omega] at q2
      obtain ⟨fx, hfx⟩ : ∃ x, (⟨(fixS 1 (p.kind * 16 + (bt1 p.dup 8 + p.q % 4 * 2 + bt1 p.ret 1))).toArray⟩ : ByteArray) = x := ⟨_, rfl⟩
      obtain ⟨ex, hex⟩ : ∃ x, (⟨(enc (O.s.size : Int)).toArray⟩ : ByteArray) = x := ⟨_, rfl⟩
      have s1 : ex.size ≤ 4 := by rw [← hex]; have := enc_small O.s.size; show (enc (O.s.size : Int)).toArray.size ≤ 4; simpa using this
      have s2 : fx.size ≤ 1 := by rw [← hfx]; have := fixS_len 1 (p.kind * 16 + (bt1 p.dup 8 + p.q % 4 * 2 + bt1 p.ret 1)); show (fixS 1 (p.kind * 16 + (bt1 p.dup 8 + p.q % 4 * 2 + bt1 p.ret 1))).toArray.size ≤ 1; simpa using this
      have s3 : (fx ++ ex).size ≤ 5 := by rw [ByteArray.size_append]; omega
      have s4 : O.s.size ≤ 65536 := by omega
      have CX := fixed_all 1 (p.kind * 16 + (bt1 p.dup 8 + p.q % 4 * 2 + bt1 p.ret 1)) wz
      rw [hfx] at CX
      have CE : ∀ Y : World, _ := fun Y => put_all (O.s.size : Int) Y
      rw [hex] at CE
      rw [hfx, hex] at q2
      have CX := Lib.hid CX
      have CE := Lib.hid CE
      have Q1 := Lib.hid q1
      have Q2 := Lib.hid q2
      have hfl := HFB.out
      clear q1 q2 hfx hex
      go_wp2_with fail
      (with_reducible refine CL.out.mono ?_)
      rintro e w9 ⟨rfl, rfl⟩
      go_wp2_with fail
      (with_reducible refine CX.out.mono ?_)
      rintro e w10 ⟨rfl, b10⟩
      have H10 := Lib.hid (HZ.out.step b10)
      have CL2 := Lib.hid (wlen_any w.heap.size b O.s O.c w10 H10.out.wr)
      clear b10
      go_wp2_with fail
      (with_reducible refine CL2.out.mono ?_)
      rintro e w11 ⟨rfl, rfl⟩
      go_wp2_with fail
      (with_reducible refine (CE.out _).mono ?_)
      rintro e w12 ⟨rfl, b12⟩
      have H12 := Lib.hid (H10.out.step b12)
      have CS := Lib.hid (wstr_any w.heap.size b O.s O.c w12 H12.out.wr H12.out.below.size)
      clear b12
      go_wp2_with fail
      (with_reducible refine CS.out.mono ?_)
      rintro e w13 ⟨rfl, b13⟩
      go_wp2
      go_ret2
      exact ⟨by rw [Q1.out, Q2.out]; rfl, H12.out.below.trans b13⟩
  · have e0 : (O.c == 0) = false := beq_eq_false_iff_ne.2 hc
    have e1 : (O.c != 0) = true := by rw [bne, e0]; rfl
    have HC := Lib.hid hc
    clear hc
    go_wp2_with (refine wpList_load_row rfl 38 (.tmp 1) rfl w.heap.size rfl 38 (pkA .u8 p m) (0, 0) _ BY.out Tryd.underlying38 rfl pk_size ?_)
    (with_reducible refine CB.out.mono ?_)
    rintro e wz ⟨rfl, hz, mz⟩
    have HZ := Lib.hid hz
    have BZ := Lib.hid (BY.out.modT mz (by unfold wT; decide))
    obtain ⟨vp, vs, hwb⟩ := wr_blk hz.wr
    have z1 : wz.cell? ⟨b, 1 + 1, none⟩ = some (.int .u8 O.c) := hwb.cell 2
    have z2 : wz.cell? ⟨b, 2, none⟩ = some (.int .u8 O.c) := hwb.cell 2
    clear hz mz hwb
    go_wp2_with fail
    go_quiet (fail)
    go_wp2
    go_ret2
    obtain ⟨q1, q2⟩ := pk_code HK.out (by rw [HO.out]; exact HC.out)
    exact ⟨by rw [q1, q2, HO.out]; rfl, ⟨HZ.out.below.os, HZ.out.below.tape, HZ.out.below.output, HZ.out.below.size, HZ.out.below.block⟩⟩
set_option maxRecDepth 100000 in
set_option maxHeartbeats 8000000 in
theorem wput_b3 (p : Pk) (m : Hs) (w : World) (hP : PkIn .u8 w p m) (hT : Tabs w) (hk : ¬ (p.kind < 1 ∨ 15 < p.kind)) (h3 : p.kind = 3) (hd : p.dup = true) (hq : p.q ≠ 0) :
    Calls Tryd.prog 9 #[pkV .u8 p m] w fun e w' => PkPut p w w' e := by
  have hB := Blk.new w (pkA .u8 p m) 38
  have b1 : Below w.heap.size w (w.alloc (.cells (pkA .u8 p m) 38)) := (Below.refl _ _).alloc (Nat.le_refl _) _
  obtain ⟨W, hW⟩ : ∃ W, w.alloc (.cells (pkA .u8 p m) 38) = W := ⟨_, rfl⟩
  rw [hW] at hB b1
  have hA : Wst w W.heap.size ⟨⟨#[]⟩, 0⟩ (W.alloc (.cells #[.pointer none, .slice none 0 0, .int .u8 0] 71)) := ⟨b1.alloc b1.size _, b1.size, .pointer none, .slice none 0 0, .inl rfl, Blk.new _ _ _, World.ownsRow_nil _ _ _ _⟩
  have hB2 := hB.alloc (.cells #[.pointer none, .slice none 0 0, .int .u8 0] 71)
  obtain ⟨X, hX⟩ : ∃ X, W.alloc (.cells #[.pointer none, .slice none 0 0, .int .u8 0] 71) = X := ⟨_, rfl⟩
  rw [hX] at hA hB2
  have k0 : W.cell? ⟨w.heap.size, 0, none⟩ = some (.int .i64 p.kind) := hB.cell 0
  have x0 : X.cell? ⟨w.heap.size, 0, none⟩ = some (.int .i64 p.kind) := hB2.cell 0
  have HB := Lib.hid hB2
  have HA := Lib.hid hA
  have HP := Lib.hid hP
  have hk1 : ¬ p.kind < 1 := by omega
  have hk2 : ¬ 15 < p.kind := by omega
  have HK := Lib.hid hk
  have hs0 := wHead_size p
  obtain ⟨b, hb⟩ : ∃ b, W.heap.size = b := ⟨_, rfl⟩
  rw [hb] at HA
  have t3 : (p.kind == 3) = true := by rw [h3]; rfl
  have HFL : Hid (pFlags p = (bt1 p.dup 8 + p.q % 4 * 2 + bt1 p.ret 1)) := Lib.hid (by unfold pFlags; rw [if_pos h3]; omega)
  have a1 := Int.emod_nonneg p.q (show (4 : Int) ≠ 0 by decide)
  have a2 := Int.emod_lt_of_pos p.q (show (0 : Int) < 4 by decide)
  have a3 := bt1_bd p.dup 8 (by decide)
  have a4 := bt1_bd p.ret 1 (by decide)
  have HFB : Hid (0 ≤ (bt1 p.dup 8 + p.q % 4 * 2 + bt1 p.ret 1) ∧ (bt1 p.dup 8 + p.q % 4 * 2 + bt1 p.ret 1) ≤ 15) := Lib.hid (by omega)
  have r0 : IntKind.i64.wrap (p.q % 4 * 2) = p.q % 4 * 2 := IntWalk.i64_in _ (by omega)
  have r1 : IntKind.i64.wrap (bt1 p.dup 8 + p.q % 4 * 2) = bt1 p.dup 8 + p.q % 4 * 2 := IntWalk.i64_in _ (by omega)
  have r2 : IntKind.i64.wrap (bt1 p.dup 8 + p.q % 4 * 2 + bt1 p.ret 1) = bt1 p.dup 8 + p.q % 4 * 2 + bt1 p.ret 1 := IntWalk.i64_in _ (by omega)
  have hand := and_3 hP.fits.q.1 hP.fits.q.2
  have x3 : X.cell? ⟨w.heap.size, 3, none⟩ = some (.int .i64 p.q) := hB2.cell 3
  have CQ := Lib.hid (wqos_any w b ⟨⟨#[]⟩, 0⟩ p.q X HA.out)
  have HH0 : Hid (wHead p = wQos ⟨⟨#[]⟩, 0⟩ p.q) := Lib.hid (by unfold wHead; rw [if_pos h3, if_neg (fun c => hq c.2)])
  have hq0 : (p.q == 0) = false := beq_eq_false_iff_ne.2 hq
  have HD := Lib.hid hd
  clear hB b1 hA hB2 hP hk h3 hd a1 a2 a3 a4 hq
  unfold pkV
  go_enter Tryd.func9, Tryd.ntmps9
  go_wp2_with fail
  (with_reducible refine (kflags_any _ _).mono ?_)
  rintro e w1 ⟨rfl, rfl⟩
  go_wp2_with fail
  (with_reducible refine CQ.out.mono ?_)
  rintro e wa ⟨rfl, ha, ma⟩
  have BA := Lib.hid (HB.out.modT ma (by unfold wT; decide))
  have d1 : wa.cell? ⟨w.heap.size, 1, none⟩ = some (.bool true) := (BA.out.cell 1).trans (by show some (Value.bool p.dup) = _; rw [HD.out])
  have d2 : wa.cell? ⟨w.heap.size, 2, none⟩ = some (.bool p.ret) := BA.out.cell 2
  have d3 : wa.cell? ⟨w.heap.size, 3, none⟩ = some (.int .i64 p.q) := BA.out.cell 3
  go_wp2_with fail
  have d1' : wa.cell? ⟨w.heap.size, 1, none⟩ = some (.bool p.dup) := BA.out.cell 1
  clear d1
  rw [← HH0.out] at ha
  have HX := Lib.hid ha
  clear ha ma
  go_quiet ((go_at_call 17; exact Calls.quiet_of_same (bit_q _ _ _)))
  have HY := Lib.hid (Wst.drewN HX.out nq)
  have BY : Hid (Blk (wa.drewN nq) w.heap.size (pkA .u8 p m) 38) := Lib.hid BA.out
  obtain ⟨Y, hY⟩ : ∃ Y, wa.drewN nq = Y := ⟨_, rfl⟩
  rw [hY] at HY BY ⊢
  clear hY
  have CB := wbody_any w b (wHead p) p m _ HP.out (by rw [wHead_size]; decide) HY.out hT
  change Calls _ _ _ _ (fun e w' => WPost w b (wAll p) _ w' e) at CB
  unfold pkV at CB
  obtain ⟨O, hO⟩ : ∃ O, wAll p = O := ⟨_, rfl⟩
  rw [hO] at CB
  have HO := Lib.hid hO
  have CB := Lib.hid CB
  clear hO
  by_cases hc : O.c = 0
  · have HC := Lib.hid hc
    by_cases hbig : 65536 < O.s.size
    · go_wp2_with (refine wpList_load_row rfl 38 (.tmp 1) rfl w.heap.size rfl 38 (pkA .u8 p m) (0, 0) _ BY.out Tryd.underlying38 rfl pk_size ?_)
      (with_reducible refine CB.out.mono ?_)
      rintro e wz ⟨rfl, hz, mz⟩
      have HZ := Lib.hid hz
      have BZ := Lib.hid (BY.out.modT mz (by unfold wT; decide))
      obtain ⟨vp, vs, hwb⟩ := wr_blk hz.wr
      rw [hc] at hwb
      have z1 : wz.cell? ⟨b, 1 + 1, none⟩ = some (.int .u8 0) := hwb.cell 2
      have z2 : wz.cell? ⟨b, 2, none⟩ = some (.int .u8 0) := hwb.cell 2
      have CL := Lib.hid (wlen_any w.heap.size b O.s O.c wz hz.wr)
      clear hz mz hwb
      have hsz : (65536 : Int) < (O.s.size : Int) := by omega
      go_wp2_with fail
      (with_reducible refine CL.out.mono ?_)
      rintro e w9 ⟨rfl, rfl⟩
      go_wp2
      go_ret2
      obtain ⟨q1, q2⟩ := pk_large HK.out (by rw [HO.out]; exact HC.out) (by rw [HO.out]; exact hbig)
      exact ⟨by rw [q1, q2]; rfl, HZ.out.below⟩
    · go_wp2_with (refine wpList_load_row rfl 38 (.tmp 1) rfl w.heap.size rfl 38 (pkA .u8 p m) (0, 0) _ BY.out Tryd.underlying38 rfl pk_size ?_)
      (with_reducible refine CB.out.mono ?_)
      rintro e wz ⟨rfl, hz, mz⟩
      have HZ := Lib.hid hz
      have BZ := Lib.hid (BY.out.modT mz (by unfold wT; decide))
      obtain ⟨vp, vs, hwb⟩ := wr_blk hz.wr
      rw [hc] at hwb
      have z1 : wz.cell? ⟨b, 1 + 1, none⟩ = some (.int .u8 0) := hwb.cell 2
      have z2 : wz.cell? ⟨b, 2, none⟩ = some (.int .u8 0) := hwb.cell 2
      have CL := Lib.hid (wlen_any w.heap.size b O.s O.c wz hz.wr)
      clear hz mz hwb
      have hsz : ¬ (65536 : Int) < (O.s.size : Int) := by omega
      have z0 : wz.cell? ⟨w.heap.size, 0, none⟩ = some (.int .i64 p.kind) := BZ.out.cell 0
      obtain ⟨q1, q2⟩ := pk_ok HK.out (by rw [HO.out]; exact HC.out) (by rw [HO.out]; exact hbig)
      rw [HO.out, show 16 * p.kind + pFlags p = p.kind * 16 + (bt1 p.dup 8 + p.q % 4 * 2 + bt1 p.ret 1) from by rw [HFL.out]; omega] at q2
      obtain ⟨fx, hfx⟩ : ∃ x, (⟨(fixS 1 (p.kind * 16 + (bt1 p.dup 8 + p.q % 4 * 2 + bt1 p.ret 1))).toArray⟩ : ByteArray) = x := ⟨_, rfl⟩
      obtain ⟨ex, hex⟩ : ∃ x, (⟨(enc (O.s.size : Int)).toArray⟩ : ByteArray) = x := ⟨_, rfl⟩
      have s1 : ex.size ≤ 4 := by rw [← hex]; have := enc_small O.s.size; show (enc (O.s.size : Int)).toArray.size ≤ 4; simpa using this
      have s2 : fx.size ≤ 1 := by rw [← hfx]; have := fixS_len 1 (p.kind * 16 + (bt1 p.dup 8 + p.q % 4 * 2 + bt1 p.ret 1)); show (fixS 1 (p.kind * 16 + (bt1 p.dup 8 + p.q % 4 * 2 + bt1 p.ret 1))).toArray.size ≤ 1; simpa using this
      have s3 : (fx ++ ex).size ≤ 5 := by rw [ByteArray.size_append]; omega
      have s4 : O.s.size ≤ 65536 := by omega
      have CX := fixed_all 1 (p.kind * 16 + (bt1 p.dup 8 + p.q % 4 * 2 + bt1 p.ret 1)) wz
      rw [hfx] at CX
      have CE : ∀ Y : World, _ := fun Y => put_all (O.s.size : Int) Y
      rw [hex] at CE
      rw [hfx, hex] at q2
      have CX := Lib.hid CX
      have CE := Lib.hid CE
      have Q1 := Lib.hid q1
      have Q2 := Lib.hid q2
      have hfl := HFB.out
      clear q1 q2 hfx hex
      go_wp2_with fail
      (with_reducible refine CL.out.mono ?_)
      rintro e w9 ⟨rfl, rfl⟩
      go_wp2_with fail
      (with_reducible refine CX.out.mono ?_)
      rintro e w10 ⟨rfl, b10⟩
      have H10 := Lib.hid (HZ.out.step b10)
      have CL2 := Lib.hid (wlen_any w.heap.size b O.s O.c w10 H10.out.wr)
      clear b10
      go_wp2_with fail
      (with_reducible refine CL2.out.mono ?_)
      rintro e w11 ⟨rfl, rfl⟩
      go_wp2_with fail
      (with_reducible refine (CE.out _).mono ?_)
      rintro e w12 ⟨rfl, b12⟩
      have H12 := Lib.hid (H10.out.step b12)
      have CS := Lib.hid (wstr_any w.heap.size b O.s O.c w12 H12.out.wr H12.out.below.size)
      clear b12
      go_wp2_with fail
      (with_reducible refine CS.out.mono ?_)
      rintro e w13 ⟨rfl, b13⟩
      go_wp2
      go_ret2
      exact ⟨by rw [Q1.out, Q2.out]; rfl, H12.out.below.trans b13⟩
  · have e0 : (O.c == 0) = false := beq_eq_false_iff_ne.2 hc
    have e1 : (O.c != 0) = true := by rw [bne, e0]; rfl
    have HC := Lib.hid hc
    clear hc
    go_wp2_with (refine wpList_load_row rfl 38 (.tmp 1) rfl w.heap.size rfl 38 (pkA .u8 p m) (0, 0) _ BY.out Tryd.underlying38 rfl pk_size ?_)
    (with_reducible refine CB.out.mono ?_)
    rintro e wz ⟨rfl, hz, mz⟩
    have HZ := Lib.hid hz
    have BZ := Lib.hid (BY.out.modT mz (by unfold wT; decide))
    obtain ⟨vp, vs, hwb⟩ := wr_blk hz.wr
    have z1 : wz.cell? ⟨b, 1 + 1, none⟩ = some (.int .u8 O.c) := hwb.cell 2
    have z2 : wz.cell? ⟨b, 2, none⟩ = some (.int .u8 O.c) := hwb.cell 2
    clear hz mz hwb
    go_wp2_with fail
    go_quiet (fail)
    go_wp2
    go_ret2
    obtain ⟨q1, q2⟩ := pk_code HK.out (by rw [HO.out]; exact HC.out)
    exact ⟨by rw [q1, q2, HO.out]; rfl, ⟨HZ.out.below.os, HZ.out.below.tape, HZ.out.below.output, HZ.out.below.size, HZ.out.below.block⟩⟩
theorem wput_any (p : Pk) (m : Hs) (w : World) (hP : PkIn .u8 w p m) (hT : Tabs w) :
    Calls Tryd.prog 9 #[pkV .u8 p m] w fun e w' => PkPut p w w' e := by
  by_cases hk : p.kind < 1 ∨ 15 < p.kind
  · exact wput_out p m w hk
  · by_cases h3 : p.kind = 3
    · rcases (by cases p.dup <;> simp : p.dup = false ∨ p.dup = true) with hd | hd
      · exact wput_b1 p m w hP hT hk h3 hd
      · by_cases hq : p.q = 0
        · exact wput_b2 p m w hP hT hk h3 hd hq
        · exact wput_b3 p m w hP hT hk h3 hd hq
    · exact wput_c p m w hP hT hk h3
end Go.Proofs.YtlnanenfpapfkaaDoor

/- The codes' bounds, and the bytes that the document fixes: law 05's wakes. -/
set_option linter.unusedVariables false
namespace Go.Proofs.YtlnanenfpapfkaaDoor
open Go.RowKit Pl

theorem fold_bd {α : Type} {f : Ot → α → Ot} (hf : ∀ {o : Ot} {x : α}, (0 ≤ o.c ∧ o.c ≤ 255) → 0 ≤ (f o x).c ∧ (f o x).c ≤ 255) : ∀ (l : List α) (o : Ot), (0 ≤ o.c ∧ o.c ≤ 255) → 0 ≤ (l.foldl f o).c ∧ (l.foldl f o).c ≤ 255
  | [], o, h => h
  | x :: l, o, h => fold_bd hf l (f o x) (hf h)
theorem sub_bd {o : Ot} {x : Sb} (h : 0 ≤ o.c ∧ o.c ≤ 255) : 0 ≤ (wSub o x).c ∧ (wSub o x).c ≤ 255 := num_bd (qos_bd (qos_bd (text_bd h)))
theorem end_bd {o : Ot} {p : Pk} (h : 0 ≤ o.c ∧ o.c ≤ 255) : 0 ≤ (wEnd o p).c ∧ (wEnd o p).c ≤ 255 := by
  unfold wEnd; split
  · split; exact h; exact num_bd h
  · exact props_bd (num_bd h)
theorem all_bd (p : Pk) : 0 ≤ (wAll p).c ∧ (wAll p).c ≤ 255 := by
  have h0 : 0 ≤ (wHead p).c ∧ (wHead p).c ≤ 255 := by
    have z : 0 ≤ (⟨⟨#[]⟩, 0⟩ : Ot).c ∧ (⟨⟨#[]⟩, 0⟩ : Ot).c ≤ 255 := by decide
    unfold wHead; split
    · split
      · exact fail_bd (qos_bd z) (by decide)
      · exact qos_bd z
    · exact z
  unfold wAll wBody
  split
  · have hh : 0 ≤ (cHead (wHead p) p).c ∧ (cHead (wHead p) p).c ≤ 255 := by
      unfold cHead
      refine text_bd (props_bd (num_bd (num_bd ?_)))
      split
      · exact qos_bd (num_bd (text_bd h0))
      · exact num_bd (text_bd h0)
    have h1 : 0 ≤ (cWill (cHead (wHead p) p) p).c ∧ (cWill (cHead (wHead p) p) p).c ≤ 255 := by
      unfold cWill; split; exact data_bd (text_bd (props_bd hh)); exact hh
    have h2 : 0 ≤ (cUser (cWill (cHead (wHead p) p) p) p).c ∧ (cUser (cWill (cHead (wHead p) p) p) p).c ≤ 255 := by
      unfold cUser; split; exact text_bd h1; exact h1
    unfold wConnect cPass; split; exact data_bd h2; exact h2
  · split
    · exact props_bd (num_bd (num_bd h0))
    · split
      · unfold wPublish
        refine add_bd (props_bd ?_) (by decide)
        split; exact id_bd (text_bd h0); exact text_bd h0
      · split
        · exact end_bd (id_bd h0)
        · split
          · exact end_bd h0
          · split
            · have hp : 0 ≤ (wProps p.kind (wId (wHead p) p.id) p.ps).c ∧ (wProps p.kind (wId (wHead p) p.id) p.ps).c ≤ 255 := props_bd (id_bd h0)
              unfold wLists; split
              · exact fold_bd sub_bd _ _ (some_bd hp)
              · split
                · exact fold_bd text_bd _ _ (some_bd hp)
                · exact fold_bd num_bd _ _ (some_bd hp)
            · exact h0
theorem pkC_bd (p : Pk) : 0 ≤ pkC p ∧ pkC p ≤ 255 := by
  unfold pkC
  split; decide
  split; exact all_bd p
  split <;> decide
/-! wakes. -/
def wk : Pk := ⟨3, false, false, 1, 10, ⟨#[97]⟩, ⟨#[120]⟩, 0, [], [], ⟨#[]⟩, false, 0, false, ⟨#[]⟩, ⟨#[]⟩, 0, false, [], false, false, ⟨#[]⟩, ⟨#[]⟩, false, [], []⟩
def hd0 : Hd := ⟨none, 0, 0⟩
theorem wkC : pkC wk = 0 := by kernel_rfl
theorem wkS : pkS wk = ⟨#[50, 7, 0, 1, 97, 0, 10, 0, 120]⟩ := by kernel_rfl
theorem wkIn (w : World) : PkIn .u8 w wk ⟨hd0, hd0, hd0, hd0, hd0⟩ := by
  refine ⟨⟨by unfold i64B; decide, by unfold i64B; decide, by unfold i64B; decide, by unfold i64B; decide, by unfold i64B; decide, by decide, by decide, by decide, by decide, by decide, by decide, by decide, by decide, ⟨by decide, fun x h => by cases h⟩, ⟨by decide, fun x h => by cases h⟩, ⟨by decide, fun x h => by cases h⟩, ⟨by decide, fun x h => by cases h⟩, ⟨by decide, fun x h => by cases h⟩⟩, rfl, Nat.le_refl _, fun h => absurd h (by decide), rfl, Nat.le_refl _, fun h => absurd h (by decide), rfl, Nat.le_refl _, fun h => absurd h (by decide), rfl, Nat.le_refl _, fun h => absurd h (by decide), rfl, Nat.le_refl _, fun h => absurd h (by decide), .inl ⟨rfl, rfl⟩, .inl ⟨rfl, rfl⟩⟩
set_option maxRecDepth 100000 in
set_option maxHeartbeats 4000000 in
theorem lwakes_any (w : World) (hT : Tabs w) :
    Calls Tryd.prog 11 #[] w fun e w' => e = .returned (.bool true) ∧ Below w.heap.size w w' := by
  have C := wput_any wk ⟨hd0, hd0, hd0, hd0, hd0⟩ w (wkIn w) hT
  unfold PkPut at C
  rw [wkC, wkS] at C
  have C := Lib.hid C
  clear hT
  go_enter Tryd.func11, Tryd.ntmps11
  go_wp2_with (first | (refine wpList_buildTo rfl 38 _ rfl (some 4) rfl (pkA .u8 wk ⟨hd0, hd0, hd0, hd0, hd0⟩) (by kernel_rfl) ?_) | (fail))
  refine C.out.mono ?_
  rintro e w1 ⟨rfl, b1⟩
  go_wp2
  go_ret
  exact ⟨rfl, b1⟩
end Go.Proofs.YtlnanenfpapfkaaDoor

/- The walks of the document's value, twice. -/
namespace Go.Proofs.YtlnanenfpapfkaaDoor
set_option linter.unusedVariables false
open Go.RowKit Pl

set_option maxHeartbeats 1000000 in
theorem twice_any (A : Option Addr) (n cap k : Nat) (L : List Pp) (id : Int) (w : World) (hn : L.length = n) (hm : n ≤ 1048576) (hk : k ≤ n) (h : PRow w A L) :
    Calls Tryd.prog 94 #[.slice A n cap, .int .i64 k, .int .i64 id] w fun e w' => e = .returned (.bool (dup L k id)) ∧ w = w' := by
  unfold dup
  by_cases h38 : id = 38
  · subst h38
    rw [show ((38 : Int) != 38) = false from rfl, Bool.and_false]
    clear hn hm hk h
    go_enter Tryd.func94, Tryd.ntmps94
    go_wp2
    go_ret
    exact ⟨rfl, rfl⟩
  · have e1 : (id == 38) = false := by rw [beq_eq_false_iff_ne]; exact h38
    rw [show (id != 38) = true from by rw [bne, e1]; rfl, Bool.and_true]
    have H := Lib.hid h
    have HN := Lib.hid hn
    clear h hn h38
    obtain ⟨q, hq⟩ : ∃ q : Pp → Bool, (fun p => p.id == id) = q := ⟨_, rfl⟩
    have HQ : Hid (∀ p : Pp, q p = (p.id == id)) := Lib.hid fun p => by rw [← hq]
    obtain ⟨R, hR⟩ : ∃ R, (L.take k).any q = R := ⟨_, rfl⟩
    rw [show ((L.take k).any fun p => p.id == id) = R from by rw [← hR, ← hq]]
    have HR := Lib.hid hR
    clear hq hR
    go_enter Tryd.func94, Tryd.ntmps94
    go_wp2
    go_loop [7] (fun i => ∃ j : Nat, i = .int .i64 j ∧ j ≤ k ∧ Hid ((L.take j).any q = false)) (fun i => k - (intOf i).toNat)
    case atStart => exact ⟨0, rfl, by omega, Lib.hid rfl⟩
    case round =>
      obtain ⟨j, rfl, hj, hv⟩ := hrel
      by_cases hlt : j < k
      · obtain ⟨b, o, rfl, hl, hc⟩ := H.out (by rw [HN.out]; omega)
        obtain ⟨x, hx⟩ : ∃ x, L[j]? = some x := ⟨_, List.getElem?_eq_getElem (by rw [HN.out]; omega)⟩
        obtain ⟨c0, c1, c2, c3⟩ := hc j x hx
        have hjI : (j : Int) < (k : Int) := by omega
        obtain ⟨y, hy⟩ : ∃ y, (x.id == id) = y := ⟨_, rfl⟩
        have HY := Lib.hid ((HQ.out x).trans hy)
        have HX := Lib.hid hx
        clear hc c1 c2 c3 hx
        cases y
        · have Hr := Lib.hid (any_take_p HX.out hv.out HY.out)
          go_wp2
          go_round
          case rel => exact ⟨j + 1, by go_num, by omega, Hr⟩
          case measure => simp [intOf]; omega
        · have Hr : Hid (R = true) := Lib.hid (by
            rw [← HR.out, List.any_eq_true]
            exact ⟨x, List.mem_of_getElem? (i := j) (by rw [List.getElem?_take_of_lt hlt]; exact HX.out), HY.out⟩)
          go_wp2
          go_ret
          exact ⟨ret_bool Hr.out.symm, rfl⟩
      · obtain rfl : j = k := by omega
        go_wp2
        go_ret
        exact ⟨ret_bool (hv.out.symm.trans HR.out), rfl⟩
set_option maxRecDepth 100000 in
set_option maxHeartbeats 2000000 in
theorem refvalue_any (p : Pp) (w : World) (hz : p.fits) :
    Calls Tryd.prog 95 #[.agg #[.int .i64 p.id, .int .i64 p.n, .string p.s, .string p.t]] w fun e w' => ∃ v, e = .returned (.tuple #[.string v, .int .i64 (pvC p)]) ∧ (pvC p = 0 → v = pvS p) ∧ Below w.heap.size w w' := by
  obtain ⟨z1, z2, _⟩ := hz
  obtain ⟨k, hk⟩ : ∃ k, kindOf p.id = k := ⟨_, rfl⟩
  have CK : ∀ X : World, Calls Tryd.prog 93 #[.int .i64 p.id] X fun e w' => e = .returned (.int .i64 k) ∧ Below X.heap.size X w' := fun X => by rw [← hk]; exact refkind_any p.id X
  have b0 : Below w.heap.size w (w.alloc (.cells #[.int .i64 p.id, .int .i64 p.n, .string p.s, .string p.t] 100)) := (Below.refl _ _).alloc (Nat.le_refl _) _
  have hS : S4b (w.alloc (.cells #[.int .i64 p.id, .int .i64 p.n, .string p.s, .string p.t] 100)) w.heap.size p := ⟨World.cell?_alloc_at _ _ _ _ rfl, World.cell?_alloc_at _ _ _ _ rfl, World.cell?_alloc_at _ _ _ _ rfl, World.cell?_alloc_at _ _ _ _ rfl⟩
  have hl : w.heap.size < (w.alloc (.cells #[.int .i64 p.id, .int .i64 p.n, .string p.s, .string p.t] 100)).heap.size := by simp
  obtain ⟨W, hW⟩ : ∃ W, w.alloc (.cells #[.int .i64 p.id, .int .i64 p.n, .string p.s, .string p.t] 100) = W := ⟨_, rfl⟩
  rw [hW] at b0 hS hl
  have CK := Lib.hid CK
  have HW := Lib.hid hW
  have B0 := Lib.hid b0
  have HK := Lib.hid hk
  have HS0 := Lib.hid hS
  have s0 := hS.1
  obtain ⟨c, hc⟩ : ∃ c, pvC p = c := ⟨_, rfl⟩
  have hc2 := hc
  unfold pvC at hc2
  rw [hk] at hc2
  rw [hc]
  clear hc hk hW b0 hS
  by_cases h4 : k = 4
  · subst h4
    obtain rfl : putC p.n = c := hc2
    have HS : Hid ((⟨(enc p.n).toArray⟩ : ByteArray) = pvS p) := Lib.hid (by unfold pvS; rw [HK.out]; rfl)
    go_enter Tryd.func95, Tryd.ntmps95
    go_wp2_with fail
    rw [HW.out]
    refine (CK.out W).mono ?_
    rintro e w1 ⟨rfl, b1⟩
    obtain ⟨r0, r1, r2, r3⟩ := s4b_blw HS0.out hl b1
    have B1 := Lib.hid (B0.out.trans (b1.mono B0.out.size))
    clear b1
    go_wp2_with fail
    refine (refput_all p.n _).mono ?_
    rintro e w2 ⟨rfl, b2⟩
    go_wp2
    go_ret2
    exact ⟨_, rfl, fun _ => HS.out, B1.out.trans (b2.mono B1.out.size)⟩
  · by_cases h5 : k = 5
    · subst h5
      obtain rfl : dataC p.s = c := hc2
      have HS : Hid (dataS p.s = pvS p) := Lib.hid (by unfold pvS; rw [HK.out]; rfl)
      go_enter Tryd.func95, Tryd.ntmps95
      go_wp2_with fail
      rw [HW.out]
      refine (CK.out W).mono ?_
      rintro e w1 ⟨rfl, b1⟩
      obtain ⟨r0, r1, r2, r3⟩ := s4b_blw HS0.out hl b1
      have B1 := Lib.hid (B0.out.trans (b1.mono B0.out.size))
      clear b1
      go_wp2_with fail
      refine (refdata_all p.s _ z1).mono ?_
      rintro e w2 ⟨rfl, b2⟩
      go_wp2
      go_ret2
      exact ⟨_, rfl, fun _ => HS.out, B1.out.trans (b2.mono B1.out.size)⟩
    · by_cases h6 : k = 6
      · subst h6
        obtain rfl : tputC p.s = c := hc2
        have HS : Hid (tputS p.s = pvS p) := Lib.hid (by unfold pvS; rw [HK.out]; rfl)
        go_enter Tryd.func95, Tryd.ntmps95
        go_wp2_with fail
        rw [HW.out]
        refine (CK.out W).mono ?_
        rintro e w1 ⟨rfl, b1⟩
        obtain ⟨r0, r1, r2, r3⟩ := s4b_blw HS0.out hl b1
        have B1 := Lib.hid (B0.out.trans (b1.mono B0.out.size))
        clear b1
        go_wp2_with fail
        refine (reftput_any p.s _ z1).mono ?_
        rintro e w2 ⟨rfl, b2⟩
        go_wp2
        go_ret2
        exact ⟨_, rfl, fun _ => HS.out, B1.out.trans (b2.mono B1.out.size)⟩
      · by_cases h7 : k = 7
        · subst h7
          have HS : Hid (tputS p.s ++ tputS p.t = pvS p) := Lib.hid (by unfold pvS; rw [HK.out]; rfl)
          have q1 := tputS_small p.s
          have q2 := tputS_small p.t
          have hc3 : (if tputC p.s = 0 then tputC p.t else tputC p.s) = c := hc2
          have C1 : ∀ X : World, Calls Tryd.prog 76 #[.string p.s] X fun e w' => e = .returned (.tuple #[.string (tputS p.s), .int .i64 (tputC p.s)]) ∧ Below X.heap.size X w' := fun X => reftput_any p.s X z1
          have C2 : ∀ X : World, Calls Tryd.prog 76 #[.string p.t] X fun e w' => e = .returned (.tuple #[.string (tputS p.t), .int .i64 (tputC p.t)]) ∧ Below X.heap.size X w' := fun X => reftput_any p.t X z2
          obtain ⟨u1, hu1⟩ : ∃ u, tputS p.s = u := ⟨_, rfl⟩
          obtain ⟨u2, hu2⟩ : ∃ u, tputS p.t = u := ⟨_, rfl⟩
          obtain ⟨d1, hd1⟩ : ∃ u, tputC p.s = u := ⟨_, rfl⟩
          obtain ⟨d2, hd2⟩ : ∃ u, tputC p.t = u := ⟨_, rfl⟩
          rw [hu1] at HS q1 C1
          rw [hu2] at HS q2 C2
          rw [hd1] at C1 hc3
          rw [hd2] at C2 hc3
          have C1 := Lib.hid C1
          have C2 := Lib.hid C2
          clear hu1 hu2 hd1 hd2 hc2
          by_cases h0 : d1 = 0
          · subst h0
            rw [if_pos rfl] at hc3
            subst hc3
            by_cases h20 : d2 = 0
            · subst h20
              go_enter Tryd.func95, Tryd.ntmps95
              go_wp2_with fail
              rw [HW.out]
              refine (CK.out W).mono ?_
              rintro e w1 ⟨rfl, b1⟩
              obtain ⟨r0, r1, r2, r3⟩ := s4b_blw HS0.out hl b1
              have HS1 := Lib.hid (s4b_blw HS0.out hl b1)
              have hl1 := Nat.lt_of_lt_of_le hl b1.size
              have B1 := Lib.hid (B0.out.trans (b1.mono B0.out.size))
              clear b1
              go_wp2_with fail
              refine (C1.out _).mono ?_
              rintro e w2 ⟨rfl, b2⟩
              obtain ⟨t0, t1, t2, t3⟩ := s4b_blw HS1.out hl1 b2
              have B2 := Lib.hid (B1.out.trans (b2.mono B1.out.size))
              clear b2
              go_wp2_with fail
              refine (C2.out _).mono ?_
              rintro e w3 ⟨rfl, b3⟩
              go_wp2
              go_ret2
              exact ⟨_, rfl, fun _ => HS.out, B2.out.trans (b3.mono B2.out.size)⟩
            · have e0 : (d2 == 0) = false := by rw [beq_eq_false_iff_ne]; exact h20
              have e1 : (d2 != 0) = true := by rw [bne, e0]; rfl
              go_enter Tryd.func95, Tryd.ntmps95
              go_wp2_with fail
              rw [HW.out]
              refine (CK.out W).mono ?_
              rintro e w1 ⟨rfl, b1⟩
              obtain ⟨r0, r1, r2, r3⟩ := s4b_blw HS0.out hl b1
              have HS1 := Lib.hid (s4b_blw HS0.out hl b1)
              have hl1 := Nat.lt_of_lt_of_le hl b1.size
              have B1 := Lib.hid (B0.out.trans (b1.mono B0.out.size))
              clear b1
              go_wp2_with fail
              refine (C1.out _).mono ?_
              rintro e w2 ⟨rfl, b2⟩
              obtain ⟨t0, t1, t2, t3⟩ := s4b_blw HS1.out hl1 b2
              have B2 := Lib.hid (B1.out.trans (b2.mono B1.out.size))
              clear b2
              go_wp2_with fail
              refine (C2.out _).mono ?_
              rintro e w3 ⟨rfl, b3⟩
              go_wp2
              go_ret2
              exact ⟨_, rfl, fun h => absurd h h20, B2.out.trans (b3.mono B2.out.size)⟩
          · rw [if_neg h0] at hc3
            subst hc3
            have e0 : (d1 == 0) = false := by rw [beq_eq_false_iff_ne]; exact h0
            have e1 : (d1 != 0) = true := by rw [bne, e0]; rfl
            go_enter Tryd.func95, Tryd.ntmps95
            go_wp2_with fail
            rw [HW.out]
            refine (CK.out W).mono ?_
            rintro e w1 ⟨rfl, b1⟩
            obtain ⟨r0, r1, r2, r3⟩ := s4b_blw HS0.out hl b1
            have B1 := Lib.hid (B0.out.trans (b1.mono B0.out.size))
            clear b1
            go_wp2_with fail
            refine (C1.out _).mono ?_
            rintro e w2 ⟨rfl, b2⟩
            go_wp2
            go_ret2
            exact ⟨_, rfl, fun h => absurd h h0, B1.out.trans (b2.mono B1.out.size)⟩
        · have HS : Hid ((⟨(fixS (wid k) p.n).toArray⟩ : ByteArray) = pvS p) := Lib.hid (by unfold pvS; rw [HK.out, if_neg h4, if_neg h5, if_neg h6, if_neg h7])
          obtain rfl : fixC (wid k) p.n = c := by rw [← hc2, if_neg h4, if_neg h5, if_neg h6, if_neg h7]
          have e4 : (k == 4) = false := by rw [beq_eq_false_iff_ne]; exact h4
          have e5 : (k == 5) = false := by rw [beq_eq_false_iff_ne]; exact h5
          have e6 : (k == 6) = false := by rw [beq_eq_false_iff_ne]; exact h6
          have e7 : (k == 7) = false := by rw [beq_eq_false_iff_ne]; exact h7
          clear h4 h5 h6 h7
          go_enter Tryd.func95, Tryd.ntmps95
          go_wp2_with fail
          rw [HW.out]
          refine (CK.out W).mono ?_
          rintro e w1 ⟨rfl, b1⟩
          obtain ⟨r0, r1, r2, r3⟩ := s4b_blw HS0.out hl b1
          have B1 := Lib.hid (B0.out.trans (b1.mono B0.out.size))
          clear b1
          go_wp2_with fail
          refine (refwidth_any k _).mono ?_
          rintro e w2 ⟨rfl, rfl⟩
          go_wp2_with fail
          refine (reffixed_all (wid k) p.n _).mono ?_
          rintro e w3 ⟨rfl, b3⟩
          go_wp2
          go_ret2
          exact ⟨_, rfl, fun _ => HS.out, B1.out.trans (b3.mono B1.out.size)⟩
end Go.Proofs.YtlnanenfpapfkaaDoor
