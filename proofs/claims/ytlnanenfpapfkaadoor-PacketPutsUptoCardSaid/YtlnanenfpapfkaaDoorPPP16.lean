/- The walks of the document's connect, eight ways. -/
import Derived.Test.YtlnanenfpapfkaaDoorPPP15
import Derived.IntWalk
set_option linter.unusedVariables false
namespace Go.Proofs.YtlnanenfpapfkaaDoor
open Go.RowKit Pl

set_option maxRecDepth 100000 in
set_option maxHeartbeats 8000000 in
theorem rconnect_tt (o : Ot) (p : Pk) (m : Hs) (w : World) (hP : PkIn .i64 w p m) (hs : o.s.size ≤ 1048576) (hwl : p.hasWill = true) (hus : p.hasUser = true) :
    Calls Tryd.prog 41 #[.agg #[.string o.s, .int .i64 o.c], pkV .i64 p m] w fun e w' => RPost (wConnect o p) w w' e := by
  have h0 := Rq.new w o p m
  obtain ⟨W, hW⟩ : ∃ W, ((w.alloc (.cells #[.string o.s, .int .i64 o.c] 81)).alloc (.cells (pkA .i64 p m) 45)).alloc (.cells #[.string ⟨#[]⟩, .int .i64 0] 81) = W := ⟨_, rfl⟩
  rw [hW] at h0
  unfold pkA at hW
  have H0 := Lib.hid h0
  have HP := Lib.hid hP
  have hpn := hP.pn
  unfold pkV pkA
  rcases (by cases p.hasPass <;> simp : p.hasPass = false ∨ p.hasPass = true) with hps | hps
  · have HWL : Hid (p.hasWill = true) := Lib.hid hwl
    have HUS : Hid (p.hasUser = true) := Lib.hid hus
    have HPS : Hid (p.hasPass = false) := Lib.hid hps
    have a1 := bt1_bd' p.clean 2 (by decide)
    have a2 := bt1_bd' false 64 (by decide)
    have a3 := bt1_bd' true 128 (by decide)
    have a4 := bt1_bd' p.wr 32 (by decide)
    have a5 := Int.emod_nonneg p.wq (show (4 : Int) ≠ 0 by decide)
    have a6 := Int.emod_lt_of_pos p.wq (show (0 : Int) < 4 by decide)
    have r0 : IntKind.i64.wrap (bt1 p.clean 2 + bt1 false 64) = bt1 p.clean 2 + bt1 false 64 := IntWalk.i64_in _ (by omega)
    have r1 : IntKind.i64.wrap (bt1 p.clean 2 + bt1 false 64 + bt1 true 128) = bt1 p.clean 2 + bt1 false 64 + bt1 true 128 := IntWalk.i64_in _ (by omega)
    have r2 : IntKind.i64.wrap (bt1 p.clean 2 + bt1 false 64 + bt1 true 128 + 4) = bt1 p.clean 2 + bt1 false 64 + bt1 true 128 + 4 := IntWalk.i64_in _ (by omega)
    have r3 : IntKind.i64.wrap (8 * (p.wq % 4)) = 8 * (p.wq % 4) := IntWalk.i64_in _ (by omega)
    have r4 : IntKind.i64.wrap (bt1 p.clean 2 + bt1 false 64 + bt1 true 128 + 4 + 8 * (p.wq % 4)) = bt1 p.clean 2 + bt1 false 64 + bt1 true 128 + 4 + 8 * (p.wq % 4) := IntWalk.i64_in _ (by omega)
    have r5 : IntKind.i64.wrap (bt1 p.clean 2 + bt1 false 64 + bt1 true 128 + 4 + 8 * (p.wq % 4) + bt1 p.wr 32) = bt1 p.clean 2 + bt1 false 64 + bt1 true 128 + 4 + 8 * (p.wq % 4) + bt1 p.wr 32 := IntWalk.i64_in _ (by omega)
    rw [hwl, hus, hps] at hW ⊢
    clear hwl hus hps a1 a2 a3 a4 a5 a6 hP
    have p0 : W.cell? ⟨w.heap.size, 0, none⟩ = some (.string o.s) := H0.out.ob.cell 0
    have p1 : W.cell? ⟨w.heap.size, 1, none⟩ = some (.int .i64 o.c) := H0.out.ob.cell 1
    have q0 : W.cell? ⟨w.heap.size + 2, 0, none⟩ = some (.string ⟨#[]⟩) := H0.out.qb.cell 0
    have q1 : W.cell? ⟨w.heap.size + 2, 1, none⟩ = some (.int .i64 0) := H0.out.qb.cell 1
    have f0 := H0.out.ob.frozen 0
    have f1 := H0.out.ob.frozen 1
    have g0 := H0.out.qb.frozen 0
    have g1 := H0.out.qb.frozen 1
    clear h0
    go_enter Tryd.func41, Tryd.ntmps41
    have C1 := Lib.hid (fun (X : World) (hX : Below w.heap.size w X) => reftext_any o ⟨#[77, 81, 84, 84]⟩ X (by omega) (by decide))
    go_wp2_with fail
    (with_reducible refine (C1.out _ H0.out.below).mono ?_)
    rintro e w1 ⟨rfl, b1⟩
    have H1 := Lib.hid (H0.out.step b1)
    obtain ⟨o1, e1⟩ : ∃ x, wText o ⟨#[77, 81, 84, 84]⟩ = x := ⟨_, rfl⟩
    have s1 : o1.s.size ≤ 1200000 := by rw [← e1]; have := text_size o ⟨#[77, 81, 84, 84]⟩; omega
    have E1 := Lib.hid e1
    try rw [e1]
    clear e1 b1 p0 p1 q0 q1 f0 f1 g0 g1
    have p0 : w1.cell? ⟨w.heap.size, 0, none⟩ = some (.string o.s) := H1.out.ob.cell 0
    have p1 : w1.cell? ⟨w.heap.size, 1, none⟩ = some (.int .i64 o.c) := H1.out.ob.cell 1
    have q0 : w1.cell? ⟨w.heap.size + 2, 0, none⟩ = some (.string ⟨#[]⟩) := H1.out.qb.cell 0
    have q1 : w1.cell? ⟨w.heap.size + 2, 1, none⟩ = some (.int .i64 0) := H1.out.qb.cell 1
    have f0 := H1.out.ob.frozen 0
    have f1 := H1.out.ob.frozen 1
    have g0 := H1.out.qb.frozen 0
    have g1 := H1.out.qb.frozen 1
    have K2 := Lib.hid (H1.out.put o1)
    have C2 := Lib.hid (fun (X : World) (hX : Below w.heap.size w X) => refnumber_any o1 1 5 X (by omega) (by decide))
    go_wp2_with fail
    (with_reducible refine (C2.out _ K2.out.below).mono ?_)
    rintro e w2 ⟨rfl, b2⟩
    have H2 := Lib.hid (K2.out.step b2)
    obtain ⟨o2, e2⟩ : ∃ x, wNum 1 o1 5 = x := ⟨_, rfl⟩
    have s2 : o2.s.size ≤ 1200010 := by rw [← e2]; have := num_size 1 o1 5; have : (1 : Int).toNat = 1 := rfl; omega
    have E2 := Lib.hid e2
    try rw [e2]
    clear e2 b2 p0 p1 q0 q1 f0 f1 g0 g1
    have p0 : w2.cell? ⟨w.heap.size, 0, none⟩ = some (.string o1.s) := H2.out.ob.cell 0
    have p1 : w2.cell? ⟨w.heap.size, 1, none⟩ = some (.int .i64 o1.c) := H2.out.ob.cell 1
    have q0 : w2.cell? ⟨w.heap.size + 2, 0, none⟩ = some (.string ⟨#[]⟩) := H2.out.qb.cell 0
    have q1 : w2.cell? ⟨w.heap.size + 2, 1, none⟩ = some (.int .i64 0) := H2.out.qb.cell 1
    have f0 := H2.out.ob.frozen 0
    have f1 := H2.out.ob.frozen 1
    have g0 := H2.out.qb.frozen 0
    have g1 := H2.out.qb.frozen 1
    have k11 : w2.cell? ⟨w.heap.size + 1, 11, none⟩ = some (.bool p.clean) := H2.out.kb.cell 11
    have k20 : w2.cell? ⟨w.heap.size + 1, 20, none⟩ = some (.bool false) := (H2.out.kb.cell 20).trans (by show some (Value.bool p.hasPass) = _; rw [HPS.out])
    have k19 : w2.cell? ⟨w.heap.size + 1, 19, none⟩ = some (.bool true) := (H2.out.kb.cell 19).trans (by show some (Value.bool p.hasUser) = _; rw [HUS.out])
    have k13 : w2.cell? ⟨w.heap.size + 1, 13, none⟩ = some (.bool true) := (H2.out.kb.cell 13).trans (by show some (Value.bool p.hasWill) = _; rw [HWL.out])
    have k16 : w2.cell? ⟨w.heap.size + 1, 16, none⟩ = some (.int .i64 p.wq) := H2.out.kb.cell 16
    have k17 : w2.cell? ⟨w.heap.size + 1, 17, none⟩ = some (.bool p.wr) := H2.out.kb.cell 17
    go_wp2_with fail
    (with_reducible refine (rbit_any p.clean 2 _).mono ?_)
    rintro e w0 ⟨rfl, rfl⟩
    go_wp2_with fail
    (with_reducible refine (rbit_any false 64 _).mono ?_)
    rintro e w0 ⟨rfl, rfl⟩
    go_wp2_with fail
    (with_reducible refine (rbit_any true 128 _).mono ?_)
    rintro e w0 ⟨rfl, rfl⟩
    have K3 := Lib.hid (H2.out.put o2)
    have C3 := Lib.hid (fun (X : World) (hX : Below w.heap.size w X) => rqos_any o2 p.wq X (by omega))
    go_wp2_with fail
    (with_reducible refine (C3.out _ K3.out.below).mono ?_)
    rintro e w3 ⟨rfl, b3⟩
    have H3 := Lib.hid (K3.out.step b3)
    obtain ⟨o3, e3⟩ : ∃ x, wQos o2 p.wq = x := ⟨_, rfl⟩
    have s3 : o3.s.size ≤ 1200010 := by rw [← e3]; have := qos_size o2 p.wq; omega
    have E3 := Lib.hid e3
    try rw [e3]
    clear e3 b3 p0 p1 q0 q1 f0 f1 g0 g1 k11 k20 k19 k13 k16 k17
    have p0 : w3.cell? ⟨w.heap.size, 0, none⟩ = some (.string o2.s) := H3.out.ob.cell 0
    have p1 : w3.cell? ⟨w.heap.size, 1, none⟩ = some (.int .i64 o2.c) := H3.out.ob.cell 1
    have q0 : w3.cell? ⟨w.heap.size + 2, 0, none⟩ = some (.string ⟨#[]⟩) := H3.out.qb.cell 0
    have q1 : w3.cell? ⟨w.heap.size + 2, 1, none⟩ = some (.int .i64 0) := H3.out.qb.cell 1
    have f0 := H3.out.ob.frozen 0
    have f1 := H3.out.ob.frozen 1
    have g0 := H3.out.qb.frozen 0
    have g1 := H3.out.qb.frozen 1
    have k16 : w3.cell? ⟨w.heap.size + 1, 16, none⟩ = some (.int .i64 p.wq) := H3.out.kb.cell 16
    have k17 : w3.cell? ⟨w.heap.size + 1, 17, none⟩ = some (.bool p.wr) := H3.out.kb.cell 17
    go_wp2_with fail
    (with_reducible refine (rlow_any p.wq _).mono ?_)
    rintro e w0 ⟨rfl, rfl⟩
    go_wp2_with fail
    (with_reducible refine (rbit_any p.wr 32 _).mono ?_)
    rintro e w0 ⟨rfl, rfl⟩
    have K4 := Lib.hid (H3.out.put o3)
    have C4 := Lib.hid (fun (X : World) (hX : Below w.heap.size w X) => refnumber_any o3 1 ((bt1 p.clean 2 + bt1 false 64 + bt1 true 128) + 4 + 8 * (p.wq % 4) + bt1 p.wr 32) X (by omega) (by decide))
    go_wp2_with fail
    (with_reducible refine (C4.out _ K4.out.below).mono ?_)
    rintro e w4 ⟨rfl, b4⟩
    have H4 := Lib.hid (K4.out.step b4)
    obtain ⟨o4, e4⟩ : ∃ x, wNum 1 o3 ((bt1 p.clean 2 + bt1 false 64 + bt1 true 128) + 4 + 8 * (p.wq % 4) + bt1 p.wr 32) = x := ⟨_, rfl⟩
    have s4 : o4.s.size ≤ 1200020 := by rw [← e4]; have := num_size 1 o3 ((bt1 p.clean 2 + bt1 false 64 + bt1 true 128) + 4 + 8 * (p.wq % 4) + bt1 p.wr 32); have : (1 : Int).toNat = 1 := rfl; omega
    have E4 := Lib.hid e4
    try rw [e4]
    clear e4 b4 p0 p1 q0 q1 f0 f1 g0 g1 k16 k17
    have p0 : w4.cell? ⟨w.heap.size, 0, none⟩ = some (.string o3.s) := H4.out.ob.cell 0
    have p1 : w4.cell? ⟨w.heap.size, 1, none⟩ = some (.int .i64 o3.c) := H4.out.ob.cell 1
    have q0 : w4.cell? ⟨w.heap.size + 2, 0, none⟩ = some (.string ⟨#[]⟩) := H4.out.qb.cell 0
    have q1 : w4.cell? ⟨w.heap.size + 2, 1, none⟩ = some (.int .i64 0) := H4.out.qb.cell 1
    have f0 := H4.out.ob.frozen 0
    have f1 := H4.out.ob.frozen 1
    have g0 := H4.out.qb.frozen 0
    have g1 := H4.out.qb.frozen 1
    have k12 : w4.cell? ⟨w.heap.size + 1, 12, none⟩ = some (.int .i64 p.keep) := H4.out.kb.cell 12
    have K5 := Lib.hid (H4.out.put o4)
    have C5 := Lib.hid (fun (X : World) (hX : Below w.heap.size w X) => refnumber_any o4 2 p.keep X (by omega) (by decide))
    go_wp2_with fail
    (with_reducible refine (C5.out _ K5.out.below).mono ?_)
    rintro e w5 ⟨rfl, b5⟩
    have H5 := Lib.hid (K5.out.step b5)
    obtain ⟨o5, e5⟩ : ∃ x, wNum 2 o4 p.keep = x := ⟨_, rfl⟩
    have s5 : o5.s.size ≤ 1200030 := by rw [← e5]; have := num_size 2 o4 p.keep; have : (2 : Int).toNat = 2 := rfl; omega
    have E5 := Lib.hid e5
    try rw [e5]
    clear e5 b5 p0 p1 q0 q1 f0 f1 g0 g1 k12
    have p0 : w5.cell? ⟨w.heap.size, 0, none⟩ = some (.string o4.s) := H5.out.ob.cell 0
    have p1 : w5.cell? ⟨w.heap.size, 1, none⟩ = some (.int .i64 o4.c) := H5.out.ob.cell 1
    have q0 : w5.cell? ⟨w.heap.size + 2, 0, none⟩ = some (.string ⟨#[]⟩) := H5.out.qb.cell 0
    have q1 : w5.cell? ⟨w.heap.size + 2, 1, none⟩ = some (.int .i64 0) := H5.out.qb.cell 1
    have f0 := H5.out.ob.frozen 0
    have f1 := H5.out.ob.frozen 1
    have g0 := H5.out.qb.frozen 0
    have g1 := H5.out.qb.frozen 1
    have k9 : w5.cell? ⟨w.heap.size + 1, 9, none⟩ = some (.slice m.p.A m.p.n m.p.cap) := H5.out.kb.cell 9
    have K6 := Lib.hid (H5.out.put o5)
    have C6 := Lib.hid (fun (X : World) (hX : Below w.heap.size w X) => rprops_any o5 1 m.p.A m.p.n m.p.cap p.ps X HP.out.pn HP.out.pc (by have := HP.out.fits.ps.1; have := HP.out.pn; omega) (HP.out.pr.below hX) HP.out.fits.ps.2 (by omega))
    go_wp2_with fail
    (with_reducible refine (C6.out _ K6.out.below).mono ?_)
    rintro e w6 ⟨rfl, b6⟩
    have H6 := Lib.hid (K6.out.step b6)
    obtain ⟨o6, e6⟩ : ∃ x, wProps 1 o5 p.ps = x := ⟨_, rfl⟩
    have s6 : o6.s.size ≤ 9700000 := by rw [← e6]; have := props_size 1 o5 p.ps; omega
    have E6 := Lib.hid e6
    try rw [e6]
    clear e6 b6 p0 p1 q0 q1 f0 f1 g0 g1 k9
    have p0 : w6.cell? ⟨w.heap.size, 0, none⟩ = some (.string o5.s) := H6.out.ob.cell 0
    have p1 : w6.cell? ⟨w.heap.size, 1, none⟩ = some (.int .i64 o5.c) := H6.out.ob.cell 1
    have q0 : w6.cell? ⟨w.heap.size + 2, 0, none⟩ = some (.string ⟨#[]⟩) := H6.out.qb.cell 0
    have q1 : w6.cell? ⟨w.heap.size + 2, 1, none⟩ = some (.int .i64 0) := H6.out.qb.cell 1
    have f0 := H6.out.ob.frozen 0
    have f1 := H6.out.ob.frozen 1
    have g0 := H6.out.qb.frozen 0
    have g1 := H6.out.qb.frozen 1
    have k10 : w6.cell? ⟨w.heap.size + 1, 10, none⟩ = some (.string p.client) := H6.out.kb.cell 10
    have K7 := Lib.hid (H6.out.put o6)
    have C7 := Lib.hid (fun (X : World) (hX : Below w.heap.size w X) => reftext_any o6 p.client X (by omega) (by have := HP.out.fits.client; omega))
    go_wp2_with fail
    (with_reducible refine (C7.out _ K7.out.below).mono ?_)
    rintro e w7 ⟨rfl, b7⟩
    have H7 := Lib.hid (K7.out.step b7)
    obtain ⟨o7, e7⟩ : ∃ x, wText o6 p.client = x := ⟨_, rfl⟩
    have s7 : o7.s.size ≤ 9800000 := by rw [← e7]; have := text_size o6 p.client; omega
    have E7 := Lib.hid e7
    try rw [e7]
    clear e7 b7 p0 p1 q0 q1 f0 f1 g0 g1 k10
    have p0 : w7.cell? ⟨w.heap.size, 0, none⟩ = some (.string o6.s) := H7.out.ob.cell 0
    have p1 : w7.cell? ⟨w.heap.size, 1, none⟩ = some (.int .i64 o6.c) := H7.out.ob.cell 1
    have q0 : w7.cell? ⟨w.heap.size + 2, 0, none⟩ = some (.string ⟨#[]⟩) := H7.out.qb.cell 0
    have q1 : w7.cell? ⟨w.heap.size + 2, 1, none⟩ = some (.int .i64 0) := H7.out.qb.cell 1
    have f0 := H7.out.ob.frozen 0
    have f1 := H7.out.ob.frozen 1
    have g0 := H7.out.qb.frozen 0
    have g1 := H7.out.qb.frozen 1
    have k13 : w7.cell? ⟨w.heap.size + 1, 13, none⟩ = some (.bool true) := (H7.out.kb.cell 13).trans (by show some (Value.bool p.hasWill) = _; rw [HWL.out])
    have k18 : w7.cell? ⟨w.heap.size + 1, 18, none⟩ = some (.slice m.w.A m.w.n m.w.cap) := H7.out.kb.cell 18
    have k19 : w7.cell? ⟨w.heap.size + 1, 19, none⟩ = some (.bool true) := (H7.out.kb.cell 19).trans (by show some (Value.bool p.hasUser) = _; rw [HUS.out])
    have k20 : w7.cell? ⟨w.heap.size + 1, 20, none⟩ = some (.bool false) := (H7.out.kb.cell 20).trans (by show some (Value.bool p.hasPass) = _; rw [HPS.out])
    have k21 : w7.cell? ⟨w.heap.size + 1, 21, none⟩ = some (.string p.user) := H7.out.kb.cell 21
    have k22 : w7.cell? ⟨w.heap.size + 1, 22, none⟩ = some (.string p.pass) := H7.out.kb.cell 22
    have K8 := Lib.hid (H7.out.put o7)
    have C8 := Lib.hid (fun (X : World) (hX : Below w.heap.size w X) => rprops_any o7 0 m.w.A m.w.n m.w.cap p.wps X HP.out.wn HP.out.wc (by have := HP.out.fits.wps.1; have := HP.out.wn; omega) (HP.out.wr.below hX) HP.out.fits.wps.2 (by omega))
    go_wp2_with fail
    (with_reducible refine (C8.out _ K8.out.below).mono ?_)
    rintro e w8 ⟨rfl, b8⟩
    have H8 := Lib.hid (K8.out.step b8)
    obtain ⟨o8, e8⟩ : ∃ x, wProps 0 o7 p.wps = x := ⟨_, rfl⟩
    have s8 : o8.s.size ≤ 18500000 := by rw [← e8]; have := props_size 0 o7 p.wps; omega
    have E8 := Lib.hid e8
    try rw [e8]
    clear e8 b8 p0 p1 q0 q1 f0 f1 g0 g1 k13 k18 k19 k20 k21 k22
    have p0 : w8.cell? ⟨w.heap.size, 0, none⟩ = some (.string o7.s) := H8.out.ob.cell 0
    have p1 : w8.cell? ⟨w.heap.size, 1, none⟩ = some (.int .i64 o7.c) := H8.out.ob.cell 1
    have q0 : w8.cell? ⟨w.heap.size + 2, 0, none⟩ = some (.string ⟨#[]⟩) := H8.out.qb.cell 0
    have q1 : w8.cell? ⟨w.heap.size + 2, 1, none⟩ = some (.int .i64 0) := H8.out.qb.cell 1
    have f0 := H8.out.ob.frozen 0
    have f1 := H8.out.ob.frozen 1
    have g0 := H8.out.qb.frozen 0
    have g1 := H8.out.qb.frozen 1
    have k14 : w8.cell? ⟨w.heap.size + 1, 14, none⟩ = some (.string p.wt) := H8.out.kb.cell 14
    have K9 := Lib.hid (H8.out.put o8)
    have C9 := Lib.hid (fun (X : World) (hX : Below w.heap.size w X) => reftext_any o8 p.wt X (by omega) (by have := HP.out.fits.wt; omega))
    go_wp2_with fail
    (with_reducible refine (C9.out _ K9.out.below).mono ?_)
    rintro e w9 ⟨rfl, b9⟩
    have H9 := Lib.hid (K9.out.step b9)
    obtain ⟨o9, e9⟩ : ∃ x, wText o8 p.wt = x := ⟨_, rfl⟩
    have s9 : o9.s.size ≤ 18600000 := by rw [← e9]; have := text_size o8 p.wt; omega
    have E9 := Lib.hid e9
    try rw [e9]
    clear e9 b9 p0 p1 q0 q1 f0 f1 g0 g1 k14
    have p0 : w9.cell? ⟨w.heap.size, 0, none⟩ = some (.string o8.s) := H9.out.ob.cell 0
    have p1 : w9.cell? ⟨w.heap.size, 1, none⟩ = some (.int .i64 o8.c) := H9.out.ob.cell 1
    have q0 : w9.cell? ⟨w.heap.size + 2, 0, none⟩ = some (.string ⟨#[]⟩) := H9.out.qb.cell 0
    have q1 : w9.cell? ⟨w.heap.size + 2, 1, none⟩ = some (.int .i64 0) := H9.out.qb.cell 1
    have f0 := H9.out.ob.frozen 0
    have f1 := H9.out.ob.frozen 1
    have g0 := H9.out.qb.frozen 0
    have g1 := H9.out.qb.frozen 1
    have k15 : w9.cell? ⟨w.heap.size + 1, 15, none⟩ = some (.string p.wp) := H9.out.kb.cell 15
    have K10 := Lib.hid (H9.out.put o9)
    have C10 := Lib.hid (fun (X : World) (hX : Below w.heap.size w X) => refpdata_any o9 p.wp X (by omega) (by have := HP.out.fits.wp; omega))
    go_wp2_with fail
    (with_reducible refine (C10.out _ K10.out.below).mono ?_)
    rintro e w10 ⟨rfl, b10⟩
    have H10 := Lib.hid (K10.out.step b10)
    obtain ⟨o10, e10⟩ : ∃ x, wData o9 p.wp = x := ⟨_, rfl⟩
    have s10 : o10.s.size ≤ 18700000 := by rw [← e10]; have := data_size o9 p.wp; omega
    have E10 := Lib.hid e10
    try rw [e10]
    clear e10 b10 p0 p1 q0 q1 f0 f1 g0 g1 k15
    have p0 : w10.cell? ⟨w.heap.size, 0, none⟩ = some (.string o9.s) := H10.out.ob.cell 0
    have p1 : w10.cell? ⟨w.heap.size, 1, none⟩ = some (.int .i64 o9.c) := H10.out.ob.cell 1
    have q0 : w10.cell? ⟨w.heap.size + 2, 0, none⟩ = some (.string ⟨#[]⟩) := H10.out.qb.cell 0
    have q1 : w10.cell? ⟨w.heap.size + 2, 1, none⟩ = some (.int .i64 0) := H10.out.qb.cell 1
    have f0 := H10.out.ob.frozen 0
    have f1 := H10.out.ob.frozen 1
    have g0 := H10.out.qb.frozen 0
    have g1 := H10.out.qb.frozen 1
    have k19 : w10.cell? ⟨w.heap.size + 1, 19, none⟩ = some (.bool true) := (H10.out.kb.cell 19).trans (by show some (Value.bool p.hasUser) = _; rw [HUS.out])
    have k20 : w10.cell? ⟨w.heap.size + 1, 20, none⟩ = some (.bool false) := (H10.out.kb.cell 20).trans (by show some (Value.bool p.hasPass) = _; rw [HPS.out])
    have k21 : w10.cell? ⟨w.heap.size + 1, 21, none⟩ = some (.string p.user) := H10.out.kb.cell 21
    have k22 : w10.cell? ⟨w.heap.size + 1, 22, none⟩ = some (.string p.pass) := H10.out.kb.cell 22
    have K11 := Lib.hid (H10.out.put o10)
    have C11 := Lib.hid (fun (X : World) (hX : Below w.heap.size w X) => reftext_any o10 p.user X (by omega) (by have := HP.out.fits.user; omega))
    go_wp2_with fail
    (with_reducible refine (C11.out _ K11.out.below).mono ?_)
    rintro e w11 ⟨rfl, b11⟩
    have H11 := Lib.hid (K11.out.step b11)
    obtain ⟨o11, e11⟩ : ∃ x, wText o10 p.user = x := ⟨_, rfl⟩
    have s11 : o11.s.size ≤ 18800000 := by rw [← e11]; have := text_size o10 p.user; omega
    have E11 := Lib.hid e11
    try rw [e11]
    clear e11 b11 p0 p1 q0 q1 f0 f1 g0 g1 k19 k20 k21 k22
    have p0 : w11.cell? ⟨w.heap.size, 0, none⟩ = some (.string o10.s) := H11.out.ob.cell 0
    have p1 : w11.cell? ⟨w.heap.size, 1, none⟩ = some (.int .i64 o10.c) := H11.out.ob.cell 1
    have q0 : w11.cell? ⟨w.heap.size + 2, 0, none⟩ = some (.string ⟨#[]⟩) := H11.out.qb.cell 0
    have q1 : w11.cell? ⟨w.heap.size + 2, 1, none⟩ = some (.int .i64 0) := H11.out.qb.cell 1
    have f0 := H11.out.ob.frozen 0
    have f1 := H11.out.ob.frozen 1
    have g0 := H11.out.qb.frozen 0
    have g1 := H11.out.qb.frozen 1
    have k20 : w11.cell? ⟨w.heap.size + 1, 20, none⟩ = some (.bool false) := (H11.out.kb.cell 20).trans (by show some (Value.bool p.hasPass) = _; rw [HPS.out])
    have k22 : w11.cell? ⟨w.heap.size + 1, 22, none⟩ = some (.string p.pass) := H11.out.kb.cell 22
    go_wp2
    refine bodyPost_ret (v := .agg #[.string o11.s, .int .i64 o11.c]) (by simp [results, Tryd.results41, go_sem, q0, q1]) rfl ?_
    have e : wConnect o p = o11 := by
      unfold wConnect cPass cUser cWill cHead
      rw [HWL.out, HUS.out, HPS.out]
      simp only [if_true, Bool.false_eq_true, if_false]
      rw [show name5 = ⟨#[77, 81, 84, 84]⟩ from rfl, show cFlags p = ((bt1 p.clean 2 + bt1 false 64 + bt1 true 128) + 4 + 8 * (p.wq % 4) + bt1 p.wr 32) from by unfold cFlags; rw [HWL.out, HUS.out, HPS.out]; simp; omega, E1.out, E2.out, E3.out, E4.out, E5.out, E6.out, E7.out, E8.out, E9.out, E10.out, E11.out]
    rw [e]
    exact ⟨rfl, ((((H11.out.below.setCell (Nat.le_refl _) _).setCell (Nat.le_refl _) _).setCell (Nat.le_add_right _ 2) _).setCell (Nat.le_add_right _ 2) _)⟩
  · have HWL : Hid (p.hasWill = true) := Lib.hid hwl
    have HUS : Hid (p.hasUser = true) := Lib.hid hus
    have HPS : Hid (p.hasPass = true) := Lib.hid hps
    have a1 := bt1_bd' p.clean 2 (by decide)
    have a2 := bt1_bd' true 64 (by decide)
    have a3 := bt1_bd' true 128 (by decide)
    have a4 := bt1_bd' p.wr 32 (by decide)
    have a5 := Int.emod_nonneg p.wq (show (4 : Int) ≠ 0 by decide)
    have a6 := Int.emod_lt_of_pos p.wq (show (0 : Int) < 4 by decide)
    have r0 : IntKind.i64.wrap (bt1 p.clean 2 + bt1 true 64) = bt1 p.clean 2 + bt1 true 64 := IntWalk.i64_in _ (by omega)
    have r1 : IntKind.i64.wrap (bt1 p.clean 2 + bt1 true 64 + bt1 true 128) = bt1 p.clean 2 + bt1 true 64 + bt1 true 128 := IntWalk.i64_in _ (by omega)
    have r2 : IntKind.i64.wrap (bt1 p.clean 2 + bt1 true 64 + bt1 true 128 + 4) = bt1 p.clean 2 + bt1 true 64 + bt1 true 128 + 4 := IntWalk.i64_in _ (by omega)
    have r3 : IntKind.i64.wrap (8 * (p.wq % 4)) = 8 * (p.wq % 4) := IntWalk.i64_in _ (by omega)
    have r4 : IntKind.i64.wrap (bt1 p.clean 2 + bt1 true 64 + bt1 true 128 + 4 + 8 * (p.wq % 4)) = bt1 p.clean 2 + bt1 true 64 + bt1 true 128 + 4 + 8 * (p.wq % 4) := IntWalk.i64_in _ (by omega)
    have r5 : IntKind.i64.wrap (bt1 p.clean 2 + bt1 true 64 + bt1 true 128 + 4 + 8 * (p.wq % 4) + bt1 p.wr 32) = bt1 p.clean 2 + bt1 true 64 + bt1 true 128 + 4 + 8 * (p.wq % 4) + bt1 p.wr 32 := IntWalk.i64_in _ (by omega)
    rw [hwl, hus, hps] at hW ⊢
    clear hwl hus hps a1 a2 a3 a4 a5 a6 hP
    have p0 : W.cell? ⟨w.heap.size, 0, none⟩ = some (.string o.s) := H0.out.ob.cell 0
    have p1 : W.cell? ⟨w.heap.size, 1, none⟩ = some (.int .i64 o.c) := H0.out.ob.cell 1
    have q0 : W.cell? ⟨w.heap.size + 2, 0, none⟩ = some (.string ⟨#[]⟩) := H0.out.qb.cell 0
    have q1 : W.cell? ⟨w.heap.size + 2, 1, none⟩ = some (.int .i64 0) := H0.out.qb.cell 1
    have f0 := H0.out.ob.frozen 0
    have f1 := H0.out.ob.frozen 1
    have g0 := H0.out.qb.frozen 0
    have g1 := H0.out.qb.frozen 1
    clear h0
    go_enter Tryd.func41, Tryd.ntmps41
    have C1 := Lib.hid (fun (X : World) (hX : Below w.heap.size w X) => reftext_any o ⟨#[77, 81, 84, 84]⟩ X (by omega) (by decide))
    go_wp2_with fail
    (with_reducible refine (C1.out _ H0.out.below).mono ?_)
    rintro e w1 ⟨rfl, b1⟩
    have H1 := Lib.hid (H0.out.step b1)
    obtain ⟨o1, e1⟩ : ∃ x, wText o ⟨#[77, 81, 84, 84]⟩ = x := ⟨_, rfl⟩
    have s1 : o1.s.size ≤ 1200000 := by rw [← e1]; have := text_size o ⟨#[77, 81, 84, 84]⟩; omega
    have E1 := Lib.hid e1
    try rw [e1]
    clear e1 b1 p0 p1 q0 q1 f0 f1 g0 g1
    have p0 : w1.cell? ⟨w.heap.size, 0, none⟩ = some (.string o.s) := H1.out.ob.cell 0
    have p1 : w1.cell? ⟨w.heap.size, 1, none⟩ = some (.int .i64 o.c) := H1.out.ob.cell 1
    have q0 : w1.cell? ⟨w.heap.size + 2, 0, none⟩ = some (.string ⟨#[]⟩) := H1.out.qb.cell 0
    have q1 : w1.cell? ⟨w.heap.size + 2, 1, none⟩ = some (.int .i64 0) := H1.out.qb.cell 1
    have f0 := H1.out.ob.frozen 0
    have f1 := H1.out.ob.frozen 1
    have g0 := H1.out.qb.frozen 0
    have g1 := H1.out.qb.frozen 1
    have K2 := Lib.hid (H1.out.put o1)
    have C2 := Lib.hid (fun (X : World) (hX : Below w.heap.size w X) => refnumber_any o1 1 5 X (by omega) (by decide))
    go_wp2_with fail
    (with_reducible refine (C2.out _ K2.out.below).mono ?_)
    rintro e w2 ⟨rfl, b2⟩
    have H2 := Lib.hid (K2.out.step b2)
    obtain ⟨o2, e2⟩ : ∃ x, wNum 1 o1 5 = x := ⟨_, rfl⟩
    have s2 : o2.s.size ≤ 1200010 := by rw [← e2]; have := num_size 1 o1 5; have : (1 : Int).toNat = 1 := rfl; omega
    have E2 := Lib.hid e2
    try rw [e2]
    clear e2 b2 p0 p1 q0 q1 f0 f1 g0 g1
    have p0 : w2.cell? ⟨w.heap.size, 0, none⟩ = some (.string o1.s) := H2.out.ob.cell 0
    have p1 : w2.cell? ⟨w.heap.size, 1, none⟩ = some (.int .i64 o1.c) := H2.out.ob.cell 1
    have q0 : w2.cell? ⟨w.heap.size + 2, 0, none⟩ = some (.string ⟨#[]⟩) := H2.out.qb.cell 0
    have q1 : w2.cell? ⟨w.heap.size + 2, 1, none⟩ = some (.int .i64 0) := H2.out.qb.cell 1
    have f0 := H2.out.ob.frozen 0
    have f1 := H2.out.ob.frozen 1
    have g0 := H2.out.qb.frozen 0
    have g1 := H2.out.qb.frozen 1
    have k11 : w2.cell? ⟨w.heap.size + 1, 11, none⟩ = some (.bool p.clean) := H2.out.kb.cell 11
    have k20 : w2.cell? ⟨w.heap.size + 1, 20, none⟩ = some (.bool true) := (H2.out.kb.cell 20).trans (by show some (Value.bool p.hasPass) = _; rw [HPS.out])
    have k19 : w2.cell? ⟨w.heap.size + 1, 19, none⟩ = some (.bool true) := (H2.out.kb.cell 19).trans (by show some (Value.bool p.hasUser) = _; rw [HUS.out])
    have k13 : w2.cell? ⟨w.heap.size + 1, 13, none⟩ = some (.bool true) := (H2.out.kb.cell 13).trans (by show some (Value.bool p.hasWill) = _; rw [HWL.out])
    have k16 : w2.cell? ⟨w.heap.size + 1, 16, none⟩ = some (.int .i64 p.wq) := H2.out.kb.cell 16
    have k17 : w2.cell? ⟨w.heap.size + 1, 17, none⟩ = some (.bool p.wr) := H2.out.kb.cell 17
    go_wp2_with fail
    (with_reducible refine (rbit_any p.clean 2 _).mono ?_)
    rintro e w0 ⟨rfl, rfl⟩
    go_wp2_with fail
    (with_reducible refine (rbit_any true 64 _).mono ?_)
    rintro e w0 ⟨rfl, rfl⟩
    go_wp2_with fail
    (with_reducible refine (rbit_any true 128 _).mono ?_)
    rintro e w0 ⟨rfl, rfl⟩
    have K3 := Lib.hid (H2.out.put o2)
    have C3 := Lib.hid (fun (X : World) (hX : Below w.heap.size w X) => rqos_any o2 p.wq X (by omega))
    go_wp2_with fail
    (with_reducible refine (C3.out _ K3.out.below).mono ?_)
    rintro e w3 ⟨rfl, b3⟩
    have H3 := Lib.hid (K3.out.step b3)
    obtain ⟨o3, e3⟩ : ∃ x, wQos o2 p.wq = x := ⟨_, rfl⟩
    have s3 : o3.s.size ≤ 1200010 := by rw [← e3]; have := qos_size o2 p.wq; omega
    have E3 := Lib.hid e3
    try rw [e3]
    clear e3 b3 p0 p1 q0 q1 f0 f1 g0 g1 k11 k20 k19 k13 k16 k17
    have p0 : w3.cell? ⟨w.heap.size, 0, none⟩ = some (.string o2.s) := H3.out.ob.cell 0
    have p1 : w3.cell? ⟨w.heap.size, 1, none⟩ = some (.int .i64 o2.c) := H3.out.ob.cell 1
    have q0 : w3.cell? ⟨w.heap.size + 2, 0, none⟩ = some (.string ⟨#[]⟩) := H3.out.qb.cell 0
    have q1 : w3.cell? ⟨w.heap.size + 2, 1, none⟩ = some (.int .i64 0) := H3.out.qb.cell 1
    have f0 := H3.out.ob.frozen 0
    have f1 := H3.out.ob.frozen 1
    have g0 := H3.out.qb.frozen 0
    have g1 := H3.out.qb.frozen 1
    have k16 : w3.cell? ⟨w.heap.size + 1, 16, none⟩ = some (.int .i64 p.wq) := H3.out.kb.cell 16
    have k17 : w3.cell? ⟨w.heap.size + 1, 17, none⟩ = some (.bool p.wr) := H3.out.kb.cell 17
    go_wp2_with fail
    (with_reducible refine (rlow_any p.wq _).mono ?_)
    rintro e w0 ⟨rfl, rfl⟩
    go_wp2_with fail
    (with_reducible refine (rbit_any p.wr 32 _).mono ?_)
    rintro e w0 ⟨rfl, rfl⟩
    have K4 := Lib.hid (H3.out.put o3)
    have C4 := Lib.hid (fun (X : World) (hX : Below w.heap.size w X) => refnumber_any o3 1 ((bt1 p.clean 2 + bt1 true 64 + bt1 true 128) + 4 + 8 * (p.wq % 4) + bt1 p.wr 32) X (by omega) (by decide))
    go_wp2_with fail
    (with_reducible refine (C4.out _ K4.out.below).mono ?_)
    rintro e w4 ⟨rfl, b4⟩
    have H4 := Lib.hid (K4.out.step b4)
    obtain ⟨o4, e4⟩ : ∃ x, wNum 1 o3 ((bt1 p.clean 2 + bt1 true 64 + bt1 true 128) + 4 + 8 * (p.wq % 4) + bt1 p.wr 32) = x := ⟨_, rfl⟩
    have s4 : o4.s.size ≤ 1200020 := by rw [← e4]; have := num_size 1 o3 ((bt1 p.clean 2 + bt1 true 64 + bt1 true 128) + 4 + 8 * (p.wq % 4) + bt1 p.wr 32); have : (1 : Int).toNat = 1 := rfl; omega
    have E4 := Lib.hid e4
    try rw [e4]
    clear e4 b4 p0 p1 q0 q1 f0 f1 g0 g1 k16 k17
    have p0 : w4.cell? ⟨w.heap.size, 0, none⟩ = some (.string o3.s) := H4.out.ob.cell 0
    have p1 : w4.cell? ⟨w.heap.size, 1, none⟩ = some (.int .i64 o3.c) := H4.out.ob.cell 1
    have q0 : w4.cell? ⟨w.heap.size + 2, 0, none⟩ = some (.string ⟨#[]⟩) := H4.out.qb.cell 0
    have q1 : w4.cell? ⟨w.heap.size + 2, 1, none⟩ = some (.int .i64 0) := H4.out.qb.cell 1
    have f0 := H4.out.ob.frozen 0
    have f1 := H4.out.ob.frozen 1
    have g0 := H4.out.qb.frozen 0
    have g1 := H4.out.qb.frozen 1
    have k12 : w4.cell? ⟨w.heap.size + 1, 12, none⟩ = some (.int .i64 p.keep) := H4.out.kb.cell 12
    have K5 := Lib.hid (H4.out.put o4)
    have C5 := Lib.hid (fun (X : World) (hX : Below w.heap.size w X) => refnumber_any o4 2 p.keep X (by omega) (by decide))
    go_wp2_with fail
    (with_reducible refine (C5.out _ K5.out.below).mono ?_)
    rintro e w5 ⟨rfl, b5⟩
    have H5 := Lib.hid (K5.out.step b5)
    obtain ⟨o5, e5⟩ : ∃ x, wNum 2 o4 p.keep = x := ⟨_, rfl⟩
    have s5 : o5.s.size ≤ 1200030 := by rw [← e5]; have := num_size 2 o4 p.keep; have : (2 : Int).toNat = 2 := rfl; omega
    have E5 := Lib.hid e5
    try rw [e5]
    clear e5 b5 p0 p1 q0 q1 f0 f1 g0 g1 k12
    have p0 : w5.cell? ⟨w.heap.size, 0, none⟩ = some (.string o4.s) := H5.out.ob.cell 0
    have p1 : w5.cell? ⟨w.heap.size, 1, none⟩ = some (.int .i64 o4.c) := H5.out.ob.cell 1
    have q0 : w5.cell? ⟨w.heap.size + 2, 0, none⟩ = some (.string ⟨#[]⟩) := H5.out.qb.cell 0
    have q1 : w5.cell? ⟨w.heap.size + 2, 1, none⟩ = some (.int .i64 0) := H5.out.qb.cell 1
    have f0 := H5.out.ob.frozen 0
    have f1 := H5.out.ob.frozen 1
    have g0 := H5.out.qb.frozen 0
    have g1 := H5.out.qb.frozen 1
    have k9 : w5.cell? ⟨w.heap.size + 1, 9, none⟩ = some (.slice m.p.A m.p.n m.p.cap) := H5.out.kb.cell 9
    have K6 := Lib.hid (H5.out.put o5)
    have C6 := Lib.hid (fun (X : World) (hX : Below w.heap.size w X) => rprops_any o5 1 m.p.A m.p.n m.p.cap p.ps X HP.out.pn HP.out.pc (by have := HP.out.fits.ps.1; have := HP.out.pn; omega) (HP.out.pr.below hX) HP.out.fits.ps.2 (by omega))
    go_wp2_with fail
    (with_reducible refine (C6.out _ K6.out.below).mono ?_)
    rintro e w6 ⟨rfl, b6⟩
    have H6 := Lib.hid (K6.out.step b6)
    obtain ⟨o6, e6⟩ : ∃ x, wProps 1 o5 p.ps = x := ⟨_, rfl⟩
    have s6 : o6.s.size ≤ 9700000 := by rw [← e6]; have := props_size 1 o5 p.ps; omega
    have E6 := Lib.hid e6
    try rw [e6]
    clear e6 b6 p0 p1 q0 q1 f0 f1 g0 g1 k9
    have p0 : w6.cell? ⟨w.heap.size, 0, none⟩ = some (.string o5.s) := H6.out.ob.cell 0
    have p1 : w6.cell? ⟨w.heap.size, 1, none⟩ = some (.int .i64 o5.c) := H6.out.ob.cell 1
    have q0 : w6.cell? ⟨w.heap.size + 2, 0, none⟩ = some (.string ⟨#[]⟩) := H6.out.qb.cell 0
    have q1 : w6.cell? ⟨w.heap.size + 2, 1, none⟩ = some (.int .i64 0) := H6.out.qb.cell 1
    have f0 := H6.out.ob.frozen 0
    have f1 := H6.out.ob.frozen 1
    have g0 := H6.out.qb.frozen 0
    have g1 := H6.out.qb.frozen 1
    have k10 : w6.cell? ⟨w.heap.size + 1, 10, none⟩ = some (.string p.client) := H6.out.kb.cell 10
    have K7 := Lib.hid (H6.out.put o6)
    have C7 := Lib.hid (fun (X : World) (hX : Below w.heap.size w X) => reftext_any o6 p.client X (by omega) (by have := HP.out.fits.client; omega))
    go_wp2_with fail
    (with_reducible refine (C7.out _ K7.out.below).mono ?_)
    rintro e w7 ⟨rfl, b7⟩
    have H7 := Lib.hid (K7.out.step b7)
    obtain ⟨o7, e7⟩ : ∃ x, wText o6 p.client = x := ⟨_, rfl⟩
    have s7 : o7.s.size ≤ 9800000 := by rw [← e7]; have := text_size o6 p.client; omega
    have E7 := Lib.hid e7
    try rw [e7]
    clear e7 b7 p0 p1 q0 q1 f0 f1 g0 g1 k10
    have p0 : w7.cell? ⟨w.heap.size, 0, none⟩ = some (.string o6.s) := H7.out.ob.cell 0
    have p1 : w7.cell? ⟨w.heap.size, 1, none⟩ = some (.int .i64 o6.c) := H7.out.ob.cell 1
    have q0 : w7.cell? ⟨w.heap.size + 2, 0, none⟩ = some (.string ⟨#[]⟩) := H7.out.qb.cell 0
    have q1 : w7.cell? ⟨w.heap.size + 2, 1, none⟩ = some (.int .i64 0) := H7.out.qb.cell 1
    have f0 := H7.out.ob.frozen 0
    have f1 := H7.out.ob.frozen 1
    have g0 := H7.out.qb.frozen 0
    have g1 := H7.out.qb.frozen 1
    have k13 : w7.cell? ⟨w.heap.size + 1, 13, none⟩ = some (.bool true) := (H7.out.kb.cell 13).trans (by show some (Value.bool p.hasWill) = _; rw [HWL.out])
    have k18 : w7.cell? ⟨w.heap.size + 1, 18, none⟩ = some (.slice m.w.A m.w.n m.w.cap) := H7.out.kb.cell 18
    have k19 : w7.cell? ⟨w.heap.size + 1, 19, none⟩ = some (.bool true) := (H7.out.kb.cell 19).trans (by show some (Value.bool p.hasUser) = _; rw [HUS.out])
    have k20 : w7.cell? ⟨w.heap.size + 1, 20, none⟩ = some (.bool true) := (H7.out.kb.cell 20).trans (by show some (Value.bool p.hasPass) = _; rw [HPS.out])
    have k21 : w7.cell? ⟨w.heap.size + 1, 21, none⟩ = some (.string p.user) := H7.out.kb.cell 21
    have k22 : w7.cell? ⟨w.heap.size + 1, 22, none⟩ = some (.string p.pass) := H7.out.kb.cell 22
    have K8 := Lib.hid (H7.out.put o7)
    have C8 := Lib.hid (fun (X : World) (hX : Below w.heap.size w X) => rprops_any o7 0 m.w.A m.w.n m.w.cap p.wps X HP.out.wn HP.out.wc (by have := HP.out.fits.wps.1; have := HP.out.wn; omega) (HP.out.wr.below hX) HP.out.fits.wps.2 (by omega))
    go_wp2_with fail
    (with_reducible refine (C8.out _ K8.out.below).mono ?_)
    rintro e w8 ⟨rfl, b8⟩
    have H8 := Lib.hid (K8.out.step b8)
    obtain ⟨o8, e8⟩ : ∃ x, wProps 0 o7 p.wps = x := ⟨_, rfl⟩
    have s8 : o8.s.size ≤ 18500000 := by rw [← e8]; have := props_size 0 o7 p.wps; omega
    have E8 := Lib.hid e8
    try rw [e8]
    clear e8 b8 p0 p1 q0 q1 f0 f1 g0 g1 k13 k18 k19 k20 k21 k22
    have p0 : w8.cell? ⟨w.heap.size, 0, none⟩ = some (.string o7.s) := H8.out.ob.cell 0
    have p1 : w8.cell? ⟨w.heap.size, 1, none⟩ = some (.int .i64 o7.c) := H8.out.ob.cell 1
    have q0 : w8.cell? ⟨w.heap.size + 2, 0, none⟩ = some (.string ⟨#[]⟩) := H8.out.qb.cell 0
    have q1 : w8.cell? ⟨w.heap.size + 2, 1, none⟩ = some (.int .i64 0) := H8.out.qb.cell 1
    have f0 := H8.out.ob.frozen 0
    have f1 := H8.out.ob.frozen 1
    have g0 := H8.out.qb.frozen 0
    have g1 := H8.out.qb.frozen 1
    have k14 : w8.cell? ⟨w.heap.size + 1, 14, none⟩ = some (.string p.wt) := H8.out.kb.cell 14
    have K9 := Lib.hid (H8.out.put o8)
    have C9 := Lib.hid (fun (X : World) (hX : Below w.heap.size w X) => reftext_any o8 p.wt X (by omega) (by have := HP.out.fits.wt; omega))
    go_wp2_with fail
    (with_reducible refine (C9.out _ K9.out.below).mono ?_)
    rintro e w9 ⟨rfl, b9⟩
    have H9 := Lib.hid (K9.out.step b9)
    obtain ⟨o9, e9⟩ : ∃ x, wText o8 p.wt = x := ⟨_, rfl⟩
    have s9 : o9.s.size ≤ 18600000 := by rw [← e9]; have := text_size o8 p.wt; omega
    have E9 := Lib.hid e9
    try rw [e9]
    clear e9 b9 p0 p1 q0 q1 f0 f1 g0 g1 k14
    have p0 : w9.cell? ⟨w.heap.size, 0, none⟩ = some (.string o8.s) := H9.out.ob.cell 0
    have p1 : w9.cell? ⟨w.heap.size, 1, none⟩ = some (.int .i64 o8.c) := H9.out.ob.cell 1
    have q0 : w9.cell? ⟨w.heap.size + 2, 0, none⟩ = some (.string ⟨#[]⟩) := H9.out.qb.cell 0
    have q1 : w9.cell? ⟨w.heap.size + 2, 1, none⟩ = some (.int .i64 0) := H9.out.qb.cell 1
    have f0 := H9.out.ob.frozen 0
    have f1 := H9.out.ob.frozen 1
    have g0 := H9.out.qb.frozen 0
    have g1 := H9.out.qb.frozen 1
    have k15 : w9.cell? ⟨w.heap.size + 1, 15, none⟩ = some (.string p.wp) := H9.out.kb.cell 15
    have K10 := Lib.hid (H9.out.put o9)
    have C10 := Lib.hid (fun (X : World) (hX : Below w.heap.size w X) => refpdata_any o9 p.wp X (by omega) (by have := HP.out.fits.wp; omega))
    go_wp2_with fail
    (with_reducible refine (C10.out _ K10.out.below).mono ?_)
    rintro e w10 ⟨rfl, b10⟩
    have H10 := Lib.hid (K10.out.step b10)
    obtain ⟨o10, e10⟩ : ∃ x, wData o9 p.wp = x := ⟨_, rfl⟩
    have s10 : o10.s.size ≤ 18700000 := by rw [← e10]; have := data_size o9 p.wp; omega
    have E10 := Lib.hid e10
    try rw [e10]
    clear e10 b10 p0 p1 q0 q1 f0 f1 g0 g1 k15
    have p0 : w10.cell? ⟨w.heap.size, 0, none⟩ = some (.string o9.s) := H10.out.ob.cell 0
    have p1 : w10.cell? ⟨w.heap.size, 1, none⟩ = some (.int .i64 o9.c) := H10.out.ob.cell 1
    have q0 : w10.cell? ⟨w.heap.size + 2, 0, none⟩ = some (.string ⟨#[]⟩) := H10.out.qb.cell 0
    have q1 : w10.cell? ⟨w.heap.size + 2, 1, none⟩ = some (.int .i64 0) := H10.out.qb.cell 1
    have f0 := H10.out.ob.frozen 0
    have f1 := H10.out.ob.frozen 1
    have g0 := H10.out.qb.frozen 0
    have g1 := H10.out.qb.frozen 1
    have k19 : w10.cell? ⟨w.heap.size + 1, 19, none⟩ = some (.bool true) := (H10.out.kb.cell 19).trans (by show some (Value.bool p.hasUser) = _; rw [HUS.out])
    have k20 : w10.cell? ⟨w.heap.size + 1, 20, none⟩ = some (.bool true) := (H10.out.kb.cell 20).trans (by show some (Value.bool p.hasPass) = _; rw [HPS.out])
    have k21 : w10.cell? ⟨w.heap.size + 1, 21, none⟩ = some (.string p.user) := H10.out.kb.cell 21
    have k22 : w10.cell? ⟨w.heap.size + 1, 22, none⟩ = some (.string p.pass) := H10.out.kb.cell 22
    have K11 := Lib.hid (H10.out.put o10)
    have C11 := Lib.hid (fun (X : World) (hX : Below w.heap.size w X) => reftext_any o10 p.user X (by omega) (by have := HP.out.fits.user; omega))
    go_wp2_with fail
    (with_reducible refine (C11.out _ K11.out.below).mono ?_)
    rintro e w11 ⟨rfl, b11⟩
    have H11 := Lib.hid (K11.out.step b11)
    obtain ⟨o11, e11⟩ : ∃ x, wText o10 p.user = x := ⟨_, rfl⟩
    have s11 : o11.s.size ≤ 18800000 := by rw [← e11]; have := text_size o10 p.user; omega
    have E11 := Lib.hid e11
    try rw [e11]
    clear e11 b11 p0 p1 q0 q1 f0 f1 g0 g1 k19 k20 k21 k22
    have p0 : w11.cell? ⟨w.heap.size, 0, none⟩ = some (.string o10.s) := H11.out.ob.cell 0
    have p1 : w11.cell? ⟨w.heap.size, 1, none⟩ = some (.int .i64 o10.c) := H11.out.ob.cell 1
    have q0 : w11.cell? ⟨w.heap.size + 2, 0, none⟩ = some (.string ⟨#[]⟩) := H11.out.qb.cell 0
    have q1 : w11.cell? ⟨w.heap.size + 2, 1, none⟩ = some (.int .i64 0) := H11.out.qb.cell 1
    have f0 := H11.out.ob.frozen 0
    have f1 := H11.out.ob.frozen 1
    have g0 := H11.out.qb.frozen 0
    have g1 := H11.out.qb.frozen 1
    have k20 : w11.cell? ⟨w.heap.size + 1, 20, none⟩ = some (.bool true) := (H11.out.kb.cell 20).trans (by show some (Value.bool p.hasPass) = _; rw [HPS.out])
    have k22 : w11.cell? ⟨w.heap.size + 1, 22, none⟩ = some (.string p.pass) := H11.out.kb.cell 22
    have K12 := Lib.hid (H11.out.put o11)
    have C12 := Lib.hid (fun (X : World) (hX : Below w.heap.size w X) => refpdata_any o11 p.pass X (by omega) (by have := HP.out.fits.pass; omega))
    go_wp2_with fail
    (with_reducible refine (C12.out _ K12.out.below).mono ?_)
    rintro e w12 ⟨rfl, b12⟩
    have H12 := Lib.hid (K12.out.step b12)
    obtain ⟨o12, e12⟩ : ∃ x, wData o11 p.pass = x := ⟨_, rfl⟩
    have s12 : o12.s.size ≤ 18900000 := by rw [← e12]; have := data_size o11 p.pass; omega
    have E12 := Lib.hid e12
    try rw [e12]
    clear e12 b12 p0 p1 q0 q1 f0 f1 g0 g1 k20 k22
    have p0 : w12.cell? ⟨w.heap.size, 0, none⟩ = some (.string o11.s) := H12.out.ob.cell 0
    have p1 : w12.cell? ⟨w.heap.size, 1, none⟩ = some (.int .i64 o11.c) := H12.out.ob.cell 1
    have q0 : w12.cell? ⟨w.heap.size + 2, 0, none⟩ = some (.string ⟨#[]⟩) := H12.out.qb.cell 0
    have q1 : w12.cell? ⟨w.heap.size + 2, 1, none⟩ = some (.int .i64 0) := H12.out.qb.cell 1
    have f0 := H12.out.ob.frozen 0
    have f1 := H12.out.ob.frozen 1
    have g0 := H12.out.qb.frozen 0
    have g1 := H12.out.qb.frozen 1
    go_wp2
    refine bodyPost_ret (v := .agg #[.string o12.s, .int .i64 o12.c]) (by simp [results, Tryd.results41, go_sem, q0, q1]) rfl ?_
    have e : wConnect o p = o12 := by
      unfold wConnect cPass cUser cWill cHead
      rw [HWL.out, HUS.out, HPS.out]
      simp only [if_true]
      rw [show name5 = ⟨#[77, 81, 84, 84]⟩ from rfl, show cFlags p = ((bt1 p.clean 2 + bt1 true 64 + bt1 true 128) + 4 + 8 * (p.wq % 4) + bt1 p.wr 32) from by unfold cFlags; rw [HWL.out, HUS.out, HPS.out]; simp; omega, E1.out, E2.out, E3.out, E4.out, E5.out, E6.out, E7.out, E8.out, E9.out, E10.out, E11.out, E12.out]
    rw [e]
    exact ⟨rfl, ((((H12.out.below.setCell (Nat.le_refl _) _).setCell (Nat.le_refl _) _).setCell (Nat.le_add_right _ 2) _).setCell (Nat.le_add_right _ 2) _)⟩
set_option maxRecDepth 100000 in
set_option maxHeartbeats 8000000 in
theorem rconnect_tf (o : Ot) (p : Pk) (m : Hs) (w : World) (hP : PkIn .i64 w p m) (hs : o.s.size ≤ 1048576) (hwl : p.hasWill = true) (hus : p.hasUser = false) :
    Calls Tryd.prog 41 #[.agg #[.string o.s, .int .i64 o.c], pkV .i64 p m] w fun e w' => RPost (wConnect o p) w w' e := by
  have h0 := Rq.new w o p m
  obtain ⟨W, hW⟩ : ∃ W, ((w.alloc (.cells #[.string o.s, .int .i64 o.c] 81)).alloc (.cells (pkA .i64 p m) 45)).alloc (.cells #[.string ⟨#[]⟩, .int .i64 0] 81) = W := ⟨_, rfl⟩
  rw [hW] at h0
  unfold pkA at hW
  have H0 := Lib.hid h0
  have HP := Lib.hid hP
  have hpn := hP.pn
  unfold pkV pkA
  rcases (by cases p.hasPass <;> simp : p.hasPass = false ∨ p.hasPass = true) with hps | hps
  · have HWL : Hid (p.hasWill = true) := Lib.hid hwl
    have HUS : Hid (p.hasUser = false) := Lib.hid hus
    have HPS : Hid (p.hasPass = false) := Lib.hid hps
    have a1 := bt1_bd' p.clean 2 (by decide)
    have a2 := bt1_bd' false 64 (by decide)
    have a3 := bt1_bd' false 128 (by decide)
    have a4 := bt1_bd' p.wr 32 (by decide)
    have a5 := Int.emod_nonneg p.wq (show (4 : Int) ≠ 0 by decide)
    have a6 := Int.emod_lt_of_pos p.wq (show (0 : Int) < 4 by decide)
    have r0 : IntKind.i64.wrap (bt1 p.clean 2 + bt1 false 64) = bt1 p.clean 2 + bt1 false 64 := IntWalk.i64_in _ (by omega)
    have r1 : IntKind.i64.wrap (bt1 p.clean 2 + bt1 false 64 + bt1 false 128) = bt1 p.clean 2 + bt1 false 64 + bt1 false 128 := IntWalk.i64_in _ (by omega)
    have r2 : IntKind.i64.wrap (bt1 p.clean 2 + bt1 false 64 + bt1 false 128 + 4) = bt1 p.clean 2 + bt1 false 64 + bt1 false 128 + 4 := IntWalk.i64_in _ (by omega)
    have r3 : IntKind.i64.wrap (8 * (p.wq % 4)) = 8 * (p.wq % 4) := IntWalk.i64_in _ (by omega)
    have r4 : IntKind.i64.wrap (bt1 p.clean 2 + bt1 false 64 + bt1 false 128 + 4 + 8 * (p.wq % 4)) = bt1 p.clean 2 + bt1 false 64 + bt1 false 128 + 4 + 8 * (p.wq % 4) := IntWalk.i64_in _ (by omega)
    have r5 : IntKind.i64.wrap (bt1 p.clean 2 + bt1 false 64 + bt1 false 128 + 4 + 8 * (p.wq % 4) + bt1 p.wr 32) = bt1 p.clean 2 + bt1 false 64 + bt1 false 128 + 4 + 8 * (p.wq % 4) + bt1 p.wr 32 := IntWalk.i64_in _ (by omega)
    rw [hwl, hus, hps] at hW ⊢
    clear hwl hus hps a1 a2 a3 a4 a5 a6 hP
    have p0 : W.cell? ⟨w.heap.size, 0, none⟩ = some (.string o.s) := H0.out.ob.cell 0
    have p1 : W.cell? ⟨w.heap.size, 1, none⟩ = some (.int .i64 o.c) := H0.out.ob.cell 1
    have q0 : W.cell? ⟨w.heap.size + 2, 0, none⟩ = some (.string ⟨#[]⟩) := H0.out.qb.cell 0
    have q1 : W.cell? ⟨w.heap.size + 2, 1, none⟩ = some (.int .i64 0) := H0.out.qb.cell 1
    have f0 := H0.out.ob.frozen 0
    have f1 := H0.out.ob.frozen 1
    have g0 := H0.out.qb.frozen 0
    have g1 := H0.out.qb.frozen 1
    clear h0
    go_enter Tryd.func41, Tryd.ntmps41
    have C1 := Lib.hid (fun (X : World) (hX : Below w.heap.size w X) => reftext_any o ⟨#[77, 81, 84, 84]⟩ X (by omega) (by decide))
    go_wp2_with fail
    (with_reducible refine (C1.out _ H0.out.below).mono ?_)
    rintro e w1 ⟨rfl, b1⟩
    have H1 := Lib.hid (H0.out.step b1)
    obtain ⟨o1, e1⟩ : ∃ x, wText o ⟨#[77, 81, 84, 84]⟩ = x := ⟨_, rfl⟩
    have s1 : o1.s.size ≤ 1200000 := by rw [← e1]; have := text_size o ⟨#[77, 81, 84, 84]⟩; omega
    have E1 := Lib.hid e1
    try rw [e1]
    clear e1 b1 p0 p1 q0 q1 f0 f1 g0 g1
    have p0 : w1.cell? ⟨w.heap.size, 0, none⟩ = some (.string o.s) := H1.out.ob.cell 0
    have p1 : w1.cell? ⟨w.heap.size, 1, none⟩ = some (.int .i64 o.c) := H1.out.ob.cell 1
    have q0 : w1.cell? ⟨w.heap.size + 2, 0, none⟩ = some (.string ⟨#[]⟩) := H1.out.qb.cell 0
    have q1 : w1.cell? ⟨w.heap.size + 2, 1, none⟩ = some (.int .i64 0) := H1.out.qb.cell 1
    have f0 := H1.out.ob.frozen 0
    have f1 := H1.out.ob.frozen 1
    have g0 := H1.out.qb.frozen 0
    have g1 := H1.out.qb.frozen 1
    have K2 := Lib.hid (H1.out.put o1)
    have C2 := Lib.hid (fun (X : World) (hX : Below w.heap.size w X) => refnumber_any o1 1 5 X (by omega) (by decide))
    go_wp2_with fail
    (with_reducible refine (C2.out _ K2.out.below).mono ?_)
    rintro e w2 ⟨rfl, b2⟩
    have H2 := Lib.hid (K2.out.step b2)
    obtain ⟨o2, e2⟩ : ∃ x, wNum 1 o1 5 = x := ⟨_, rfl⟩
    have s2 : o2.s.size ≤ 1200010 := by rw [← e2]; have := num_size 1 o1 5; have : (1 : Int).toNat = 1 := rfl; omega
    have E2 := Lib.hid e2
    try rw [e2]
    clear e2 b2 p0 p1 q0 q1 f0 f1 g0 g1
    have p0 : w2.cell? ⟨w.heap.size, 0, none⟩ = some (.string o1.s) := H2.out.ob.cell 0
    have p1 : w2.cell? ⟨w.heap.size, 1, none⟩ = some (.int .i64 o1.c) := H2.out.ob.cell 1
    have q0 : w2.cell? ⟨w.heap.size + 2, 0, none⟩ = some (.string ⟨#[]⟩) := H2.out.qb.cell 0
    have q1 : w2.cell? ⟨w.heap.size + 2, 1, none⟩ = some (.int .i64 0) := H2.out.qb.cell 1
    have f0 := H2.out.ob.frozen 0
    have f1 := H2.out.ob.frozen 1
    have g0 := H2.out.qb.frozen 0
    have g1 := H2.out.qb.frozen 1
    have k11 : w2.cell? ⟨w.heap.size + 1, 11, none⟩ = some (.bool p.clean) := H2.out.kb.cell 11
    have k20 : w2.cell? ⟨w.heap.size + 1, 20, none⟩ = some (.bool false) := (H2.out.kb.cell 20).trans (by show some (Value.bool p.hasPass) = _; rw [HPS.out])
    have k19 : w2.cell? ⟨w.heap.size + 1, 19, none⟩ = some (.bool false) := (H2.out.kb.cell 19).trans (by show some (Value.bool p.hasUser) = _; rw [HUS.out])
    have k13 : w2.cell? ⟨w.heap.size + 1, 13, none⟩ = some (.bool true) := (H2.out.kb.cell 13).trans (by show some (Value.bool p.hasWill) = _; rw [HWL.out])
    have k16 : w2.cell? ⟨w.heap.size + 1, 16, none⟩ = some (.int .i64 p.wq) := H2.out.kb.cell 16
    have k17 : w2.cell? ⟨w.heap.size + 1, 17, none⟩ = some (.bool p.wr) := H2.out.kb.cell 17
    go_wp2_with fail
    (with_reducible refine (rbit_any p.clean 2 _).mono ?_)
    rintro e w0 ⟨rfl, rfl⟩
    go_wp2_with fail
    (with_reducible refine (rbit_any false 64 _).mono ?_)
    rintro e w0 ⟨rfl, rfl⟩
    go_wp2_with fail
    (with_reducible refine (rbit_any false 128 _).mono ?_)
    rintro e w0 ⟨rfl, rfl⟩
    have K3 := Lib.hid (H2.out.put o2)
    have C3 := Lib.hid (fun (X : World) (hX : Below w.heap.size w X) => rqos_any o2 p.wq X (by omega))
    go_wp2_with fail
    (with_reducible refine (C3.out _ K3.out.below).mono ?_)
    rintro e w3 ⟨rfl, b3⟩
    have H3 := Lib.hid (K3.out.step b3)
    obtain ⟨o3, e3⟩ : ∃ x, wQos o2 p.wq = x := ⟨_, rfl⟩
    have s3 : o3.s.size ≤ 1200010 := by rw [← e3]; have := qos_size o2 p.wq; omega
    have E3 := Lib.hid e3
    try rw [e3]
    clear e3 b3 p0 p1 q0 q1 f0 f1 g0 g1 k11 k20 k19 k13 k16 k17
    have p0 : w3.cell? ⟨w.heap.size, 0, none⟩ = some (.string o2.s) := H3.out.ob.cell 0
    have p1 : w3.cell? ⟨w.heap.size, 1, none⟩ = some (.int .i64 o2.c) := H3.out.ob.cell 1
    have q0 : w3.cell? ⟨w.heap.size + 2, 0, none⟩ = some (.string ⟨#[]⟩) := H3.out.qb.cell 0
    have q1 : w3.cell? ⟨w.heap.size + 2, 1, none⟩ = some (.int .i64 0) := H3.out.qb.cell 1
    have f0 := H3.out.ob.frozen 0
    have f1 := H3.out.ob.frozen 1
    have g0 := H3.out.qb.frozen 0
    have g1 := H3.out.qb.frozen 1
    have k16 : w3.cell? ⟨w.heap.size + 1, 16, none⟩ = some (.int .i64 p.wq) := H3.out.kb.cell 16
    have k17 : w3.cell? ⟨w.heap.size + 1, 17, none⟩ = some (.bool p.wr) := H3.out.kb.cell 17
    go_wp2_with fail
    (with_reducible refine (rlow_any p.wq _).mono ?_)
    rintro e w0 ⟨rfl, rfl⟩
    go_wp2_with fail
    (with_reducible refine (rbit_any p.wr 32 _).mono ?_)
    rintro e w0 ⟨rfl, rfl⟩
    have K4 := Lib.hid (H3.out.put o3)
    have C4 := Lib.hid (fun (X : World) (hX : Below w.heap.size w X) => refnumber_any o3 1 ((bt1 p.clean 2 + bt1 false 64 + bt1 false 128) + 4 + 8 * (p.wq % 4) + bt1 p.wr 32) X (by omega) (by decide))
    go_wp2_with fail
    (with_reducible refine (C4.out _ K4.out.below).mono ?_)
    rintro e w4 ⟨rfl, b4⟩
    have H4 := Lib.hid (K4.out.step b4)
    obtain ⟨o4, e4⟩ : ∃ x, wNum 1 o3 ((bt1 p.clean 2 + bt1 false 64 + bt1 false 128) + 4 + 8 * (p.wq % 4) + bt1 p.wr 32) = x := ⟨_, rfl⟩
    have s4 : o4.s.size ≤ 1200020 := by rw [← e4]; have := num_size 1 o3 ((bt1 p.clean 2 + bt1 false 64 + bt1 false 128) + 4 + 8 * (p.wq % 4) + bt1 p.wr 32); have : (1 : Int).toNat = 1 := rfl; omega
    have E4 := Lib.hid e4
    try rw [e4]
    clear e4 b4 p0 p1 q0 q1 f0 f1 g0 g1 k16 k17
    have p0 : w4.cell? ⟨w.heap.size, 0, none⟩ = some (.string o3.s) := H4.out.ob.cell 0
    have p1 : w4.cell? ⟨w.heap.size, 1, none⟩ = some (.int .i64 o3.c) := H4.out.ob.cell 1
    have q0 : w4.cell? ⟨w.heap.size + 2, 0, none⟩ = some (.string ⟨#[]⟩) := H4.out.qb.cell 0
    have q1 : w4.cell? ⟨w.heap.size + 2, 1, none⟩ = some (.int .i64 0) := H4.out.qb.cell 1
    have f0 := H4.out.ob.frozen 0
    have f1 := H4.out.ob.frozen 1
    have g0 := H4.out.qb.frozen 0
    have g1 := H4.out.qb.frozen 1
    have k12 : w4.cell? ⟨w.heap.size + 1, 12, none⟩ = some (.int .i64 p.keep) := H4.out.kb.cell 12
    have K5 := Lib.hid (H4.out.put o4)
    have C5 := Lib.hid (fun (X : World) (hX : Below w.heap.size w X) => refnumber_any o4 2 p.keep X (by omega) (by decide))
    go_wp2_with fail
    (with_reducible refine (C5.out _ K5.out.below).mono ?_)
    rintro e w5 ⟨rfl, b5⟩
    have H5 := Lib.hid (K5.out.step b5)
    obtain ⟨o5, e5⟩ : ∃ x, wNum 2 o4 p.keep = x := ⟨_, rfl⟩
    have s5 : o5.s.size ≤ 1200030 := by rw [← e5]; have := num_size 2 o4 p.keep; have : (2 : Int).toNat = 2 := rfl; omega
    have E5 := Lib.hid e5
    try rw [e5]
    clear e5 b5 p0 p1 q0 q1 f0 f1 g0 g1 k12
    have p0 : w5.cell? ⟨w.heap.size, 0, none⟩ = some (.string o4.s) := H5.out.ob.cell 0
    have p1 : w5.cell? ⟨w.heap.size, 1, none⟩ = some (.int .i64 o4.c) := H5.out.ob.cell 1
    have q0 : w5.cell? ⟨w.heap.size + 2, 0, none⟩ = some (.string ⟨#[]⟩) := H5.out.qb.cell 0
    have q1 : w5.cell? ⟨w.heap.size + 2, 1, none⟩ = some (.int .i64 0) := H5.out.qb.cell 1
    have f0 := H5.out.ob.frozen 0
    have f1 := H5.out.ob.frozen 1
    have g0 := H5.out.qb.frozen 0
    have g1 := H5.out.qb.frozen 1
    have k9 : w5.cell? ⟨w.heap.size + 1, 9, none⟩ = some (.slice m.p.A m.p.n m.p.cap) := H5.out.kb.cell 9
    have K6 := Lib.hid (H5.out.put o5)
    have C6 := Lib.hid (fun (X : World) (hX : Below w.heap.size w X) => rprops_any o5 1 m.p.A m.p.n m.p.cap p.ps X HP.out.pn HP.out.pc (by have := HP.out.fits.ps.1; have := HP.out.pn; omega) (HP.out.pr.below hX) HP.out.fits.ps.2 (by omega))
    go_wp2_with fail
    (with_reducible refine (C6.out _ K6.out.below).mono ?_)
    rintro e w6 ⟨rfl, b6⟩
    have H6 := Lib.hid (K6.out.step b6)
    obtain ⟨o6, e6⟩ : ∃ x, wProps 1 o5 p.ps = x := ⟨_, rfl⟩
    have s6 : o6.s.size ≤ 9700000 := by rw [← e6]; have := props_size 1 o5 p.ps; omega
    have E6 := Lib.hid e6
    try rw [e6]
    clear e6 b6 p0 p1 q0 q1 f0 f1 g0 g1 k9
    have p0 : w6.cell? ⟨w.heap.size, 0, none⟩ = some (.string o5.s) := H6.out.ob.cell 0
    have p1 : w6.cell? ⟨w.heap.size, 1, none⟩ = some (.int .i64 o5.c) := H6.out.ob.cell 1
    have q0 : w6.cell? ⟨w.heap.size + 2, 0, none⟩ = some (.string ⟨#[]⟩) := H6.out.qb.cell 0
    have q1 : w6.cell? ⟨w.heap.size + 2, 1, none⟩ = some (.int .i64 0) := H6.out.qb.cell 1
    have f0 := H6.out.ob.frozen 0
    have f1 := H6.out.ob.frozen 1
    have g0 := H6.out.qb.frozen 0
    have g1 := H6.out.qb.frozen 1
    have k10 : w6.cell? ⟨w.heap.size + 1, 10, none⟩ = some (.string p.client) := H6.out.kb.cell 10
    have K7 := Lib.hid (H6.out.put o6)
    have C7 := Lib.hid (fun (X : World) (hX : Below w.heap.size w X) => reftext_any o6 p.client X (by omega) (by have := HP.out.fits.client; omega))
    go_wp2_with fail
    (with_reducible refine (C7.out _ K7.out.below).mono ?_)
    rintro e w7 ⟨rfl, b7⟩
    have H7 := Lib.hid (K7.out.step b7)
    obtain ⟨o7, e7⟩ : ∃ x, wText o6 p.client = x := ⟨_, rfl⟩
    have s7 : o7.s.size ≤ 9800000 := by rw [← e7]; have := text_size o6 p.client; omega
    have E7 := Lib.hid e7
    try rw [e7]
    clear e7 b7 p0 p1 q0 q1 f0 f1 g0 g1 k10
    have p0 : w7.cell? ⟨w.heap.size, 0, none⟩ = some (.string o6.s) := H7.out.ob.cell 0
    have p1 : w7.cell? ⟨w.heap.size, 1, none⟩ = some (.int .i64 o6.c) := H7.out.ob.cell 1
    have q0 : w7.cell? ⟨w.heap.size + 2, 0, none⟩ = some (.string ⟨#[]⟩) := H7.out.qb.cell 0
    have q1 : w7.cell? ⟨w.heap.size + 2, 1, none⟩ = some (.int .i64 0) := H7.out.qb.cell 1
    have f0 := H7.out.ob.frozen 0
    have f1 := H7.out.ob.frozen 1
    have g0 := H7.out.qb.frozen 0
    have g1 := H7.out.qb.frozen 1
    have k13 : w7.cell? ⟨w.heap.size + 1, 13, none⟩ = some (.bool true) := (H7.out.kb.cell 13).trans (by show some (Value.bool p.hasWill) = _; rw [HWL.out])
    have k18 : w7.cell? ⟨w.heap.size + 1, 18, none⟩ = some (.slice m.w.A m.w.n m.w.cap) := H7.out.kb.cell 18
    have k19 : w7.cell? ⟨w.heap.size + 1, 19, none⟩ = some (.bool false) := (H7.out.kb.cell 19).trans (by show some (Value.bool p.hasUser) = _; rw [HUS.out])
    have k20 : w7.cell? ⟨w.heap.size + 1, 20, none⟩ = some (.bool false) := (H7.out.kb.cell 20).trans (by show some (Value.bool p.hasPass) = _; rw [HPS.out])
    have k21 : w7.cell? ⟨w.heap.size + 1, 21, none⟩ = some (.string p.user) := H7.out.kb.cell 21
    have k22 : w7.cell? ⟨w.heap.size + 1, 22, none⟩ = some (.string p.pass) := H7.out.kb.cell 22
    have K8 := Lib.hid (H7.out.put o7)
    have C8 := Lib.hid (fun (X : World) (hX : Below w.heap.size w X) => rprops_any o7 0 m.w.A m.w.n m.w.cap p.wps X HP.out.wn HP.out.wc (by have := HP.out.fits.wps.1; have := HP.out.wn; omega) (HP.out.wr.below hX) HP.out.fits.wps.2 (by omega))
    go_wp2_with fail
    (with_reducible refine (C8.out _ K8.out.below).mono ?_)
    rintro e w8 ⟨rfl, b8⟩
    have H8 := Lib.hid (K8.out.step b8)
    obtain ⟨o8, e8⟩ : ∃ x, wProps 0 o7 p.wps = x := ⟨_, rfl⟩
    have s8 : o8.s.size ≤ 18500000 := by rw [← e8]; have := props_size 0 o7 p.wps; omega
    have E8 := Lib.hid e8
    try rw [e8]
    clear e8 b8 p0 p1 q0 q1 f0 f1 g0 g1 k13 k18 k19 k20 k21 k22
    have p0 : w8.cell? ⟨w.heap.size, 0, none⟩ = some (.string o7.s) := H8.out.ob.cell 0
    have p1 : w8.cell? ⟨w.heap.size, 1, none⟩ = some (.int .i64 o7.c) := H8.out.ob.cell 1
    have q0 : w8.cell? ⟨w.heap.size + 2, 0, none⟩ = some (.string ⟨#[]⟩) := H8.out.qb.cell 0
    have q1 : w8.cell? ⟨w.heap.size + 2, 1, none⟩ = some (.int .i64 0) := H8.out.qb.cell 1
    have f0 := H8.out.ob.frozen 0
    have f1 := H8.out.ob.frozen 1
    have g0 := H8.out.qb.frozen 0
    have g1 := H8.out.qb.frozen 1
    have k14 : w8.cell? ⟨w.heap.size + 1, 14, none⟩ = some (.string p.wt) := H8.out.kb.cell 14
    have K9 := Lib.hid (H8.out.put o8)
    have C9 := Lib.hid (fun (X : World) (hX : Below w.heap.size w X) => reftext_any o8 p.wt X (by omega) (by have := HP.out.fits.wt; omega))
    go_wp2_with fail
    (with_reducible refine (C9.out _ K9.out.below).mono ?_)
    rintro e w9 ⟨rfl, b9⟩
    have H9 := Lib.hid (K9.out.step b9)
    obtain ⟨o9, e9⟩ : ∃ x, wText o8 p.wt = x := ⟨_, rfl⟩
    have s9 : o9.s.size ≤ 18600000 := by rw [← e9]; have := text_size o8 p.wt; omega
    have E9 := Lib.hid e9
    try rw [e9]
    clear e9 b9 p0 p1 q0 q1 f0 f1 g0 g1 k14
    have p0 : w9.cell? ⟨w.heap.size, 0, none⟩ = some (.string o8.s) := H9.out.ob.cell 0
    have p1 : w9.cell? ⟨w.heap.size, 1, none⟩ = some (.int .i64 o8.c) := H9.out.ob.cell 1
    have q0 : w9.cell? ⟨w.heap.size + 2, 0, none⟩ = some (.string ⟨#[]⟩) := H9.out.qb.cell 0
    have q1 : w9.cell? ⟨w.heap.size + 2, 1, none⟩ = some (.int .i64 0) := H9.out.qb.cell 1
    have f0 := H9.out.ob.frozen 0
    have f1 := H9.out.ob.frozen 1
    have g0 := H9.out.qb.frozen 0
    have g1 := H9.out.qb.frozen 1
    have k15 : w9.cell? ⟨w.heap.size + 1, 15, none⟩ = some (.string p.wp) := H9.out.kb.cell 15
    have K10 := Lib.hid (H9.out.put o9)
    have C10 := Lib.hid (fun (X : World) (hX : Below w.heap.size w X) => refpdata_any o9 p.wp X (by omega) (by have := HP.out.fits.wp; omega))
    go_wp2_with fail
    (with_reducible refine (C10.out _ K10.out.below).mono ?_)
    rintro e w10 ⟨rfl, b10⟩
    have H10 := Lib.hid (K10.out.step b10)
    obtain ⟨o10, e10⟩ : ∃ x, wData o9 p.wp = x := ⟨_, rfl⟩
    have s10 : o10.s.size ≤ 18700000 := by rw [← e10]; have := data_size o9 p.wp; omega
    have E10 := Lib.hid e10
    try rw [e10]
    clear e10 b10 p0 p1 q0 q1 f0 f1 g0 g1 k15
    have p0 : w10.cell? ⟨w.heap.size, 0, none⟩ = some (.string o9.s) := H10.out.ob.cell 0
    have p1 : w10.cell? ⟨w.heap.size, 1, none⟩ = some (.int .i64 o9.c) := H10.out.ob.cell 1
    have q0 : w10.cell? ⟨w.heap.size + 2, 0, none⟩ = some (.string ⟨#[]⟩) := H10.out.qb.cell 0
    have q1 : w10.cell? ⟨w.heap.size + 2, 1, none⟩ = some (.int .i64 0) := H10.out.qb.cell 1
    have f0 := H10.out.ob.frozen 0
    have f1 := H10.out.ob.frozen 1
    have g0 := H10.out.qb.frozen 0
    have g1 := H10.out.qb.frozen 1
    have k19 : w10.cell? ⟨w.heap.size + 1, 19, none⟩ = some (.bool false) := (H10.out.kb.cell 19).trans (by show some (Value.bool p.hasUser) = _; rw [HUS.out])
    have k20 : w10.cell? ⟨w.heap.size + 1, 20, none⟩ = some (.bool false) := (H10.out.kb.cell 20).trans (by show some (Value.bool p.hasPass) = _; rw [HPS.out])
    have k21 : w10.cell? ⟨w.heap.size + 1, 21, none⟩ = some (.string p.user) := H10.out.kb.cell 21
    have k22 : w10.cell? ⟨w.heap.size + 1, 22, none⟩ = some (.string p.pass) := H10.out.kb.cell 22
    go_wp2
    refine bodyPost_ret (v := .agg #[.string o10.s, .int .i64 o10.c]) (by simp [results, Tryd.results41, go_sem, q0, q1]) rfl ?_
    have e : wConnect o p = o10 := by
      unfold wConnect cPass cUser cWill cHead
      rw [HWL.out, HUS.out, HPS.out]
      simp only [if_true, Bool.false_eq_true, if_false]
      rw [show name5 = ⟨#[77, 81, 84, 84]⟩ from rfl, show cFlags p = ((bt1 p.clean 2 + bt1 false 64 + bt1 false 128) + 4 + 8 * (p.wq % 4) + bt1 p.wr 32) from by unfold cFlags; rw [HWL.out, HUS.out, HPS.out]; simp; omega, E1.out, E2.out, E3.out, E4.out, E5.out, E6.out, E7.out, E8.out, E9.out, E10.out]
    rw [e]
    exact ⟨rfl, ((((H10.out.below.setCell (Nat.le_refl _) _).setCell (Nat.le_refl _) _).setCell (Nat.le_add_right _ 2) _).setCell (Nat.le_add_right _ 2) _)⟩
  · have HWL : Hid (p.hasWill = true) := Lib.hid hwl
    have HUS : Hid (p.hasUser = false) := Lib.hid hus
    have HPS : Hid (p.hasPass = true) := Lib.hid hps
    have a1 := bt1_bd' p.clean 2 (by decide)
    have a2 := bt1_bd' true 64 (by decide)
    have a3 := bt1_bd' false 128 (by decide)
    have a4 := bt1_bd' p.wr 32 (by decide)
    have a5 := Int.emod_nonneg p.wq (show (4 : Int) ≠ 0 by decide)
    have a6 := Int.emod_lt_of_pos p.wq (show (0 : Int) < 4 by decide)
    have r0 : IntKind.i64.wrap (bt1 p.clean 2 + bt1 true 64) = bt1 p.clean 2 + bt1 true 64 := IntWalk.i64_in _ (by omega)
    have r1 : IntKind.i64.wrap (bt1 p.clean 2 + bt1 true 64 + bt1 false 128) = bt1 p.clean 2 + bt1 true 64 + bt1 false 128 := IntWalk.i64_in _ (by omega)
    have r2 : IntKind.i64.wrap (bt1 p.clean 2 + bt1 true 64 + bt1 false 128 + 4) = bt1 p.clean 2 + bt1 true 64 + bt1 false 128 + 4 := IntWalk.i64_in _ (by omega)
    have r3 : IntKind.i64.wrap (8 * (p.wq % 4)) = 8 * (p.wq % 4) := IntWalk.i64_in _ (by omega)
    have r4 : IntKind.i64.wrap (bt1 p.clean 2 + bt1 true 64 + bt1 false 128 + 4 + 8 * (p.wq % 4)) = bt1 p.clean 2 + bt1 true 64 + bt1 false 128 + 4 + 8 * (p.wq % 4) := IntWalk.i64_in _ (by omega)
    have r5 : IntKind.i64.wrap (bt1 p.clean 2 + bt1 true 64 + bt1 false 128 + 4 + 8 * (p.wq % 4) + bt1 p.wr 32) = bt1 p.clean 2 + bt1 true 64 + bt1 false 128 + 4 + 8 * (p.wq % 4) + bt1 p.wr 32 := IntWalk.i64_in _ (by omega)
    rw [hwl, hus, hps] at hW ⊢
    clear hwl hus hps a1 a2 a3 a4 a5 a6 hP
    have p0 : W.cell? ⟨w.heap.size, 0, none⟩ = some (.string o.s) := H0.out.ob.cell 0
    have p1 : W.cell? ⟨w.heap.size, 1, none⟩ = some (.int .i64 o.c) := H0.out.ob.cell 1
    have q0 : W.cell? ⟨w.heap.size + 2, 0, none⟩ = some (.string ⟨#[]⟩) := H0.out.qb.cell 0
    have q1 : W.cell? ⟨w.heap.size + 2, 1, none⟩ = some (.int .i64 0) := H0.out.qb.cell 1
    have f0 := H0.out.ob.frozen 0
    have f1 := H0.out.ob.frozen 1
    have g0 := H0.out.qb.frozen 0
    have g1 := H0.out.qb.frozen 1
    clear h0
    go_enter Tryd.func41, Tryd.ntmps41
    have C1 := Lib.hid (fun (X : World) (hX : Below w.heap.size w X) => reftext_any o ⟨#[77, 81, 84, 84]⟩ X (by omega) (by decide))
    go_wp2_with fail
    (with_reducible refine (C1.out _ H0.out.below).mono ?_)
    rintro e w1 ⟨rfl, b1⟩
    have H1 := Lib.hid (H0.out.step b1)
    obtain ⟨o1, e1⟩ : ∃ x, wText o ⟨#[77, 81, 84, 84]⟩ = x := ⟨_, rfl⟩
    have s1 : o1.s.size ≤ 1200000 := by rw [← e1]; have := text_size o ⟨#[77, 81, 84, 84]⟩; omega
    have E1 := Lib.hid e1
    try rw [e1]
    clear e1 b1 p0 p1 q0 q1 f0 f1 g0 g1
    have p0 : w1.cell? ⟨w.heap.size, 0, none⟩ = some (.string o.s) := H1.out.ob.cell 0
    have p1 : w1.cell? ⟨w.heap.size, 1, none⟩ = some (.int .i64 o.c) := H1.out.ob.cell 1
    have q0 : w1.cell? ⟨w.heap.size + 2, 0, none⟩ = some (.string ⟨#[]⟩) := H1.out.qb.cell 0
    have q1 : w1.cell? ⟨w.heap.size + 2, 1, none⟩ = some (.int .i64 0) := H1.out.qb.cell 1
    have f0 := H1.out.ob.frozen 0
    have f1 := H1.out.ob.frozen 1
    have g0 := H1.out.qb.frozen 0
    have g1 := H1.out.qb.frozen 1
    have K2 := Lib.hid (H1.out.put o1)
    have C2 := Lib.hid (fun (X : World) (hX : Below w.heap.size w X) => refnumber_any o1 1 5 X (by omega) (by decide))
    go_wp2_with fail
    (with_reducible refine (C2.out _ K2.out.below).mono ?_)
    rintro e w2 ⟨rfl, b2⟩
    have H2 := Lib.hid (K2.out.step b2)
    obtain ⟨o2, e2⟩ : ∃ x, wNum 1 o1 5 = x := ⟨_, rfl⟩
    have s2 : o2.s.size ≤ 1200010 := by rw [← e2]; have := num_size 1 o1 5; have : (1 : Int).toNat = 1 := rfl; omega
    have E2 := Lib.hid e2
    try rw [e2]
    clear e2 b2 p0 p1 q0 q1 f0 f1 g0 g1
    have p0 : w2.cell? ⟨w.heap.size, 0, none⟩ = some (.string o1.s) := H2.out.ob.cell 0
    have p1 : w2.cell? ⟨w.heap.size, 1, none⟩ = some (.int .i64 o1.c) := H2.out.ob.cell 1
    have q0 : w2.cell? ⟨w.heap.size + 2, 0, none⟩ = some (.string ⟨#[]⟩) := H2.out.qb.cell 0
    have q1 : w2.cell? ⟨w.heap.size + 2, 1, none⟩ = some (.int .i64 0) := H2.out.qb.cell 1
    have f0 := H2.out.ob.frozen 0
    have f1 := H2.out.ob.frozen 1
    have g0 := H2.out.qb.frozen 0
    have g1 := H2.out.qb.frozen 1
    have k11 : w2.cell? ⟨w.heap.size + 1, 11, none⟩ = some (.bool p.clean) := H2.out.kb.cell 11
    have k20 : w2.cell? ⟨w.heap.size + 1, 20, none⟩ = some (.bool true) := (H2.out.kb.cell 20).trans (by show some (Value.bool p.hasPass) = _; rw [HPS.out])
    have k19 : w2.cell? ⟨w.heap.size + 1, 19, none⟩ = some (.bool false) := (H2.out.kb.cell 19).trans (by show some (Value.bool p.hasUser) = _; rw [HUS.out])
    have k13 : w2.cell? ⟨w.heap.size + 1, 13, none⟩ = some (.bool true) := (H2.out.kb.cell 13).trans (by show some (Value.bool p.hasWill) = _; rw [HWL.out])
    have k16 : w2.cell? ⟨w.heap.size + 1, 16, none⟩ = some (.int .i64 p.wq) := H2.out.kb.cell 16
    have k17 : w2.cell? ⟨w.heap.size + 1, 17, none⟩ = some (.bool p.wr) := H2.out.kb.cell 17
    go_wp2_with fail
    (with_reducible refine (rbit_any p.clean 2 _).mono ?_)
    rintro e w0 ⟨rfl, rfl⟩
    go_wp2_with fail
    (with_reducible refine (rbit_any true 64 _).mono ?_)
    rintro e w0 ⟨rfl, rfl⟩
    go_wp2_with fail
    (with_reducible refine (rbit_any false 128 _).mono ?_)
    rintro e w0 ⟨rfl, rfl⟩
    have K3 := Lib.hid (H2.out.put o2)
    have C3 := Lib.hid (fun (X : World) (hX : Below w.heap.size w X) => rqos_any o2 p.wq X (by omega))
    go_wp2_with fail
    (with_reducible refine (C3.out _ K3.out.below).mono ?_)
    rintro e w3 ⟨rfl, b3⟩
    have H3 := Lib.hid (K3.out.step b3)
    obtain ⟨o3, e3⟩ : ∃ x, wQos o2 p.wq = x := ⟨_, rfl⟩
    have s3 : o3.s.size ≤ 1200010 := by rw [← e3]; have := qos_size o2 p.wq; omega
    have E3 := Lib.hid e3
    try rw [e3]
    clear e3 b3 p0 p1 q0 q1 f0 f1 g0 g1 k11 k20 k19 k13 k16 k17
    have p0 : w3.cell? ⟨w.heap.size, 0, none⟩ = some (.string o2.s) := H3.out.ob.cell 0
    have p1 : w3.cell? ⟨w.heap.size, 1, none⟩ = some (.int .i64 o2.c) := H3.out.ob.cell 1
    have q0 : w3.cell? ⟨w.heap.size + 2, 0, none⟩ = some (.string ⟨#[]⟩) := H3.out.qb.cell 0
    have q1 : w3.cell? ⟨w.heap.size + 2, 1, none⟩ = some (.int .i64 0) := H3.out.qb.cell 1
    have f0 := H3.out.ob.frozen 0
    have f1 := H3.out.ob.frozen 1
    have g0 := H3.out.qb.frozen 0
    have g1 := H3.out.qb.frozen 1
    have k16 : w3.cell? ⟨w.heap.size + 1, 16, none⟩ = some (.int .i64 p.wq) := H3.out.kb.cell 16
    have k17 : w3.cell? ⟨w.heap.size + 1, 17, none⟩ = some (.bool p.wr) := H3.out.kb.cell 17
    go_wp2_with fail
    (with_reducible refine (rlow_any p.wq _).mono ?_)
    rintro e w0 ⟨rfl, rfl⟩
    go_wp2_with fail
    (with_reducible refine (rbit_any p.wr 32 _).mono ?_)
    rintro e w0 ⟨rfl, rfl⟩
    have K4 := Lib.hid (H3.out.put o3)
    have C4 := Lib.hid (fun (X : World) (hX : Below w.heap.size w X) => refnumber_any o3 1 ((bt1 p.clean 2 + bt1 true 64 + bt1 false 128) + 4 + 8 * (p.wq % 4) + bt1 p.wr 32) X (by omega) (by decide))
    go_wp2_with fail
    (with_reducible refine (C4.out _ K4.out.below).mono ?_)
    rintro e w4 ⟨rfl, b4⟩
    have H4 := Lib.hid (K4.out.step b4)
    obtain ⟨o4, e4⟩ : ∃ x, wNum 1 o3 ((bt1 p.clean 2 + bt1 true 64 + bt1 false 128) + 4 + 8 * (p.wq % 4) + bt1 p.wr 32) = x := ⟨_, rfl⟩
    have s4 : o4.s.size ≤ 1200020 := by rw [← e4]; have := num_size 1 o3 ((bt1 p.clean 2 + bt1 true 64 + bt1 false 128) + 4 + 8 * (p.wq % 4) + bt1 p.wr 32); have : (1 : Int).toNat = 1 := rfl; omega
    have E4 := Lib.hid e4
    try rw [e4]
    clear e4 b4 p0 p1 q0 q1 f0 f1 g0 g1 k16 k17
    have p0 : w4.cell? ⟨w.heap.size, 0, none⟩ = some (.string o3.s) := H4.out.ob.cell 0
    have p1 : w4.cell? ⟨w.heap.size, 1, none⟩ = some (.int .i64 o3.c) := H4.out.ob.cell 1
    have q0 : w4.cell? ⟨w.heap.size + 2, 0, none⟩ = some (.string ⟨#[]⟩) := H4.out.qb.cell 0
    have q1 : w4.cell? ⟨w.heap.size + 2, 1, none⟩ = some (.int .i64 0) := H4.out.qb.cell 1
    have f0 := H4.out.ob.frozen 0
    have f1 := H4.out.ob.frozen 1
    have g0 := H4.out.qb.frozen 0
    have g1 := H4.out.qb.frozen 1
    have k12 : w4.cell? ⟨w.heap.size + 1, 12, none⟩ = some (.int .i64 p.keep) := H4.out.kb.cell 12
    have K5 := Lib.hid (H4.out.put o4)
    have C5 := Lib.hid (fun (X : World) (hX : Below w.heap.size w X) => refnumber_any o4 2 p.keep X (by omega) (by decide))
    go_wp2_with fail
    (with_reducible refine (C5.out _ K5.out.below).mono ?_)
    rintro e w5 ⟨rfl, b5⟩
    have H5 := Lib.hid (K5.out.step b5)
    obtain ⟨o5, e5⟩ : ∃ x, wNum 2 o4 p.keep = x := ⟨_, rfl⟩
    have s5 : o5.s.size ≤ 1200030 := by rw [← e5]; have := num_size 2 o4 p.keep; have : (2 : Int).toNat = 2 := rfl; omega
    have E5 := Lib.hid e5
    try rw [e5]
    clear e5 b5 p0 p1 q0 q1 f0 f1 g0 g1 k12
    have p0 : w5.cell? ⟨w.heap.size, 0, none⟩ = some (.string o4.s) := H5.out.ob.cell 0
    have p1 : w5.cell? ⟨w.heap.size, 1, none⟩ = some (.int .i64 o4.c) := H5.out.ob.cell 1
    have q0 : w5.cell? ⟨w.heap.size + 2, 0, none⟩ = some (.string ⟨#[]⟩) := H5.out.qb.cell 0
    have q1 : w5.cell? ⟨w.heap.size + 2, 1, none⟩ = some (.int .i64 0) := H5.out.qb.cell 1
    have f0 := H5.out.ob.frozen 0
    have f1 := H5.out.ob.frozen 1
    have g0 := H5.out.qb.frozen 0
    have g1 := H5.out.qb.frozen 1
    have k9 : w5.cell? ⟨w.heap.size + 1, 9, none⟩ = some (.slice m.p.A m.p.n m.p.cap) := H5.out.kb.cell 9
    have K6 := Lib.hid (H5.out.put o5)
    have C6 := Lib.hid (fun (X : World) (hX : Below w.heap.size w X) => rprops_any o5 1 m.p.A m.p.n m.p.cap p.ps X HP.out.pn HP.out.pc (by have := HP.out.fits.ps.1; have := HP.out.pn; omega) (HP.out.pr.below hX) HP.out.fits.ps.2 (by omega))
    go_wp2_with fail
    (with_reducible refine (C6.out _ K6.out.below).mono ?_)
    rintro e w6 ⟨rfl, b6⟩
    have H6 := Lib.hid (K6.out.step b6)
    obtain ⟨o6, e6⟩ : ∃ x, wProps 1 o5 p.ps = x := ⟨_, rfl⟩
    have s6 : o6.s.size ≤ 9700000 := by rw [← e6]; have := props_size 1 o5 p.ps; omega
    have E6 := Lib.hid e6
    try rw [e6]
    clear e6 b6 p0 p1 q0 q1 f0 f1 g0 g1 k9
    have p0 : w6.cell? ⟨w.heap.size, 0, none⟩ = some (.string o5.s) := H6.out.ob.cell 0
    have p1 : w6.cell? ⟨w.heap.size, 1, none⟩ = some (.int .i64 o5.c) := H6.out.ob.cell 1
    have q0 : w6.cell? ⟨w.heap.size + 2, 0, none⟩ = some (.string ⟨#[]⟩) := H6.out.qb.cell 0
    have q1 : w6.cell? ⟨w.heap.size + 2, 1, none⟩ = some (.int .i64 0) := H6.out.qb.cell 1
    have f0 := H6.out.ob.frozen 0
    have f1 := H6.out.ob.frozen 1
    have g0 := H6.out.qb.frozen 0
    have g1 := H6.out.qb.frozen 1
    have k10 : w6.cell? ⟨w.heap.size + 1, 10, none⟩ = some (.string p.client) := H6.out.kb.cell 10
    have K7 := Lib.hid (H6.out.put o6)
    have C7 := Lib.hid (fun (X : World) (hX : Below w.heap.size w X) => reftext_any o6 p.client X (by omega) (by have := HP.out.fits.client; omega))
    go_wp2_with fail
    (with_reducible refine (C7.out _ K7.out.below).mono ?_)
    rintro e w7 ⟨rfl, b7⟩
    have H7 := Lib.hid (K7.out.step b7)
    obtain ⟨o7, e7⟩ : ∃ x, wText o6 p.client = x := ⟨_, rfl⟩
    have s7 : o7.s.size ≤ 9800000 := by rw [← e7]; have := text_size o6 p.client; omega
    have E7 := Lib.hid e7
    try rw [e7]
    clear e7 b7 p0 p1 q0 q1 f0 f1 g0 g1 k10
    have p0 : w7.cell? ⟨w.heap.size, 0, none⟩ = some (.string o6.s) := H7.out.ob.cell 0
    have p1 : w7.cell? ⟨w.heap.size, 1, none⟩ = some (.int .i64 o6.c) := H7.out.ob.cell 1
    have q0 : w7.cell? ⟨w.heap.size + 2, 0, none⟩ = some (.string ⟨#[]⟩) := H7.out.qb.cell 0
    have q1 : w7.cell? ⟨w.heap.size + 2, 1, none⟩ = some (.int .i64 0) := H7.out.qb.cell 1
    have f0 := H7.out.ob.frozen 0
    have f1 := H7.out.ob.frozen 1
    have g0 := H7.out.qb.frozen 0
    have g1 := H7.out.qb.frozen 1
    have k13 : w7.cell? ⟨w.heap.size + 1, 13, none⟩ = some (.bool true) := (H7.out.kb.cell 13).trans (by show some (Value.bool p.hasWill) = _; rw [HWL.out])
    have k18 : w7.cell? ⟨w.heap.size + 1, 18, none⟩ = some (.slice m.w.A m.w.n m.w.cap) := H7.out.kb.cell 18
    have k19 : w7.cell? ⟨w.heap.size + 1, 19, none⟩ = some (.bool false) := (H7.out.kb.cell 19).trans (by show some (Value.bool p.hasUser) = _; rw [HUS.out])
    have k20 : w7.cell? ⟨w.heap.size + 1, 20, none⟩ = some (.bool true) := (H7.out.kb.cell 20).trans (by show some (Value.bool p.hasPass) = _; rw [HPS.out])
    have k21 : w7.cell? ⟨w.heap.size + 1, 21, none⟩ = some (.string p.user) := H7.out.kb.cell 21
    have k22 : w7.cell? ⟨w.heap.size + 1, 22, none⟩ = some (.string p.pass) := H7.out.kb.cell 22
    have K8 := Lib.hid (H7.out.put o7)
    have C8 := Lib.hid (fun (X : World) (hX : Below w.heap.size w X) => rprops_any o7 0 m.w.A m.w.n m.w.cap p.wps X HP.out.wn HP.out.wc (by have := HP.out.fits.wps.1; have := HP.out.wn; omega) (HP.out.wr.below hX) HP.out.fits.wps.2 (by omega))
    go_wp2_with fail
    (with_reducible refine (C8.out _ K8.out.below).mono ?_)
    rintro e w8 ⟨rfl, b8⟩
    have H8 := Lib.hid (K8.out.step b8)
    obtain ⟨o8, e8⟩ : ∃ x, wProps 0 o7 p.wps = x := ⟨_, rfl⟩
    have s8 : o8.s.size ≤ 18500000 := by rw [← e8]; have := props_size 0 o7 p.wps; omega
    have E8 := Lib.hid e8
    try rw [e8]
    clear e8 b8 p0 p1 q0 q1 f0 f1 g0 g1 k13 k18 k19 k20 k21 k22
    have p0 : w8.cell? ⟨w.heap.size, 0, none⟩ = some (.string o7.s) := H8.out.ob.cell 0
    have p1 : w8.cell? ⟨w.heap.size, 1, none⟩ = some (.int .i64 o7.c) := H8.out.ob.cell 1
    have q0 : w8.cell? ⟨w.heap.size + 2, 0, none⟩ = some (.string ⟨#[]⟩) := H8.out.qb.cell 0
    have q1 : w8.cell? ⟨w.heap.size + 2, 1, none⟩ = some (.int .i64 0) := H8.out.qb.cell 1
    have f0 := H8.out.ob.frozen 0
    have f1 := H8.out.ob.frozen 1
    have g0 := H8.out.qb.frozen 0
    have g1 := H8.out.qb.frozen 1
    have k14 : w8.cell? ⟨w.heap.size + 1, 14, none⟩ = some (.string p.wt) := H8.out.kb.cell 14
    have K9 := Lib.hid (H8.out.put o8)
    have C9 := Lib.hid (fun (X : World) (hX : Below w.heap.size w X) => reftext_any o8 p.wt X (by omega) (by have := HP.out.fits.wt; omega))
    go_wp2_with fail
    (with_reducible refine (C9.out _ K9.out.below).mono ?_)
    rintro e w9 ⟨rfl, b9⟩
    have H9 := Lib.hid (K9.out.step b9)
    obtain ⟨o9, e9⟩ : ∃ x, wText o8 p.wt = x := ⟨_, rfl⟩
    have s9 : o9.s.size ≤ 18600000 := by rw [← e9]; have := text_size o8 p.wt; omega
    have E9 := Lib.hid e9
    try rw [e9]
    clear e9 b9 p0 p1 q0 q1 f0 f1 g0 g1 k14
    have p0 : w9.cell? ⟨w.heap.size, 0, none⟩ = some (.string o8.s) := H9.out.ob.cell 0
    have p1 : w9.cell? ⟨w.heap.size, 1, none⟩ = some (.int .i64 o8.c) := H9.out.ob.cell 1
    have q0 : w9.cell? ⟨w.heap.size + 2, 0, none⟩ = some (.string ⟨#[]⟩) := H9.out.qb.cell 0
    have q1 : w9.cell? ⟨w.heap.size + 2, 1, none⟩ = some (.int .i64 0) := H9.out.qb.cell 1
    have f0 := H9.out.ob.frozen 0
    have f1 := H9.out.ob.frozen 1
    have g0 := H9.out.qb.frozen 0
    have g1 := H9.out.qb.frozen 1
    have k15 : w9.cell? ⟨w.heap.size + 1, 15, none⟩ = some (.string p.wp) := H9.out.kb.cell 15
    have K10 := Lib.hid (H9.out.put o9)
    have C10 := Lib.hid (fun (X : World) (hX : Below w.heap.size w X) => refpdata_any o9 p.wp X (by omega) (by have := HP.out.fits.wp; omega))
    go_wp2_with fail
    (with_reducible refine (C10.out _ K10.out.below).mono ?_)
    rintro e w10 ⟨rfl, b10⟩
    have H10 := Lib.hid (K10.out.step b10)
    obtain ⟨o10, e10⟩ : ∃ x, wData o9 p.wp = x := ⟨_, rfl⟩
    have s10 : o10.s.size ≤ 18700000 := by rw [← e10]; have := data_size o9 p.wp; omega
    have E10 := Lib.hid e10
    try rw [e10]
    clear e10 b10 p0 p1 q0 q1 f0 f1 g0 g1 k15
    have p0 : w10.cell? ⟨w.heap.size, 0, none⟩ = some (.string o9.s) := H10.out.ob.cell 0
    have p1 : w10.cell? ⟨w.heap.size, 1, none⟩ = some (.int .i64 o9.c) := H10.out.ob.cell 1
    have q0 : w10.cell? ⟨w.heap.size + 2, 0, none⟩ = some (.string ⟨#[]⟩) := H10.out.qb.cell 0
    have q1 : w10.cell? ⟨w.heap.size + 2, 1, none⟩ = some (.int .i64 0) := H10.out.qb.cell 1
    have f0 := H10.out.ob.frozen 0
    have f1 := H10.out.ob.frozen 1
    have g0 := H10.out.qb.frozen 0
    have g1 := H10.out.qb.frozen 1
    have k19 : w10.cell? ⟨w.heap.size + 1, 19, none⟩ = some (.bool false) := (H10.out.kb.cell 19).trans (by show some (Value.bool p.hasUser) = _; rw [HUS.out])
    have k20 : w10.cell? ⟨w.heap.size + 1, 20, none⟩ = some (.bool true) := (H10.out.kb.cell 20).trans (by show some (Value.bool p.hasPass) = _; rw [HPS.out])
    have k21 : w10.cell? ⟨w.heap.size + 1, 21, none⟩ = some (.string p.user) := H10.out.kb.cell 21
    have k22 : w10.cell? ⟨w.heap.size + 1, 22, none⟩ = some (.string p.pass) := H10.out.kb.cell 22
    have K11 := Lib.hid (H10.out.put o10)
    have C11 := Lib.hid (fun (X : World) (hX : Below w.heap.size w X) => refpdata_any o10 p.pass X (by omega) (by have := HP.out.fits.pass; omega))
    go_wp2_with fail
    (with_reducible refine (C11.out _ K11.out.below).mono ?_)
    rintro e w11 ⟨rfl, b11⟩
    have H11 := Lib.hid (K11.out.step b11)
    obtain ⟨o11, e11⟩ : ∃ x, wData o10 p.pass = x := ⟨_, rfl⟩
    have s11 : o11.s.size ≤ 18900000 := by rw [← e11]; have := data_size o10 p.pass; omega
    have E11 := Lib.hid e11
    try rw [e11]
    clear e11 b11 p0 p1 q0 q1 f0 f1 g0 g1 k19 k20 k21 k22
    have p0 : w11.cell? ⟨w.heap.size, 0, none⟩ = some (.string o10.s) := H11.out.ob.cell 0
    have p1 : w11.cell? ⟨w.heap.size, 1, none⟩ = some (.int .i64 o10.c) := H11.out.ob.cell 1
    have q0 : w11.cell? ⟨w.heap.size + 2, 0, none⟩ = some (.string ⟨#[]⟩) := H11.out.qb.cell 0
    have q1 : w11.cell? ⟨w.heap.size + 2, 1, none⟩ = some (.int .i64 0) := H11.out.qb.cell 1
    have f0 := H11.out.ob.frozen 0
    have f1 := H11.out.ob.frozen 1
    have g0 := H11.out.qb.frozen 0
    have g1 := H11.out.qb.frozen 1
    go_wp2
    refine bodyPost_ret (v := .agg #[.string o11.s, .int .i64 o11.c]) (by simp [results, Tryd.results41, go_sem, q0, q1]) rfl ?_
    have e : wConnect o p = o11 := by
      unfold wConnect cPass cUser cWill cHead
      rw [HWL.out, HUS.out, HPS.out]
      simp only [if_true, Bool.false_eq_true, if_false]
      rw [show name5 = ⟨#[77, 81, 84, 84]⟩ from rfl, show cFlags p = ((bt1 p.clean 2 + bt1 true 64 + bt1 false 128) + 4 + 8 * (p.wq % 4) + bt1 p.wr 32) from by unfold cFlags; rw [HWL.out, HUS.out, HPS.out]; simp; omega, E1.out, E2.out, E3.out, E4.out, E5.out, E6.out, E7.out, E8.out, E9.out, E10.out, E11.out]
    rw [e]
    exact ⟨rfl, ((((H11.out.below.setCell (Nat.le_refl _) _).setCell (Nat.le_refl _) _).setCell (Nat.le_add_right _ 2) _).setCell (Nat.le_add_right _ 2) _)⟩
set_option maxRecDepth 100000 in
set_option maxHeartbeats 8000000 in
theorem rconnect_ft (o : Ot) (p : Pk) (m : Hs) (w : World) (hP : PkIn .i64 w p m) (hs : o.s.size ≤ 1048576) (hwl : p.hasWill = false) (hus : p.hasUser = true) :
    Calls Tryd.prog 41 #[.agg #[.string o.s, .int .i64 o.c], pkV .i64 p m] w fun e w' => RPost (wConnect o p) w w' e := by
  have h0 := Rq.new w o p m
  obtain ⟨W, hW⟩ : ∃ W, ((w.alloc (.cells #[.string o.s, .int .i64 o.c] 81)).alloc (.cells (pkA .i64 p m) 45)).alloc (.cells #[.string ⟨#[]⟩, .int .i64 0] 81) = W := ⟨_, rfl⟩
  rw [hW] at h0
  unfold pkA at hW
  have H0 := Lib.hid h0
  have HP := Lib.hid hP
  have hpn := hP.pn
  unfold pkV pkA
  rcases (by cases p.hasPass <;> simp : p.hasPass = false ∨ p.hasPass = true) with hps | hps
  · have HWL : Hid (p.hasWill = false) := Lib.hid hwl
    have HUS : Hid (p.hasUser = true) := Lib.hid hus
    have HPS : Hid (p.hasPass = false) := Lib.hid hps
    have a1 := bt1_bd' p.clean 2 (by decide)
    have a2 := bt1_bd' false 64 (by decide)
    have a3 := bt1_bd' true 128 (by decide)
    have a4 := bt1_bd' p.wr 32 (by decide)
    have a5 := Int.emod_nonneg p.wq (show (4 : Int) ≠ 0 by decide)
    have a6 := Int.emod_lt_of_pos p.wq (show (0 : Int) < 4 by decide)
    have r0 : IntKind.i64.wrap (bt1 p.clean 2 + bt1 false 64) = bt1 p.clean 2 + bt1 false 64 := IntWalk.i64_in _ (by omega)
    have r1 : IntKind.i64.wrap (bt1 p.clean 2 + bt1 false 64 + bt1 true 128) = bt1 p.clean 2 + bt1 false 64 + bt1 true 128 := IntWalk.i64_in _ (by omega)
    rw [hwl, hus, hps] at hW ⊢
    clear hwl hus hps a1 a2 a3 a4 a5 a6 hP
    have p0 : W.cell? ⟨w.heap.size, 0, none⟩ = some (.string o.s) := H0.out.ob.cell 0
    have p1 : W.cell? ⟨w.heap.size, 1, none⟩ = some (.int .i64 o.c) := H0.out.ob.cell 1
    have q0 : W.cell? ⟨w.heap.size + 2, 0, none⟩ = some (.string ⟨#[]⟩) := H0.out.qb.cell 0
    have q1 : W.cell? ⟨w.heap.size + 2, 1, none⟩ = some (.int .i64 0) := H0.out.qb.cell 1
    have f0 := H0.out.ob.frozen 0
    have f1 := H0.out.ob.frozen 1
    have g0 := H0.out.qb.frozen 0
    have g1 := H0.out.qb.frozen 1
    clear h0
    go_enter Tryd.func41, Tryd.ntmps41
    have C1 := Lib.hid (fun (X : World) (hX : Below w.heap.size w X) => reftext_any o ⟨#[77, 81, 84, 84]⟩ X (by omega) (by decide))
    go_wp2_with fail
    (with_reducible refine (C1.out _ H0.out.below).mono ?_)
    rintro e w1 ⟨rfl, b1⟩
    have H1 := Lib.hid (H0.out.step b1)
    obtain ⟨o1, e1⟩ : ∃ x, wText o ⟨#[77, 81, 84, 84]⟩ = x := ⟨_, rfl⟩
    have s1 : o1.s.size ≤ 1200000 := by rw [← e1]; have := text_size o ⟨#[77, 81, 84, 84]⟩; omega
    have E1 := Lib.hid e1
    try rw [e1]
    clear e1 b1 p0 p1 q0 q1 f0 f1 g0 g1
    have p0 : w1.cell? ⟨w.heap.size, 0, none⟩ = some (.string o.s) := H1.out.ob.cell 0
    have p1 : w1.cell? ⟨w.heap.size, 1, none⟩ = some (.int .i64 o.c) := H1.out.ob.cell 1
    have q0 : w1.cell? ⟨w.heap.size + 2, 0, none⟩ = some (.string ⟨#[]⟩) := H1.out.qb.cell 0
    have q1 : w1.cell? ⟨w.heap.size + 2, 1, none⟩ = some (.int .i64 0) := H1.out.qb.cell 1
    have f0 := H1.out.ob.frozen 0
    have f1 := H1.out.ob.frozen 1
    have g0 := H1.out.qb.frozen 0
    have g1 := H1.out.qb.frozen 1
    have K2 := Lib.hid (H1.out.put o1)
    have C2 := Lib.hid (fun (X : World) (hX : Below w.heap.size w X) => refnumber_any o1 1 5 X (by omega) (by decide))
    go_wp2_with fail
    (with_reducible refine (C2.out _ K2.out.below).mono ?_)
    rintro e w2 ⟨rfl, b2⟩
    have H2 := Lib.hid (K2.out.step b2)
    obtain ⟨o2, e2⟩ : ∃ x, wNum 1 o1 5 = x := ⟨_, rfl⟩
    have s2 : o2.s.size ≤ 1200010 := by rw [← e2]; have := num_size 1 o1 5; have : (1 : Int).toNat = 1 := rfl; omega
    have E2 := Lib.hid e2
    try rw [e2]
    clear e2 b2 p0 p1 q0 q1 f0 f1 g0 g1
    have p0 : w2.cell? ⟨w.heap.size, 0, none⟩ = some (.string o1.s) := H2.out.ob.cell 0
    have p1 : w2.cell? ⟨w.heap.size, 1, none⟩ = some (.int .i64 o1.c) := H2.out.ob.cell 1
    have q0 : w2.cell? ⟨w.heap.size + 2, 0, none⟩ = some (.string ⟨#[]⟩) := H2.out.qb.cell 0
    have q1 : w2.cell? ⟨w.heap.size + 2, 1, none⟩ = some (.int .i64 0) := H2.out.qb.cell 1
    have f0 := H2.out.ob.frozen 0
    have f1 := H2.out.ob.frozen 1
    have g0 := H2.out.qb.frozen 0
    have g1 := H2.out.qb.frozen 1
    have k11 : w2.cell? ⟨w.heap.size + 1, 11, none⟩ = some (.bool p.clean) := H2.out.kb.cell 11
    have k20 : w2.cell? ⟨w.heap.size + 1, 20, none⟩ = some (.bool false) := (H2.out.kb.cell 20).trans (by show some (Value.bool p.hasPass) = _; rw [HPS.out])
    have k19 : w2.cell? ⟨w.heap.size + 1, 19, none⟩ = some (.bool true) := (H2.out.kb.cell 19).trans (by show some (Value.bool p.hasUser) = _; rw [HUS.out])
    have k13 : w2.cell? ⟨w.heap.size + 1, 13, none⟩ = some (.bool false) := (H2.out.kb.cell 13).trans (by show some (Value.bool p.hasWill) = _; rw [HWL.out])
    have k16 : w2.cell? ⟨w.heap.size + 1, 16, none⟩ = some (.int .i64 p.wq) := H2.out.kb.cell 16
    have k17 : w2.cell? ⟨w.heap.size + 1, 17, none⟩ = some (.bool p.wr) := H2.out.kb.cell 17
    go_wp2_with fail
    (with_reducible refine (rbit_any p.clean 2 _).mono ?_)
    rintro e w0 ⟨rfl, rfl⟩
    go_wp2_with fail
    (with_reducible refine (rbit_any false 64 _).mono ?_)
    rintro e w0 ⟨rfl, rfl⟩
    go_wp2_with fail
    (with_reducible refine (rbit_any true 128 _).mono ?_)
    rintro e w0 ⟨rfl, rfl⟩
    have K3 := Lib.hid (H2.out.put o2)
    have C3 := Lib.hid (fun (X : World) (hX : Below w.heap.size w X) => refnumber_any o2 1 (bt1 p.clean 2 + bt1 false 64 + bt1 true 128) X (by omega) (by decide))
    go_wp2_with fail
    (with_reducible refine (C3.out _ K3.out.below).mono ?_)
    rintro e w3 ⟨rfl, b3⟩
    have H3 := Lib.hid (K3.out.step b3)
    obtain ⟨o3, e3⟩ : ∃ x, wNum 1 o2 (bt1 p.clean 2 + bt1 false 64 + bt1 true 128) = x := ⟨_, rfl⟩
    have s3 : o3.s.size ≤ 1200020 := by rw [← e3]; have := num_size 1 o2 (bt1 p.clean 2 + bt1 false 64 + bt1 true 128); have : (1 : Int).toNat = 1 := rfl; omega
    have E3 := Lib.hid e3
    try rw [e3]
    clear e3 b3 p0 p1 q0 q1 f0 f1 g0 g1 k11 k20 k19 k13 k16 k17
    have p0 : w3.cell? ⟨w.heap.size, 0, none⟩ = some (.string o2.s) := H3.out.ob.cell 0
    have p1 : w3.cell? ⟨w.heap.size, 1, none⟩ = some (.int .i64 o2.c) := H3.out.ob.cell 1
    have q0 : w3.cell? ⟨w.heap.size + 2, 0, none⟩ = some (.string ⟨#[]⟩) := H3.out.qb.cell 0
    have q1 : w3.cell? ⟨w.heap.size + 2, 1, none⟩ = some (.int .i64 0) := H3.out.qb.cell 1
    have f0 := H3.out.ob.frozen 0
    have f1 := H3.out.ob.frozen 1
    have g0 := H3.out.qb.frozen 0
    have g1 := H3.out.qb.frozen 1
    have k12 : w3.cell? ⟨w.heap.size + 1, 12, none⟩ = some (.int .i64 p.keep) := H3.out.kb.cell 12
    have K4 := Lib.hid (H3.out.put o3)
    have C4 := Lib.hid (fun (X : World) (hX : Below w.heap.size w X) => refnumber_any o3 2 p.keep X (by omega) (by decide))
    go_wp2_with fail
    (with_reducible refine (C4.out _ K4.out.below).mono ?_)
    rintro e w4 ⟨rfl, b4⟩
    have H4 := Lib.hid (K4.out.step b4)
    obtain ⟨o4, e4⟩ : ∃ x, wNum 2 o3 p.keep = x := ⟨_, rfl⟩
    have s4 : o4.s.size ≤ 1200030 := by rw [← e4]; have := num_size 2 o3 p.keep; have : (2 : Int).toNat = 2 := rfl; omega
    have E4 := Lib.hid e4
    try rw [e4]
    clear e4 b4 p0 p1 q0 q1 f0 f1 g0 g1 k12
    have p0 : w4.cell? ⟨w.heap.size, 0, none⟩ = some (.string o3.s) := H4.out.ob.cell 0
    have p1 : w4.cell? ⟨w.heap.size, 1, none⟩ = some (.int .i64 o3.c) := H4.out.ob.cell 1
    have q0 : w4.cell? ⟨w.heap.size + 2, 0, none⟩ = some (.string ⟨#[]⟩) := H4.out.qb.cell 0
    have q1 : w4.cell? ⟨w.heap.size + 2, 1, none⟩ = some (.int .i64 0) := H4.out.qb.cell 1
    have f0 := H4.out.ob.frozen 0
    have f1 := H4.out.ob.frozen 1
    have g0 := H4.out.qb.frozen 0
    have g1 := H4.out.qb.frozen 1
    have k9 : w4.cell? ⟨w.heap.size + 1, 9, none⟩ = some (.slice m.p.A m.p.n m.p.cap) := H4.out.kb.cell 9
    have K5 := Lib.hid (H4.out.put o4)
    have C5 := Lib.hid (fun (X : World) (hX : Below w.heap.size w X) => rprops_any o4 1 m.p.A m.p.n m.p.cap p.ps X HP.out.pn HP.out.pc (by have := HP.out.fits.ps.1; have := HP.out.pn; omega) (HP.out.pr.below hX) HP.out.fits.ps.2 (by omega))
    go_wp2_with fail
    (with_reducible refine (C5.out _ K5.out.below).mono ?_)
    rintro e w5 ⟨rfl, b5⟩
    have H5 := Lib.hid (K5.out.step b5)
    obtain ⟨o5, e5⟩ : ∃ x, wProps 1 o4 p.ps = x := ⟨_, rfl⟩
    have s5 : o5.s.size ≤ 9700000 := by rw [← e5]; have := props_size 1 o4 p.ps; omega
    have E5 := Lib.hid e5
    try rw [e5]
    clear e5 b5 p0 p1 q0 q1 f0 f1 g0 g1 k9
    have p0 : w5.cell? ⟨w.heap.size, 0, none⟩ = some (.string o4.s) := H5.out.ob.cell 0
    have p1 : w5.cell? ⟨w.heap.size, 1, none⟩ = some (.int .i64 o4.c) := H5.out.ob.cell 1
    have q0 : w5.cell? ⟨w.heap.size + 2, 0, none⟩ = some (.string ⟨#[]⟩) := H5.out.qb.cell 0
    have q1 : w5.cell? ⟨w.heap.size + 2, 1, none⟩ = some (.int .i64 0) := H5.out.qb.cell 1
    have f0 := H5.out.ob.frozen 0
    have f1 := H5.out.ob.frozen 1
    have g0 := H5.out.qb.frozen 0
    have g1 := H5.out.qb.frozen 1
    have k10 : w5.cell? ⟨w.heap.size + 1, 10, none⟩ = some (.string p.client) := H5.out.kb.cell 10
    have K6 := Lib.hid (H5.out.put o5)
    have C6 := Lib.hid (fun (X : World) (hX : Below w.heap.size w X) => reftext_any o5 p.client X (by omega) (by have := HP.out.fits.client; omega))
    go_wp2_with fail
    (with_reducible refine (C6.out _ K6.out.below).mono ?_)
    rintro e w6 ⟨rfl, b6⟩
    have H6 := Lib.hid (K6.out.step b6)
    obtain ⟨o6, e6⟩ : ∃ x, wText o5 p.client = x := ⟨_, rfl⟩
    have s6 : o6.s.size ≤ 9800000 := by rw [← e6]; have := text_size o5 p.client; omega
    have E6 := Lib.hid e6
    try rw [e6]
    clear e6 b6 p0 p1 q0 q1 f0 f1 g0 g1 k10
    have p0 : w6.cell? ⟨w.heap.size, 0, none⟩ = some (.string o5.s) := H6.out.ob.cell 0
    have p1 : w6.cell? ⟨w.heap.size, 1, none⟩ = some (.int .i64 o5.c) := H6.out.ob.cell 1
    have q0 : w6.cell? ⟨w.heap.size + 2, 0, none⟩ = some (.string ⟨#[]⟩) := H6.out.qb.cell 0
    have q1 : w6.cell? ⟨w.heap.size + 2, 1, none⟩ = some (.int .i64 0) := H6.out.qb.cell 1
    have f0 := H6.out.ob.frozen 0
    have f1 := H6.out.ob.frozen 1
    have g0 := H6.out.qb.frozen 0
    have g1 := H6.out.qb.frozen 1
    have k13 : w6.cell? ⟨w.heap.size + 1, 13, none⟩ = some (.bool false) := (H6.out.kb.cell 13).trans (by show some (Value.bool p.hasWill) = _; rw [HWL.out])
    have k18 : w6.cell? ⟨w.heap.size + 1, 18, none⟩ = some (.slice m.w.A m.w.n m.w.cap) := H6.out.kb.cell 18
    have k19 : w6.cell? ⟨w.heap.size + 1, 19, none⟩ = some (.bool true) := (H6.out.kb.cell 19).trans (by show some (Value.bool p.hasUser) = _; rw [HUS.out])
    have k20 : w6.cell? ⟨w.heap.size + 1, 20, none⟩ = some (.bool false) := (H6.out.kb.cell 20).trans (by show some (Value.bool p.hasPass) = _; rw [HPS.out])
    have k21 : w6.cell? ⟨w.heap.size + 1, 21, none⟩ = some (.string p.user) := H6.out.kb.cell 21
    have k22 : w6.cell? ⟨w.heap.size + 1, 22, none⟩ = some (.string p.pass) := H6.out.kb.cell 22
    have K7 := Lib.hid (H6.out.put o6)
    have C7 := Lib.hid (fun (X : World) (hX : Below w.heap.size w X) => reftext_any o6 p.user X (by omega) (by have := HP.out.fits.user; omega))
    go_wp2_with fail
    (with_reducible refine (C7.out _ K7.out.below).mono ?_)
    rintro e w7 ⟨rfl, b7⟩
    have H7 := Lib.hid (K7.out.step b7)
    obtain ⟨o7, e7⟩ : ∃ x, wText o6 p.user = x := ⟨_, rfl⟩
    have s7 : o7.s.size ≤ 18800000 := by rw [← e7]; have := text_size o6 p.user; omega
    have E7 := Lib.hid e7
    try rw [e7]
    clear e7 b7 p0 p1 q0 q1 f0 f1 g0 g1 k13 k18 k19 k20 k21 k22
    have p0 : w7.cell? ⟨w.heap.size, 0, none⟩ = some (.string o6.s) := H7.out.ob.cell 0
    have p1 : w7.cell? ⟨w.heap.size, 1, none⟩ = some (.int .i64 o6.c) := H7.out.ob.cell 1
    have q0 : w7.cell? ⟨w.heap.size + 2, 0, none⟩ = some (.string ⟨#[]⟩) := H7.out.qb.cell 0
    have q1 : w7.cell? ⟨w.heap.size + 2, 1, none⟩ = some (.int .i64 0) := H7.out.qb.cell 1
    have f0 := H7.out.ob.frozen 0
    have f1 := H7.out.ob.frozen 1
    have g0 := H7.out.qb.frozen 0
    have g1 := H7.out.qb.frozen 1
    have k20 : w7.cell? ⟨w.heap.size + 1, 20, none⟩ = some (.bool false) := (H7.out.kb.cell 20).trans (by show some (Value.bool p.hasPass) = _; rw [HPS.out])
    have k22 : w7.cell? ⟨w.heap.size + 1, 22, none⟩ = some (.string p.pass) := H7.out.kb.cell 22
    go_wp2
    refine bodyPost_ret (v := .agg #[.string o7.s, .int .i64 o7.c]) (by simp [results, Tryd.results41, go_sem, q0, q1]) rfl ?_
    have e : wConnect o p = o7 := by
      unfold wConnect cPass cUser cWill cHead
      rw [HWL.out, HUS.out, HPS.out]
      simp only [if_true, Bool.false_eq_true, if_false]
      rw [show name5 = ⟨#[77, 81, 84, 84]⟩ from rfl, show cFlags p = (bt1 p.clean 2 + bt1 false 64 + bt1 true 128) from by unfold cFlags; rw [HWL.out, HUS.out, HPS.out]; simp, E1.out, E2.out, E3.out, E4.out, E5.out, E6.out, E7.out]
    rw [e]
    exact ⟨rfl, ((((H7.out.below.setCell (Nat.le_refl _) _).setCell (Nat.le_refl _) _).setCell (Nat.le_add_right _ 2) _).setCell (Nat.le_add_right _ 2) _)⟩
  · have HWL : Hid (p.hasWill = false) := Lib.hid hwl
    have HUS : Hid (p.hasUser = true) := Lib.hid hus
    have HPS : Hid (p.hasPass = true) := Lib.hid hps
    have a1 := bt1_bd' p.clean 2 (by decide)
    have a2 := bt1_bd' true 64 (by decide)
    have a3 := bt1_bd' true 128 (by decide)
    have a4 := bt1_bd' p.wr 32 (by decide)
    have a5 := Int.emod_nonneg p.wq (show (4 : Int) ≠ 0 by decide)
    have a6 := Int.emod_lt_of_pos p.wq (show (0 : Int) < 4 by decide)
    have r0 : IntKind.i64.wrap (bt1 p.clean 2 + bt1 true 64) = bt1 p.clean 2 + bt1 true 64 := IntWalk.i64_in _ (by omega)
    have r1 : IntKind.i64.wrap (bt1 p.clean 2 + bt1 true 64 + bt1 true 128) = bt1 p.clean 2 + bt1 true 64 + bt1 true 128 := IntWalk.i64_in _ (by omega)
    rw [hwl, hus, hps] at hW ⊢
    clear hwl hus hps a1 a2 a3 a4 a5 a6 hP
    have p0 : W.cell? ⟨w.heap.size, 0, none⟩ = some (.string o.s) := H0.out.ob.cell 0
    have p1 : W.cell? ⟨w.heap.size, 1, none⟩ = some (.int .i64 o.c) := H0.out.ob.cell 1
    have q0 : W.cell? ⟨w.heap.size + 2, 0, none⟩ = some (.string ⟨#[]⟩) := H0.out.qb.cell 0
    have q1 : W.cell? ⟨w.heap.size + 2, 1, none⟩ = some (.int .i64 0) := H0.out.qb.cell 1
    have f0 := H0.out.ob.frozen 0
    have f1 := H0.out.ob.frozen 1
    have g0 := H0.out.qb.frozen 0
    have g1 := H0.out.qb.frozen 1
    clear h0
    go_enter Tryd.func41, Tryd.ntmps41
    have C1 := Lib.hid (fun (X : World) (hX : Below w.heap.size w X) => reftext_any o ⟨#[77, 81, 84, 84]⟩ X (by omega) (by decide))
    go_wp2_with fail
    (with_reducible refine (C1.out _ H0.out.below).mono ?_)
    rintro e w1 ⟨rfl, b1⟩
    have H1 := Lib.hid (H0.out.step b1)
    obtain ⟨o1, e1⟩ : ∃ x, wText o ⟨#[77, 81, 84, 84]⟩ = x := ⟨_, rfl⟩
    have s1 : o1.s.size ≤ 1200000 := by rw [← e1]; have := text_size o ⟨#[77, 81, 84, 84]⟩; omega
    have E1 := Lib.hid e1
    try rw [e1]
    clear e1 b1 p0 p1 q0 q1 f0 f1 g0 g1
    have p0 : w1.cell? ⟨w.heap.size, 0, none⟩ = some (.string o.s) := H1.out.ob.cell 0
    have p1 : w1.cell? ⟨w.heap.size, 1, none⟩ = some (.int .i64 o.c) := H1.out.ob.cell 1
    have q0 : w1.cell? ⟨w.heap.size + 2, 0, none⟩ = some (.string ⟨#[]⟩) := H1.out.qb.cell 0
    have q1 : w1.cell? ⟨w.heap.size + 2, 1, none⟩ = some (.int .i64 0) := H1.out.qb.cell 1
    have f0 := H1.out.ob.frozen 0
    have f1 := H1.out.ob.frozen 1
    have g0 := H1.out.qb.frozen 0
    have g1 := H1.out.qb.frozen 1
    have K2 := Lib.hid (H1.out.put o1)
    have C2 := Lib.hid (fun (X : World) (hX : Below w.heap.size w X) => refnumber_any o1 1 5 X (by omega) (by decide))
    go_wp2_with fail
    (with_reducible refine (C2.out _ K2.out.below).mono ?_)
    rintro e w2 ⟨rfl, b2⟩
    have H2 := Lib.hid (K2.out.step b2)
    obtain ⟨o2, e2⟩ : ∃ x, wNum 1 o1 5 = x := ⟨_, rfl⟩
    have s2 : o2.s.size ≤ 1200010 := by rw [← e2]; have := num_size 1 o1 5; have : (1 : Int).toNat = 1 := rfl; omega
    have E2 := Lib.hid e2
    try rw [e2]
    clear e2 b2 p0 p1 q0 q1 f0 f1 g0 g1
    have p0 : w2.cell? ⟨w.heap.size, 0, none⟩ = some (.string o1.s) := H2.out.ob.cell 0
    have p1 : w2.cell? ⟨w.heap.size, 1, none⟩ = some (.int .i64 o1.c) := H2.out.ob.cell 1
    have q0 : w2.cell? ⟨w.heap.size + 2, 0, none⟩ = some (.string ⟨#[]⟩) := H2.out.qb.cell 0
    have q1 : w2.cell? ⟨w.heap.size + 2, 1, none⟩ = some (.int .i64 0) := H2.out.qb.cell 1
    have f0 := H2.out.ob.frozen 0
    have f1 := H2.out.ob.frozen 1
    have g0 := H2.out.qb.frozen 0
    have g1 := H2.out.qb.frozen 1
    have k11 : w2.cell? ⟨w.heap.size + 1, 11, none⟩ = some (.bool p.clean) := H2.out.kb.cell 11
    have k20 : w2.cell? ⟨w.heap.size + 1, 20, none⟩ = some (.bool true) := (H2.out.kb.cell 20).trans (by show some (Value.bool p.hasPass) = _; rw [HPS.out])
    have k19 : w2.cell? ⟨w.heap.size + 1, 19, none⟩ = some (.bool true) := (H2.out.kb.cell 19).trans (by show some (Value.bool p.hasUser) = _; rw [HUS.out])
    have k13 : w2.cell? ⟨w.heap.size + 1, 13, none⟩ = some (.bool false) := (H2.out.kb.cell 13).trans (by show some (Value.bool p.hasWill) = _; rw [HWL.out])
    have k16 : w2.cell? ⟨w.heap.size + 1, 16, none⟩ = some (.int .i64 p.wq) := H2.out.kb.cell 16
    have k17 : w2.cell? ⟨w.heap.size + 1, 17, none⟩ = some (.bool p.wr) := H2.out.kb.cell 17
    go_wp2_with fail
    (with_reducible refine (rbit_any p.clean 2 _).mono ?_)
    rintro e w0 ⟨rfl, rfl⟩
    go_wp2_with fail
    (with_reducible refine (rbit_any true 64 _).mono ?_)
    rintro e w0 ⟨rfl, rfl⟩
    go_wp2_with fail
    (with_reducible refine (rbit_any true 128 _).mono ?_)
    rintro e w0 ⟨rfl, rfl⟩
    have K3 := Lib.hid (H2.out.put o2)
    have C3 := Lib.hid (fun (X : World) (hX : Below w.heap.size w X) => refnumber_any o2 1 (bt1 p.clean 2 + bt1 true 64 + bt1 true 128) X (by omega) (by decide))
    go_wp2_with fail
    (with_reducible refine (C3.out _ K3.out.below).mono ?_)
    rintro e w3 ⟨rfl, b3⟩
    have H3 := Lib.hid (K3.out.step b3)
    obtain ⟨o3, e3⟩ : ∃ x, wNum 1 o2 (bt1 p.clean 2 + bt1 true 64 + bt1 true 128) = x := ⟨_, rfl⟩
    have s3 : o3.s.size ≤ 1200020 := by rw [← e3]; have := num_size 1 o2 (bt1 p.clean 2 + bt1 true 64 + bt1 true 128); have : (1 : Int).toNat = 1 := rfl; omega
    have E3 := Lib.hid e3
    try rw [e3]
    clear e3 b3 p0 p1 q0 q1 f0 f1 g0 g1 k11 k20 k19 k13 k16 k17
    have p0 : w3.cell? ⟨w.heap.size, 0, none⟩ = some (.string o2.s) := H3.out.ob.cell 0
    have p1 : w3.cell? ⟨w.heap.size, 1, none⟩ = some (.int .i64 o2.c) := H3.out.ob.cell 1
    have q0 : w3.cell? ⟨w.heap.size + 2, 0, none⟩ = some (.string ⟨#[]⟩) := H3.out.qb.cell 0
    have q1 : w3.cell? ⟨w.heap.size + 2, 1, none⟩ = some (.int .i64 0) := H3.out.qb.cell 1
    have f0 := H3.out.ob.frozen 0
    have f1 := H3.out.ob.frozen 1
    have g0 := H3.out.qb.frozen 0
    have g1 := H3.out.qb.frozen 1
    have k12 : w3.cell? ⟨w.heap.size + 1, 12, none⟩ = some (.int .i64 p.keep) := H3.out.kb.cell 12
    have K4 := Lib.hid (H3.out.put o3)
    have C4 := Lib.hid (fun (X : World) (hX : Below w.heap.size w X) => refnumber_any o3 2 p.keep X (by omega) (by decide))
    go_wp2_with fail
    (with_reducible refine (C4.out _ K4.out.below).mono ?_)
    rintro e w4 ⟨rfl, b4⟩
    have H4 := Lib.hid (K4.out.step b4)
    obtain ⟨o4, e4⟩ : ∃ x, wNum 2 o3 p.keep = x := ⟨_, rfl⟩
    have s4 : o4.s.size ≤ 1200030 := by rw [← e4]; have := num_size 2 o3 p.keep; have : (2 : Int).toNat = 2 := rfl; omega
    have E4 := Lib.hid e4
    try rw [e4]
    clear e4 b4 p0 p1 q0 q1 f0 f1 g0 g1 k12
    have p0 : w4.cell? ⟨w.heap.size, 0, none⟩ = some (.string o3.s) := H4.out.ob.cell 0
    have p1 : w4.cell? ⟨w.heap.size, 1, none⟩ = some (.int .i64 o3.c) := H4.out.ob.cell 1
    have q0 : w4.cell? ⟨w.heap.size + 2, 0, none⟩ = some (.string ⟨#[]⟩) := H4.out.qb.cell 0
    have q1 : w4.cell? ⟨w.heap.size + 2, 1, none⟩ = some (.int .i64 0) := H4.out.qb.cell 1
    have f0 := H4.out.ob.frozen 0
    have f1 := H4.out.ob.frozen 1
    have g0 := H4.out.qb.frozen 0
    have g1 := H4.out.qb.frozen 1
    have k9 : w4.cell? ⟨w.heap.size + 1, 9, none⟩ = some (.slice m.p.A m.p.n m.p.cap) := H4.out.kb.cell 9
    have K5 := Lib.hid (H4.out.put o4)
    have C5 := Lib.hid (fun (X : World) (hX : Below w.heap.size w X) => rprops_any o4 1 m.p.A m.p.n m.p.cap p.ps X HP.out.pn HP.out.pc (by have := HP.out.fits.ps.1; have := HP.out.pn; omega) (HP.out.pr.below hX) HP.out.fits.ps.2 (by omega))
    go_wp2_with fail
    (with_reducible refine (C5.out _ K5.out.below).mono ?_)
    rintro e w5 ⟨rfl, b5⟩
    have H5 := Lib.hid (K5.out.step b5)
    obtain ⟨o5, e5⟩ : ∃ x, wProps 1 o4 p.ps = x := ⟨_, rfl⟩
    have s5 : o5.s.size ≤ 9700000 := by rw [← e5]; have := props_size 1 o4 p.ps; omega
    have E5 := Lib.hid e5
    try rw [e5]
    clear e5 b5 p0 p1 q0 q1 f0 f1 g0 g1 k9
    have p0 : w5.cell? ⟨w.heap.size, 0, none⟩ = some (.string o4.s) := H5.out.ob.cell 0
    have p1 : w5.cell? ⟨w.heap.size, 1, none⟩ = some (.int .i64 o4.c) := H5.out.ob.cell 1
    have q0 : w5.cell? ⟨w.heap.size + 2, 0, none⟩ = some (.string ⟨#[]⟩) := H5.out.qb.cell 0
    have q1 : w5.cell? ⟨w.heap.size + 2, 1, none⟩ = some (.int .i64 0) := H5.out.qb.cell 1
    have f0 := H5.out.ob.frozen 0
    have f1 := H5.out.ob.frozen 1
    have g0 := H5.out.qb.frozen 0
    have g1 := H5.out.qb.frozen 1
    have k10 : w5.cell? ⟨w.heap.size + 1, 10, none⟩ = some (.string p.client) := H5.out.kb.cell 10
    have K6 := Lib.hid (H5.out.put o5)
    have C6 := Lib.hid (fun (X : World) (hX : Below w.heap.size w X) => reftext_any o5 p.client X (by omega) (by have := HP.out.fits.client; omega))
    go_wp2_with fail
    (with_reducible refine (C6.out _ K6.out.below).mono ?_)
    rintro e w6 ⟨rfl, b6⟩
    have H6 := Lib.hid (K6.out.step b6)
    obtain ⟨o6, e6⟩ : ∃ x, wText o5 p.client = x := ⟨_, rfl⟩
    have s6 : o6.s.size ≤ 9800000 := by rw [← e6]; have := text_size o5 p.client; omega
    have E6 := Lib.hid e6
    try rw [e6]
    clear e6 b6 p0 p1 q0 q1 f0 f1 g0 g1 k10
    have p0 : w6.cell? ⟨w.heap.size, 0, none⟩ = some (.string o5.s) := H6.out.ob.cell 0
    have p1 : w6.cell? ⟨w.heap.size, 1, none⟩ = some (.int .i64 o5.c) := H6.out.ob.cell 1
    have q0 : w6.cell? ⟨w.heap.size + 2, 0, none⟩ = some (.string ⟨#[]⟩) := H6.out.qb.cell 0
    have q1 : w6.cell? ⟨w.heap.size + 2, 1, none⟩ = some (.int .i64 0) := H6.out.qb.cell 1
    have f0 := H6.out.ob.frozen 0
    have f1 := H6.out.ob.frozen 1
    have g0 := H6.out.qb.frozen 0
    have g1 := H6.out.qb.frozen 1
    have k13 : w6.cell? ⟨w.heap.size + 1, 13, none⟩ = some (.bool false) := (H6.out.kb.cell 13).trans (by show some (Value.bool p.hasWill) = _; rw [HWL.out])
    have k18 : w6.cell? ⟨w.heap.size + 1, 18, none⟩ = some (.slice m.w.A m.w.n m.w.cap) := H6.out.kb.cell 18
    have k19 : w6.cell? ⟨w.heap.size + 1, 19, none⟩ = some (.bool true) := (H6.out.kb.cell 19).trans (by show some (Value.bool p.hasUser) = _; rw [HUS.out])
    have k20 : w6.cell? ⟨w.heap.size + 1, 20, none⟩ = some (.bool true) := (H6.out.kb.cell 20).trans (by show some (Value.bool p.hasPass) = _; rw [HPS.out])
    have k21 : w6.cell? ⟨w.heap.size + 1, 21, none⟩ = some (.string p.user) := H6.out.kb.cell 21
    have k22 : w6.cell? ⟨w.heap.size + 1, 22, none⟩ = some (.string p.pass) := H6.out.kb.cell 22
    have K7 := Lib.hid (H6.out.put o6)
    have C7 := Lib.hid (fun (X : World) (hX : Below w.heap.size w X) => reftext_any o6 p.user X (by omega) (by have := HP.out.fits.user; omega))
    go_wp2_with fail
    (with_reducible refine (C7.out _ K7.out.below).mono ?_)
    rintro e w7 ⟨rfl, b7⟩
    have H7 := Lib.hid (K7.out.step b7)
    obtain ⟨o7, e7⟩ : ∃ x, wText o6 p.user = x := ⟨_, rfl⟩
    have s7 : o7.s.size ≤ 18800000 := by rw [← e7]; have := text_size o6 p.user; omega
    have E7 := Lib.hid e7
    try rw [e7]
    clear e7 b7 p0 p1 q0 q1 f0 f1 g0 g1 k13 k18 k19 k20 k21 k22
    have p0 : w7.cell? ⟨w.heap.size, 0, none⟩ = some (.string o6.s) := H7.out.ob.cell 0
    have p1 : w7.cell? ⟨w.heap.size, 1, none⟩ = some (.int .i64 o6.c) := H7.out.ob.cell 1
    have q0 : w7.cell? ⟨w.heap.size + 2, 0, none⟩ = some (.string ⟨#[]⟩) := H7.out.qb.cell 0
    have q1 : w7.cell? ⟨w.heap.size + 2, 1, none⟩ = some (.int .i64 0) := H7.out.qb.cell 1
    have f0 := H7.out.ob.frozen 0
    have f1 := H7.out.ob.frozen 1
    have g0 := H7.out.qb.frozen 0
    have g1 := H7.out.qb.frozen 1
    have k20 : w7.cell? ⟨w.heap.size + 1, 20, none⟩ = some (.bool true) := (H7.out.kb.cell 20).trans (by show some (Value.bool p.hasPass) = _; rw [HPS.out])
    have k22 : w7.cell? ⟨w.heap.size + 1, 22, none⟩ = some (.string p.pass) := H7.out.kb.cell 22
    have K8 := Lib.hid (H7.out.put o7)
    have C8 := Lib.hid (fun (X : World) (hX : Below w.heap.size w X) => refpdata_any o7 p.pass X (by omega) (by have := HP.out.fits.pass; omega))
    go_wp2_with fail
    (with_reducible refine (C8.out _ K8.out.below).mono ?_)
    rintro e w8 ⟨rfl, b8⟩
    have H8 := Lib.hid (K8.out.step b8)
    obtain ⟨o8, e8⟩ : ∃ x, wData o7 p.pass = x := ⟨_, rfl⟩
    have s8 : o8.s.size ≤ 18900000 := by rw [← e8]; have := data_size o7 p.pass; omega
    have E8 := Lib.hid e8
    try rw [e8]
    clear e8 b8 p0 p1 q0 q1 f0 f1 g0 g1 k20 k22
    have p0 : w8.cell? ⟨w.heap.size, 0, none⟩ = some (.string o7.s) := H8.out.ob.cell 0
    have p1 : w8.cell? ⟨w.heap.size, 1, none⟩ = some (.int .i64 o7.c) := H8.out.ob.cell 1
    have q0 : w8.cell? ⟨w.heap.size + 2, 0, none⟩ = some (.string ⟨#[]⟩) := H8.out.qb.cell 0
    have q1 : w8.cell? ⟨w.heap.size + 2, 1, none⟩ = some (.int .i64 0) := H8.out.qb.cell 1
    have f0 := H8.out.ob.frozen 0
    have f1 := H8.out.ob.frozen 1
    have g0 := H8.out.qb.frozen 0
    have g1 := H8.out.qb.frozen 1
    go_wp2
    refine bodyPost_ret (v := .agg #[.string o8.s, .int .i64 o8.c]) (by simp [results, Tryd.results41, go_sem, q0, q1]) rfl ?_
    have e : wConnect o p = o8 := by
      unfold wConnect cPass cUser cWill cHead
      rw [HWL.out, HUS.out, HPS.out]
      simp only [if_true, Bool.false_eq_true, if_false]
      rw [show name5 = ⟨#[77, 81, 84, 84]⟩ from rfl, show cFlags p = (bt1 p.clean 2 + bt1 true 64 + bt1 true 128) from by unfold cFlags; rw [HWL.out, HUS.out, HPS.out]; simp, E1.out, E2.out, E3.out, E4.out, E5.out, E6.out, E7.out, E8.out]
    rw [e]
    exact ⟨rfl, ((((H8.out.below.setCell (Nat.le_refl _) _).setCell (Nat.le_refl _) _).setCell (Nat.le_add_right _ 2) _).setCell (Nat.le_add_right _ 2) _)⟩
set_option maxRecDepth 100000 in
set_option maxHeartbeats 8000000 in
theorem rconnect_ff (o : Ot) (p : Pk) (m : Hs) (w : World) (hP : PkIn .i64 w p m) (hs : o.s.size ≤ 1048576) (hwl : p.hasWill = false) (hus : p.hasUser = false) :
    Calls Tryd.prog 41 #[.agg #[.string o.s, .int .i64 o.c], pkV .i64 p m] w fun e w' => RPost (wConnect o p) w w' e := by
  have h0 := Rq.new w o p m
  obtain ⟨W, hW⟩ : ∃ W, ((w.alloc (.cells #[.string o.s, .int .i64 o.c] 81)).alloc (.cells (pkA .i64 p m) 45)).alloc (.cells #[.string ⟨#[]⟩, .int .i64 0] 81) = W := ⟨_, rfl⟩
  rw [hW] at h0
  unfold pkA at hW
  have H0 := Lib.hid h0
  have HP := Lib.hid hP
  have hpn := hP.pn
  unfold pkV pkA
  rcases (by cases p.hasPass <;> simp : p.hasPass = false ∨ p.hasPass = true) with hps | hps
  · have HWL : Hid (p.hasWill = false) := Lib.hid hwl
    have HUS : Hid (p.hasUser = false) := Lib.hid hus
    have HPS : Hid (p.hasPass = false) := Lib.hid hps
    have a1 := bt1_bd' p.clean 2 (by decide)
    have a2 := bt1_bd' false 64 (by decide)
    have a3 := bt1_bd' false 128 (by decide)
    have a4 := bt1_bd' p.wr 32 (by decide)
    have a5 := Int.emod_nonneg p.wq (show (4 : Int) ≠ 0 by decide)
    have a6 := Int.emod_lt_of_pos p.wq (show (0 : Int) < 4 by decide)
    have r0 : IntKind.i64.wrap (bt1 p.clean 2 + bt1 false 64) = bt1 p.clean 2 + bt1 false 64 := IntWalk.i64_in _ (by omega)
    have r1 : IntKind.i64.wrap (bt1 p.clean 2 + bt1 false 64 + bt1 false 128) = bt1 p.clean 2 + bt1 false 64 + bt1 false 128 := IntWalk.i64_in _ (by omega)
    rw [hwl, hus, hps] at hW ⊢
    clear hwl hus hps a1 a2 a3 a4 a5 a6 hP
    have p0 : W.cell? ⟨w.heap.size, 0, none⟩ = some (.string o.s) := H0.out.ob.cell 0
    have p1 : W.cell? ⟨w.heap.size, 1, none⟩ = some (.int .i64 o.c) := H0.out.ob.cell 1
    have q0 : W.cell? ⟨w.heap.size + 2, 0, none⟩ = some (.string ⟨#[]⟩) := H0.out.qb.cell 0
    have q1 : W.cell? ⟨w.heap.size + 2, 1, none⟩ = some (.int .i64 0) := H0.out.qb.cell 1
    have f0 := H0.out.ob.frozen 0
    have f1 := H0.out.ob.frozen 1
    have g0 := H0.out.qb.frozen 0
    have g1 := H0.out.qb.frozen 1
    clear h0
    go_enter Tryd.func41, Tryd.ntmps41
    have C1 := Lib.hid (fun (X : World) (hX : Below w.heap.size w X) => reftext_any o ⟨#[77, 81, 84, 84]⟩ X (by omega) (by decide))
    go_wp2_with fail
    (with_reducible refine (C1.out _ H0.out.below).mono ?_)
    rintro e w1 ⟨rfl, b1⟩
    have H1 := Lib.hid (H0.out.step b1)
    obtain ⟨o1, e1⟩ : ∃ x, wText o ⟨#[77, 81, 84, 84]⟩ = x := ⟨_, rfl⟩
    have s1 : o1.s.size ≤ 1200000 := by rw [← e1]; have := text_size o ⟨#[77, 81, 84, 84]⟩; omega
    have E1 := Lib.hid e1
    try rw [e1]
    clear e1 b1 p0 p1 q0 q1 f0 f1 g0 g1
    have p0 : w1.cell? ⟨w.heap.size, 0, none⟩ = some (.string o.s) := H1.out.ob.cell 0
    have p1 : w1.cell? ⟨w.heap.size, 1, none⟩ = some (.int .i64 o.c) := H1.out.ob.cell 1
    have q0 : w1.cell? ⟨w.heap.size + 2, 0, none⟩ = some (.string ⟨#[]⟩) := H1.out.qb.cell 0
    have q1 : w1.cell? ⟨w.heap.size + 2, 1, none⟩ = some (.int .i64 0) := H1.out.qb.cell 1
    have f0 := H1.out.ob.frozen 0
    have f1 := H1.out.ob.frozen 1
    have g0 := H1.out.qb.frozen 0
    have g1 := H1.out.qb.frozen 1
    have K2 := Lib.hid (H1.out.put o1)
    have C2 := Lib.hid (fun (X : World) (hX : Below w.heap.size w X) => refnumber_any o1 1 5 X (by omega) (by decide))
    go_wp2_with fail
    (with_reducible refine (C2.out _ K2.out.below).mono ?_)
    rintro e w2 ⟨rfl, b2⟩
    have H2 := Lib.hid (K2.out.step b2)
    obtain ⟨o2, e2⟩ : ∃ x, wNum 1 o1 5 = x := ⟨_, rfl⟩
    have s2 : o2.s.size ≤ 1200010 := by rw [← e2]; have := num_size 1 o1 5; have : (1 : Int).toNat = 1 := rfl; omega
    have E2 := Lib.hid e2
    try rw [e2]
    clear e2 b2 p0 p1 q0 q1 f0 f1 g0 g1
    have p0 : w2.cell? ⟨w.heap.size, 0, none⟩ = some (.string o1.s) := H2.out.ob.cell 0
    have p1 : w2.cell? ⟨w.heap.size, 1, none⟩ = some (.int .i64 o1.c) := H2.out.ob.cell 1
    have q0 : w2.cell? ⟨w.heap.size + 2, 0, none⟩ = some (.string ⟨#[]⟩) := H2.out.qb.cell 0
    have q1 : w2.cell? ⟨w.heap.size + 2, 1, none⟩ = some (.int .i64 0) := H2.out.qb.cell 1
    have f0 := H2.out.ob.frozen 0
    have f1 := H2.out.ob.frozen 1
    have g0 := H2.out.qb.frozen 0
    have g1 := H2.out.qb.frozen 1
    have k11 : w2.cell? ⟨w.heap.size + 1, 11, none⟩ = some (.bool p.clean) := H2.out.kb.cell 11
    have k20 : w2.cell? ⟨w.heap.size + 1, 20, none⟩ = some (.bool false) := (H2.out.kb.cell 20).trans (by show some (Value.bool p.hasPass) = _; rw [HPS.out])
    have k19 : w2.cell? ⟨w.heap.size + 1, 19, none⟩ = some (.bool false) := (H2.out.kb.cell 19).trans (by show some (Value.bool p.hasUser) = _; rw [HUS.out])
    have k13 : w2.cell? ⟨w.heap.size + 1, 13, none⟩ = some (.bool false) := (H2.out.kb.cell 13).trans (by show some (Value.bool p.hasWill) = _; rw [HWL.out])
    have k16 : w2.cell? ⟨w.heap.size + 1, 16, none⟩ = some (.int .i64 p.wq) := H2.out.kb.cell 16
    have k17 : w2.cell? ⟨w.heap.size + 1, 17, none⟩ = some (.bool p.wr) := H2.out.kb.cell 17
    go_wp2_with fail
    (with_reducible refine (rbit_any p.clean 2 _).mono ?_)
    rintro e w0 ⟨rfl, rfl⟩
    go_wp2_with fail
    (with_reducible refine (rbit_any false 64 _).mono ?_)
    rintro e w0 ⟨rfl, rfl⟩
    go_wp2_with fail
    (with_reducible refine (rbit_any false 128 _).mono ?_)
    rintro e w0 ⟨rfl, rfl⟩
    have K3 := Lib.hid (H2.out.put o2)
    have C3 := Lib.hid (fun (X : World) (hX : Below w.heap.size w X) => refnumber_any o2 1 (bt1 p.clean 2 + bt1 false 64 + bt1 false 128) X (by omega) (by decide))
    go_wp2_with fail
    (with_reducible refine (C3.out _ K3.out.below).mono ?_)
    rintro e w3 ⟨rfl, b3⟩
    have H3 := Lib.hid (K3.out.step b3)
    obtain ⟨o3, e3⟩ : ∃ x, wNum 1 o2 (bt1 p.clean 2 + bt1 false 64 + bt1 false 128) = x := ⟨_, rfl⟩
    have s3 : o3.s.size ≤ 1200020 := by rw [← e3]; have := num_size 1 o2 (bt1 p.clean 2 + bt1 false 64 + bt1 false 128); have : (1 : Int).toNat = 1 := rfl; omega
    have E3 := Lib.hid e3
    try rw [e3]
    clear e3 b3 p0 p1 q0 q1 f0 f1 g0 g1 k11 k20 k19 k13 k16 k17
    have p0 : w3.cell? ⟨w.heap.size, 0, none⟩ = some (.string o2.s) := H3.out.ob.cell 0
    have p1 : w3.cell? ⟨w.heap.size, 1, none⟩ = some (.int .i64 o2.c) := H3.out.ob.cell 1
    have q0 : w3.cell? ⟨w.heap.size + 2, 0, none⟩ = some (.string ⟨#[]⟩) := H3.out.qb.cell 0
    have q1 : w3.cell? ⟨w.heap.size + 2, 1, none⟩ = some (.int .i64 0) := H3.out.qb.cell 1
    have f0 := H3.out.ob.frozen 0
    have f1 := H3.out.ob.frozen 1
    have g0 := H3.out.qb.frozen 0
    have g1 := H3.out.qb.frozen 1
    have k12 : w3.cell? ⟨w.heap.size + 1, 12, none⟩ = some (.int .i64 p.keep) := H3.out.kb.cell 12
    have K4 := Lib.hid (H3.out.put o3)
    have C4 := Lib.hid (fun (X : World) (hX : Below w.heap.size w X) => refnumber_any o3 2 p.keep X (by omega) (by decide))
    go_wp2_with fail
    (with_reducible refine (C4.out _ K4.out.below).mono ?_)
    rintro e w4 ⟨rfl, b4⟩
    have H4 := Lib.hid (K4.out.step b4)
    obtain ⟨o4, e4⟩ : ∃ x, wNum 2 o3 p.keep = x := ⟨_, rfl⟩
    have s4 : o4.s.size ≤ 1200030 := by rw [← e4]; have := num_size 2 o3 p.keep; have : (2 : Int).toNat = 2 := rfl; omega
    have E4 := Lib.hid e4
    try rw [e4]
    clear e4 b4 p0 p1 q0 q1 f0 f1 g0 g1 k12
    have p0 : w4.cell? ⟨w.heap.size, 0, none⟩ = some (.string o3.s) := H4.out.ob.cell 0
    have p1 : w4.cell? ⟨w.heap.size, 1, none⟩ = some (.int .i64 o3.c) := H4.out.ob.cell 1
    have q0 : w4.cell? ⟨w.heap.size + 2, 0, none⟩ = some (.string ⟨#[]⟩) := H4.out.qb.cell 0
    have q1 : w4.cell? ⟨w.heap.size + 2, 1, none⟩ = some (.int .i64 0) := H4.out.qb.cell 1
    have f0 := H4.out.ob.frozen 0
    have f1 := H4.out.ob.frozen 1
    have g0 := H4.out.qb.frozen 0
    have g1 := H4.out.qb.frozen 1
    have k9 : w4.cell? ⟨w.heap.size + 1, 9, none⟩ = some (.slice m.p.A m.p.n m.p.cap) := H4.out.kb.cell 9
    have K5 := Lib.hid (H4.out.put o4)
    have C5 := Lib.hid (fun (X : World) (hX : Below w.heap.size w X) => rprops_any o4 1 m.p.A m.p.n m.p.cap p.ps X HP.out.pn HP.out.pc (by have := HP.out.fits.ps.1; have := HP.out.pn; omega) (HP.out.pr.below hX) HP.out.fits.ps.2 (by omega))
    go_wp2_with fail
    (with_reducible refine (C5.out _ K5.out.below).mono ?_)
    rintro e w5 ⟨rfl, b5⟩
    have H5 := Lib.hid (K5.out.step b5)
    obtain ⟨o5, e5⟩ : ∃ x, wProps 1 o4 p.ps = x := ⟨_, rfl⟩
    have s5 : o5.s.size ≤ 9700000 := by rw [← e5]; have := props_size 1 o4 p.ps; omega
    have E5 := Lib.hid e5
    try rw [e5]
    clear e5 b5 p0 p1 q0 q1 f0 f1 g0 g1 k9
    have p0 : w5.cell? ⟨w.heap.size, 0, none⟩ = some (.string o4.s) := H5.out.ob.cell 0
    have p1 : w5.cell? ⟨w.heap.size, 1, none⟩ = some (.int .i64 o4.c) := H5.out.ob.cell 1
    have q0 : w5.cell? ⟨w.heap.size + 2, 0, none⟩ = some (.string ⟨#[]⟩) := H5.out.qb.cell 0
    have q1 : w5.cell? ⟨w.heap.size + 2, 1, none⟩ = some (.int .i64 0) := H5.out.qb.cell 1
    have f0 := H5.out.ob.frozen 0
    have f1 := H5.out.ob.frozen 1
    have g0 := H5.out.qb.frozen 0
    have g1 := H5.out.qb.frozen 1
    have k10 : w5.cell? ⟨w.heap.size + 1, 10, none⟩ = some (.string p.client) := H5.out.kb.cell 10
    have K6 := Lib.hid (H5.out.put o5)
    have C6 := Lib.hid (fun (X : World) (hX : Below w.heap.size w X) => reftext_any o5 p.client X (by omega) (by have := HP.out.fits.client; omega))
    go_wp2_with fail
    (with_reducible refine (C6.out _ K6.out.below).mono ?_)
    rintro e w6 ⟨rfl, b6⟩
    have H6 := Lib.hid (K6.out.step b6)
    obtain ⟨o6, e6⟩ : ∃ x, wText o5 p.client = x := ⟨_, rfl⟩
    have s6 : o6.s.size ≤ 9800000 := by rw [← e6]; have := text_size o5 p.client; omega
    have E6 := Lib.hid e6
    try rw [e6]
    clear e6 b6 p0 p1 q0 q1 f0 f1 g0 g1 k10
    have p0 : w6.cell? ⟨w.heap.size, 0, none⟩ = some (.string o5.s) := H6.out.ob.cell 0
    have p1 : w6.cell? ⟨w.heap.size, 1, none⟩ = some (.int .i64 o5.c) := H6.out.ob.cell 1
    have q0 : w6.cell? ⟨w.heap.size + 2, 0, none⟩ = some (.string ⟨#[]⟩) := H6.out.qb.cell 0
    have q1 : w6.cell? ⟨w.heap.size + 2, 1, none⟩ = some (.int .i64 0) := H6.out.qb.cell 1
    have f0 := H6.out.ob.frozen 0
    have f1 := H6.out.ob.frozen 1
    have g0 := H6.out.qb.frozen 0
    have g1 := H6.out.qb.frozen 1
    have k13 : w6.cell? ⟨w.heap.size + 1, 13, none⟩ = some (.bool false) := (H6.out.kb.cell 13).trans (by show some (Value.bool p.hasWill) = _; rw [HWL.out])
    have k18 : w6.cell? ⟨w.heap.size + 1, 18, none⟩ = some (.slice m.w.A m.w.n m.w.cap) := H6.out.kb.cell 18
    have k19 : w6.cell? ⟨w.heap.size + 1, 19, none⟩ = some (.bool false) := (H6.out.kb.cell 19).trans (by show some (Value.bool p.hasUser) = _; rw [HUS.out])
    have k20 : w6.cell? ⟨w.heap.size + 1, 20, none⟩ = some (.bool false) := (H6.out.kb.cell 20).trans (by show some (Value.bool p.hasPass) = _; rw [HPS.out])
    have k21 : w6.cell? ⟨w.heap.size + 1, 21, none⟩ = some (.string p.user) := H6.out.kb.cell 21
    have k22 : w6.cell? ⟨w.heap.size + 1, 22, none⟩ = some (.string p.pass) := H6.out.kb.cell 22
    go_wp2
    refine bodyPost_ret (v := .agg #[.string o6.s, .int .i64 o6.c]) (by simp [results, Tryd.results41, go_sem, q0, q1]) rfl ?_
    have e : wConnect o p = o6 := by
      unfold wConnect cPass cUser cWill cHead
      rw [HWL.out, HUS.out, HPS.out]
      simp only [Bool.false_eq_true, if_false]
      rw [show name5 = ⟨#[77, 81, 84, 84]⟩ from rfl, show cFlags p = (bt1 p.clean 2 + bt1 false 64 + bt1 false 128) from by unfold cFlags; rw [HWL.out, HUS.out, HPS.out]; simp, E1.out, E2.out, E3.out, E4.out, E5.out, E6.out]
    rw [e]
    exact ⟨rfl, ((((H6.out.below.setCell (Nat.le_refl _) _).setCell (Nat.le_refl _) _).setCell (Nat.le_add_right _ 2) _).setCell (Nat.le_add_right _ 2) _)⟩
  · have HWL : Hid (p.hasWill = false) := Lib.hid hwl
    have HUS : Hid (p.hasUser = false) := Lib.hid hus
    have HPS : Hid (p.hasPass = true) := Lib.hid hps
    have a1 := bt1_bd' p.clean 2 (by decide)
    have a2 := bt1_bd' true 64 (by decide)
    have a3 := bt1_bd' false 128 (by decide)
    have a4 := bt1_bd' p.wr 32 (by decide)
    have a5 := Int.emod_nonneg p.wq (show (4 : Int) ≠ 0 by decide)
    have a6 := Int.emod_lt_of_pos p.wq (show (0 : Int) < 4 by decide)
    have r0 : IntKind.i64.wrap (bt1 p.clean 2 + bt1 true 64) = bt1 p.clean 2 + bt1 true 64 := IntWalk.i64_in _ (by omega)
    have r1 : IntKind.i64.wrap (bt1 p.clean 2 + bt1 true 64 + bt1 false 128) = bt1 p.clean 2 + bt1 true 64 + bt1 false 128 := IntWalk.i64_in _ (by omega)
    rw [hwl, hus, hps] at hW ⊢
    clear hwl hus hps a1 a2 a3 a4 a5 a6 hP
    have p0 : W.cell? ⟨w.heap.size, 0, none⟩ = some (.string o.s) := H0.out.ob.cell 0
    have p1 : W.cell? ⟨w.heap.size, 1, none⟩ = some (.int .i64 o.c) := H0.out.ob.cell 1
    have q0 : W.cell? ⟨w.heap.size + 2, 0, none⟩ = some (.string ⟨#[]⟩) := H0.out.qb.cell 0
    have q1 : W.cell? ⟨w.heap.size + 2, 1, none⟩ = some (.int .i64 0) := H0.out.qb.cell 1
    have f0 := H0.out.ob.frozen 0
    have f1 := H0.out.ob.frozen 1
    have g0 := H0.out.qb.frozen 0
    have g1 := H0.out.qb.frozen 1
    clear h0
    go_enter Tryd.func41, Tryd.ntmps41
    have C1 := Lib.hid (fun (X : World) (hX : Below w.heap.size w X) => reftext_any o ⟨#[77, 81, 84, 84]⟩ X (by omega) (by decide))
    go_wp2_with fail
    (with_reducible refine (C1.out _ H0.out.below).mono ?_)
    rintro e w1 ⟨rfl, b1⟩
    have H1 := Lib.hid (H0.out.step b1)
    obtain ⟨o1, e1⟩ : ∃ x, wText o ⟨#[77, 81, 84, 84]⟩ = x := ⟨_, rfl⟩
    have s1 : o1.s.size ≤ 1200000 := by rw [← e1]; have := text_size o ⟨#[77, 81, 84, 84]⟩; omega
    have E1 := Lib.hid e1
    try rw [e1]
    clear e1 b1 p0 p1 q0 q1 f0 f1 g0 g1
    have p0 : w1.cell? ⟨w.heap.size, 0, none⟩ = some (.string o.s) := H1.out.ob.cell 0
    have p1 : w1.cell? ⟨w.heap.size, 1, none⟩ = some (.int .i64 o.c) := H1.out.ob.cell 1
    have q0 : w1.cell? ⟨w.heap.size + 2, 0, none⟩ = some (.string ⟨#[]⟩) := H1.out.qb.cell 0
    have q1 : w1.cell? ⟨w.heap.size + 2, 1, none⟩ = some (.int .i64 0) := H1.out.qb.cell 1
    have f0 := H1.out.ob.frozen 0
    have f1 := H1.out.ob.frozen 1
    have g0 := H1.out.qb.frozen 0
    have g1 := H1.out.qb.frozen 1
    have K2 := Lib.hid (H1.out.put o1)
    have C2 := Lib.hid (fun (X : World) (hX : Below w.heap.size w X) => refnumber_any o1 1 5 X (by omega) (by decide))
    go_wp2_with fail
    (with_reducible refine (C2.out _ K2.out.below).mono ?_)
    rintro e w2 ⟨rfl, b2⟩
    have H2 := Lib.hid (K2.out.step b2)
    obtain ⟨o2, e2⟩ : ∃ x, wNum 1 o1 5 = x := ⟨_, rfl⟩
    have s2 : o2.s.size ≤ 1200010 := by rw [← e2]; have := num_size 1 o1 5; have : (1 : Int).toNat = 1 := rfl; omega
    have E2 := Lib.hid e2
    try rw [e2]
    clear e2 b2 p0 p1 q0 q1 f0 f1 g0 g1
    have p0 : w2.cell? ⟨w.heap.size, 0, none⟩ = some (.string o1.s) := H2.out.ob.cell 0
    have p1 : w2.cell? ⟨w.heap.size, 1, none⟩ = some (.int .i64 o1.c) := H2.out.ob.cell 1
    have q0 : w2.cell? ⟨w.heap.size + 2, 0, none⟩ = some (.string ⟨#[]⟩) := H2.out.qb.cell 0
    have q1 : w2.cell? ⟨w.heap.size + 2, 1, none⟩ = some (.int .i64 0) := H2.out.qb.cell 1
    have f0 := H2.out.ob.frozen 0
    have f1 := H2.out.ob.frozen 1
    have g0 := H2.out.qb.frozen 0
    have g1 := H2.out.qb.frozen 1
    have k11 : w2.cell? ⟨w.heap.size + 1, 11, none⟩ = some (.bool p.clean) := H2.out.kb.cell 11
    have k20 : w2.cell? ⟨w.heap.size + 1, 20, none⟩ = some (.bool true) := (H2.out.kb.cell 20).trans (by show some (Value.bool p.hasPass) = _; rw [HPS.out])
    have k19 : w2.cell? ⟨w.heap.size + 1, 19, none⟩ = some (.bool false) := (H2.out.kb.cell 19).trans (by show some (Value.bool p.hasUser) = _; rw [HUS.out])
    have k13 : w2.cell? ⟨w.heap.size + 1, 13, none⟩ = some (.bool false) := (H2.out.kb.cell 13).trans (by show some (Value.bool p.hasWill) = _; rw [HWL.out])
    have k16 : w2.cell? ⟨w.heap.size + 1, 16, none⟩ = some (.int .i64 p.wq) := H2.out.kb.cell 16
    have k17 : w2.cell? ⟨w.heap.size + 1, 17, none⟩ = some (.bool p.wr) := H2.out.kb.cell 17
    go_wp2_with fail
    (with_reducible refine (rbit_any p.clean 2 _).mono ?_)
    rintro e w0 ⟨rfl, rfl⟩
    go_wp2_with fail
    (with_reducible refine (rbit_any true 64 _).mono ?_)
    rintro e w0 ⟨rfl, rfl⟩
    go_wp2_with fail
    (with_reducible refine (rbit_any false 128 _).mono ?_)
    rintro e w0 ⟨rfl, rfl⟩
    have K3 := Lib.hid (H2.out.put o2)
    have C3 := Lib.hid (fun (X : World) (hX : Below w.heap.size w X) => refnumber_any o2 1 (bt1 p.clean 2 + bt1 true 64 + bt1 false 128) X (by omega) (by decide))
    go_wp2_with fail
    (with_reducible refine (C3.out _ K3.out.below).mono ?_)
    rintro e w3 ⟨rfl, b3⟩
    have H3 := Lib.hid (K3.out.step b3)
    obtain ⟨o3, e3⟩ : ∃ x, wNum 1 o2 (bt1 p.clean 2 + bt1 true 64 + bt1 false 128) = x := ⟨_, rfl⟩
    have s3 : o3.s.size ≤ 1200020 := by rw [← e3]; have := num_size 1 o2 (bt1 p.clean 2 + bt1 true 64 + bt1 false 128); have : (1 : Int).toNat = 1 := rfl; omega
    have E3 := Lib.hid e3
    try rw [e3]
    clear e3 b3 p0 p1 q0 q1 f0 f1 g0 g1 k11 k20 k19 k13 k16 k17
    have p0 : w3.cell? ⟨w.heap.size, 0, none⟩ = some (.string o2.s) := H3.out.ob.cell 0
    have p1 : w3.cell? ⟨w.heap.size, 1, none⟩ = some (.int .i64 o2.c) := H3.out.ob.cell 1
    have q0 : w3.cell? ⟨w.heap.size + 2, 0, none⟩ = some (.string ⟨#[]⟩) := H3.out.qb.cell 0
    have q1 : w3.cell? ⟨w.heap.size + 2, 1, none⟩ = some (.int .i64 0) := H3.out.qb.cell 1
    have f0 := H3.out.ob.frozen 0
    have f1 := H3.out.ob.frozen 1
    have g0 := H3.out.qb.frozen 0
    have g1 := H3.out.qb.frozen 1
    have k12 : w3.cell? ⟨w.heap.size + 1, 12, none⟩ = some (.int .i64 p.keep) := H3.out.kb.cell 12
    have K4 := Lib.hid (H3.out.put o3)
    have C4 := Lib.hid (fun (X : World) (hX : Below w.heap.size w X) => refnumber_any o3 2 p.keep X (by omega) (by decide))
    go_wp2_with fail
    (with_reducible refine (C4.out _ K4.out.below).mono ?_)
    rintro e w4 ⟨rfl, b4⟩
    have H4 := Lib.hid (K4.out.step b4)
    obtain ⟨o4, e4⟩ : ∃ x, wNum 2 o3 p.keep = x := ⟨_, rfl⟩
    have s4 : o4.s.size ≤ 1200030 := by rw [← e4]; have := num_size 2 o3 p.keep; have : (2 : Int).toNat = 2 := rfl; omega
    have E4 := Lib.hid e4
    try rw [e4]
    clear e4 b4 p0 p1 q0 q1 f0 f1 g0 g1 k12
    have p0 : w4.cell? ⟨w.heap.size, 0, none⟩ = some (.string o3.s) := H4.out.ob.cell 0
    have p1 : w4.cell? ⟨w.heap.size, 1, none⟩ = some (.int .i64 o3.c) := H4.out.ob.cell 1
    have q0 : w4.cell? ⟨w.heap.size + 2, 0, none⟩ = some (.string ⟨#[]⟩) := H4.out.qb.cell 0
    have q1 : w4.cell? ⟨w.heap.size + 2, 1, none⟩ = some (.int .i64 0) := H4.out.qb.cell 1
    have f0 := H4.out.ob.frozen 0
    have f1 := H4.out.ob.frozen 1
    have g0 := H4.out.qb.frozen 0
    have g1 := H4.out.qb.frozen 1
    have k9 : w4.cell? ⟨w.heap.size + 1, 9, none⟩ = some (.slice m.p.A m.p.n m.p.cap) := H4.out.kb.cell 9
    have K5 := Lib.hid (H4.out.put o4)
    have C5 := Lib.hid (fun (X : World) (hX : Below w.heap.size w X) => rprops_any o4 1 m.p.A m.p.n m.p.cap p.ps X HP.out.pn HP.out.pc (by have := HP.out.fits.ps.1; have := HP.out.pn; omega) (HP.out.pr.below hX) HP.out.fits.ps.2 (by omega))
    go_wp2_with fail
    (with_reducible refine (C5.out _ K5.out.below).mono ?_)
    rintro e w5 ⟨rfl, b5⟩
    have H5 := Lib.hid (K5.out.step b5)
    obtain ⟨o5, e5⟩ : ∃ x, wProps 1 o4 p.ps = x := ⟨_, rfl⟩
    have s5 : o5.s.size ≤ 9700000 := by rw [← e5]; have := props_size 1 o4 p.ps; omega
    have E5 := Lib.hid e5
    try rw [e5]
    clear e5 b5 p0 p1 q0 q1 f0 f1 g0 g1 k9
    have p0 : w5.cell? ⟨w.heap.size, 0, none⟩ = some (.string o4.s) := H5.out.ob.cell 0
    have p1 : w5.cell? ⟨w.heap.size, 1, none⟩ = some (.int .i64 o4.c) := H5.out.ob.cell 1
    have q0 : w5.cell? ⟨w.heap.size + 2, 0, none⟩ = some (.string ⟨#[]⟩) := H5.out.qb.cell 0
    have q1 : w5.cell? ⟨w.heap.size + 2, 1, none⟩ = some (.int .i64 0) := H5.out.qb.cell 1
    have f0 := H5.out.ob.frozen 0
    have f1 := H5.out.ob.frozen 1
    have g0 := H5.out.qb.frozen 0
    have g1 := H5.out.qb.frozen 1
    have k10 : w5.cell? ⟨w.heap.size + 1, 10, none⟩ = some (.string p.client) := H5.out.kb.cell 10
    have K6 := Lib.hid (H5.out.put o5)
    have C6 := Lib.hid (fun (X : World) (hX : Below w.heap.size w X) => reftext_any o5 p.client X (by omega) (by have := HP.out.fits.client; omega))
    go_wp2_with fail
    (with_reducible refine (C6.out _ K6.out.below).mono ?_)
    rintro e w6 ⟨rfl, b6⟩
    have H6 := Lib.hid (K6.out.step b6)
    obtain ⟨o6, e6⟩ : ∃ x, wText o5 p.client = x := ⟨_, rfl⟩
    have s6 : o6.s.size ≤ 9800000 := by rw [← e6]; have := text_size o5 p.client; omega
    have E6 := Lib.hid e6
    try rw [e6]
    clear e6 b6 p0 p1 q0 q1 f0 f1 g0 g1 k10
    have p0 : w6.cell? ⟨w.heap.size, 0, none⟩ = some (.string o5.s) := H6.out.ob.cell 0
    have p1 : w6.cell? ⟨w.heap.size, 1, none⟩ = some (.int .i64 o5.c) := H6.out.ob.cell 1
    have q0 : w6.cell? ⟨w.heap.size + 2, 0, none⟩ = some (.string ⟨#[]⟩) := H6.out.qb.cell 0
    have q1 : w6.cell? ⟨w.heap.size + 2, 1, none⟩ = some (.int .i64 0) := H6.out.qb.cell 1
    have f0 := H6.out.ob.frozen 0
    have f1 := H6.out.ob.frozen 1
    have g0 := H6.out.qb.frozen 0
    have g1 := H6.out.qb.frozen 1
    have k13 : w6.cell? ⟨w.heap.size + 1, 13, none⟩ = some (.bool false) := (H6.out.kb.cell 13).trans (by show some (Value.bool p.hasWill) = _; rw [HWL.out])
    have k18 : w6.cell? ⟨w.heap.size + 1, 18, none⟩ = some (.slice m.w.A m.w.n m.w.cap) := H6.out.kb.cell 18
    have k19 : w6.cell? ⟨w.heap.size + 1, 19, none⟩ = some (.bool false) := (H6.out.kb.cell 19).trans (by show some (Value.bool p.hasUser) = _; rw [HUS.out])
    have k20 : w6.cell? ⟨w.heap.size + 1, 20, none⟩ = some (.bool true) := (H6.out.kb.cell 20).trans (by show some (Value.bool p.hasPass) = _; rw [HPS.out])
    have k21 : w6.cell? ⟨w.heap.size + 1, 21, none⟩ = some (.string p.user) := H6.out.kb.cell 21
    have k22 : w6.cell? ⟨w.heap.size + 1, 22, none⟩ = some (.string p.pass) := H6.out.kb.cell 22
    have K7 := Lib.hid (H6.out.put o6)
    have C7 := Lib.hid (fun (X : World) (hX : Below w.heap.size w X) => refpdata_any o6 p.pass X (by omega) (by have := HP.out.fits.pass; omega))
    go_wp2_with fail
    (with_reducible refine (C7.out _ K7.out.below).mono ?_)
    rintro e w7 ⟨rfl, b7⟩
    have H7 := Lib.hid (K7.out.step b7)
    obtain ⟨o7, e7⟩ : ∃ x, wData o6 p.pass = x := ⟨_, rfl⟩
    have s7 : o7.s.size ≤ 18900000 := by rw [← e7]; have := data_size o6 p.pass; omega
    have E7 := Lib.hid e7
    try rw [e7]
    clear e7 b7 p0 p1 q0 q1 f0 f1 g0 g1 k13 k18 k19 k20 k21 k22
    have p0 : w7.cell? ⟨w.heap.size, 0, none⟩ = some (.string o6.s) := H7.out.ob.cell 0
    have p1 : w7.cell? ⟨w.heap.size, 1, none⟩ = some (.int .i64 o6.c) := H7.out.ob.cell 1
    have q0 : w7.cell? ⟨w.heap.size + 2, 0, none⟩ = some (.string ⟨#[]⟩) := H7.out.qb.cell 0
    have q1 : w7.cell? ⟨w.heap.size + 2, 1, none⟩ = some (.int .i64 0) := H7.out.qb.cell 1
    have f0 := H7.out.ob.frozen 0
    have f1 := H7.out.ob.frozen 1
    have g0 := H7.out.qb.frozen 0
    have g1 := H7.out.qb.frozen 1
    go_wp2
    refine bodyPost_ret (v := .agg #[.string o7.s, .int .i64 o7.c]) (by simp [results, Tryd.results41, go_sem, q0, q1]) rfl ?_
    have e : wConnect o p = o7 := by
      unfold wConnect cPass cUser cWill cHead
      rw [HWL.out, HUS.out, HPS.out]
      simp only [if_true, Bool.false_eq_true, if_false]
      rw [show name5 = ⟨#[77, 81, 84, 84]⟩ from rfl, show cFlags p = (bt1 p.clean 2 + bt1 true 64 + bt1 false 128) from by unfold cFlags; rw [HWL.out, HUS.out, HPS.out]; simp, E1.out, E2.out, E3.out, E4.out, E5.out, E6.out, E7.out]
    rw [e]
    exact ⟨rfl, ((((H7.out.below.setCell (Nat.le_refl _) _).setCell (Nat.le_refl _) _).setCell (Nat.le_add_right _ 2) _).setCell (Nat.le_add_right _ 2) _)⟩
theorem rconnect_any (o : Ot) (p : Pk) (m : Hs) (w : World) (hP : PkIn .i64 w p m) (hs : o.s.size ≤ 1048576) :
    Calls Tryd.prog 41 #[.agg #[.string o.s, .int .i64 o.c], pkV .i64 p m] w fun e w' => RPost (wConnect o p) w w' e := by
  rcases (by cases p.hasWill <;> simp : p.hasWill = false ∨ p.hasWill = true) with h1 | h1
  · rcases (by cases p.hasUser <;> simp : p.hasUser = false ∨ p.hasUser = true) with h2 | h2
    · exact rconnect_ff o p m w hP hs h1 h2
    · exact rconnect_ft o p m w hP hs h1 h2
  · rcases (by cases p.hasUser <;> simp : p.hasUser = false ∨ p.hasUser = true) with h2 | h2
    · exact rconnect_tf o p m w hP hs h1 h2
    · exact rconnect_tt o p m w hP hs h1 h2
end Go.Proofs.YtlnanenfpapfkaaDoor
