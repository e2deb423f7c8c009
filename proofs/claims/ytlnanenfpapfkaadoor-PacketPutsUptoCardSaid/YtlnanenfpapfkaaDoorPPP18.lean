/- Parts of the proof, joined: Rp6, PkP2. -/
import Derived.Test.YtlnanenfpapfkaaDoorPPP17
import Derived.Test.YtlnanenfpapfkaaDoorPPP3
/- The walk of the document's lists: SUBSCRIBE. -/
set_option linter.unusedVariables false
namespace Go.Proofs.YtlnanenfpapfkaaDoor
open Go.RowKit Pl

set_option maxRecDepth 100000 in
set_option maxHeartbeats 8000000 in
theorem rlists_subs (o : Ot) (p : Pk) (m : Hs) (w : World) (hP : PkIn .i64 w p m) (hs : o.s.size ≤ 1048576) (hk : p.kind = 8) :
    Calls Tryd.prog 50 #[.agg #[.string o.s, .int .i64 o.c], pkV .i64 p m] w fun e w' => RPost (wLists' o p) w w' e := by
  have h0 := Rq.new w o p m
  obtain ⟨W, hW⟩ : ∃ W, ((w.alloc (.cells #[.string o.s, .int .i64 o.c] 81)).alloc (.cells (pkA .i64 p m) 45)).alloc (.cells #[.string ⟨#[]⟩, .int .i64 0] 81) = W := ⟨_, rfl⟩
  rw [hW] at h0
  unfold pkA at hW
  have H0 := Lib.hid h0
  have HP := Lib.hid hP
  have hpn := hP.pn
  have HK := Lib.hid hk
  have hk8 : (p.kind == 8) = true := by rw [hk]; rfl
  have hnB : m.s.n ≤ 1048576 := by have := HP.out.fits.subs.1; have := HP.out.sn; omega
  clear hk hpn
  unfold pkV pkA
  by_cases hle : m.s.n ≤ 64
  · clear hP
    have p0 : W.cell? ⟨w.heap.size, 0, none⟩ = some (.string o.s) := H0.out.ob.cell 0
    have p1 : W.cell? ⟨w.heap.size, 1, none⟩ = some (.int .i64 o.c) := H0.out.ob.cell 1
    have q0 : W.cell? ⟨w.heap.size + 2, 0, none⟩ = some (.string ⟨#[]⟩) := H0.out.qb.cell 0
    have q1 : W.cell? ⟨w.heap.size + 2, 1, none⟩ = some (.int .i64 0) := H0.out.qb.cell 1
    have f0 := H0.out.ob.frozen 0
    have f1 := H0.out.ob.frozen 1
    have g0 := H0.out.qb.frozen 0
    have g1 := H0.out.qb.frozen 1
    have k4 : W.cell? ⟨w.heap.size + 1, 4, none⟩ = some (.int .i64 p.id) := H0.out.kb.cell 4
    clear h0
    go_enter Tryd.func50, Tryd.ntmps50
    have C1 := Lib.hid (fun (X : World) (hX : Below w.heap.size w X) => rid_any o p.id X (by omega))
    go_wp2_with fail
    (with_reducible refine (C1.out _ H0.out.below).mono ?_)
    rintro e w1 ⟨rfl, b1⟩
    have H1 := Lib.hid (H0.out.step b1)
    obtain ⟨o1, e1⟩ : ∃ x, wId o p.id = x := ⟨_, rfl⟩
    have s1 : o1.s.size ≤ 1048580 := by rw [← e1]; have := id_size o p.id; omega
    have E1 := Lib.hid e1
    try rw [e1]
    clear e1 b1 p0 p1 q0 q1 f0 f1 g0 g1 k4
    have p0 : w1.cell? ⟨w.heap.size, 0, none⟩ = some (.string o.s) := H1.out.ob.cell 0
    have p1 : w1.cell? ⟨w.heap.size, 1, none⟩ = some (.int .i64 o.c) := H1.out.ob.cell 1
    have q0 : w1.cell? ⟨w.heap.size + 2, 0, none⟩ = some (.string ⟨#[]⟩) := H1.out.qb.cell 0
    have q1 : w1.cell? ⟨w.heap.size + 2, 1, none⟩ = some (.int .i64 0) := H1.out.qb.cell 1
    have f0 := H1.out.ob.frozen 0
    have f1 := H1.out.ob.frozen 1
    have g0 := H1.out.qb.frozen 0
    have g1 := H1.out.qb.frozen 1
    have k0 : w1.cell? ⟨w.heap.size + 1, 0, none⟩ = some (.int .i64 p.kind) := H1.out.kb.cell 0
    have k9 : w1.cell? ⟨w.heap.size + 1, 9, none⟩ = some (.slice m.p.A m.p.n m.p.cap) := H1.out.kb.cell 9
    have K2 := Lib.hid (H1.out.put o1)
    have C2 := Lib.hid (fun (X : World) (hX : Below w.heap.size w X) => rprops_any o1 p.kind m.p.A m.p.n m.p.cap p.ps X HP.out.pn HP.out.pc (by have := HP.out.fits.ps.1; have := HP.out.pn; omega) (HP.out.pr.below hX) HP.out.fits.ps.2 (by omega))
    go_wp2_with fail
    (with_reducible refine (C2.out _ K2.out.below).mono ?_)
    rintro e w2 ⟨rfl, b2⟩
    have H2 := Lib.hid (K2.out.step b2)
    obtain ⟨o2, e2⟩ : ∃ x, wProps p.kind o1 p.ps = x := ⟨_, rfl⟩
    have s2 : o2.s.size ≤ 9700000 := by rw [← e2]; have := props_size p.kind o1 p.ps; omega
    have E2 := Lib.hid e2
    try rw [e2]
    clear e2 b2 p0 p1 q0 q1 f0 f1 g0 g1 k0 k9
    have p0 : w2.cell? ⟨w.heap.size, 0, none⟩ = some (.string o1.s) := H2.out.ob.cell 0
    have p1 : w2.cell? ⟨w.heap.size, 1, none⟩ = some (.int .i64 o1.c) := H2.out.ob.cell 1
    have q0 : w2.cell? ⟨w.heap.size + 2, 0, none⟩ = some (.string ⟨#[]⟩) := H2.out.qb.cell 0
    have q1 : w2.cell? ⟨w.heap.size + 2, 1, none⟩ = some (.int .i64 0) := H2.out.qb.cell 1
    have f0 := H2.out.ob.frozen 0
    have f1 := H2.out.ob.frozen 1
    have g0 := H2.out.qb.frozen 0
    have g1 := H2.out.qb.frozen 1
    have k0 : w2.cell? ⟨w.heap.size + 1, 0, none⟩ = some (.int .i64 p.kind) := H2.out.kb.cell 0
    have k24 : w2.cell? ⟨w.heap.size + 1, 24, none⟩ = some (.slice m.s.A m.s.n m.s.cap) := H2.out.kb.cell 24
    have K3 := Lib.hid (H2.out.put o2)
    have C3 := Lib.hid (fun (X : World) (hX : Below w.heap.size w X) => rsome_any o2 (m.s.n : Int) X (by omega))
    go_wp2_with fail
    (with_reducible refine (C3.out _ K3.out.below).mono ?_)
    rintro e w3 ⟨rfl, b3⟩
    have H3 := Lib.hid (K3.out.step b3)
    obtain ⟨o3, e3⟩ : ∃ x, wSome o2 (m.s.n : Int) = x := ⟨_, rfl⟩
    have s3 : o3.s.size ≤ 9700000 := by rw [← e3]; have := Nat.le_of_eq (some_size o2 (m.s.n : Int)); omega
    have E3 := Lib.hid e3
    try rw [e3]
    clear e3 b3 p0 p1 q0 q1 f0 f1 g0 g1 k0 k24
    have p0 : w3.cell? ⟨w.heap.size, 0, none⟩ = some (.string o2.s) := H3.out.ob.cell 0
    have p1 : w3.cell? ⟨w.heap.size, 1, none⟩ = some (.int .i64 o2.c) := H3.out.ob.cell 1
    have q0 : w3.cell? ⟨w.heap.size + 2, 0, none⟩ = some (.string ⟨#[]⟩) := H3.out.qb.cell 0
    have q1 : w3.cell? ⟨w.heap.size + 2, 1, none⟩ = some (.int .i64 0) := H3.out.qb.cell 1
    have f0 := H3.out.ob.frozen 0
    have f1 := H3.out.ob.frozen 1
    have g0 := H3.out.qb.frozen 0
    have g1 := H3.out.qb.frozen 1
    have k24 : w3.cell? ⟨w.heap.size + 1, 24, none⟩ = some (.slice m.s.A m.s.n m.s.cap) := H3.out.kb.cell 24
    have K4 := Lib.hid (H3.out.put o3)
    have HF : Hid (wLists' o p = wFold wSub o3 p.subs m.s.n) := Lib.hid (by
      unfold wLists' wSubs wFold
      rw [if_pos HK.out, E1.out, E2.out, HP.out.sn, E3.out]
      try (congr 1; rw [List.take_eq_take_iff, HP.out.sn]; omega))
    go_wp2
    go_loopw [5] (fun i wr => ∃ k : Nat, i = .int .i64 k ∧ k ≤ m.s.n ∧ Hid (Rq w (wFold wSub o3 p.subs k) p m ⟨⟨#[]⟩, 0⟩ wr)) (fun i _ => m.s.n - (intOf i).toNat)
    case atStart => exact ⟨0, rfl, by omega, K4⟩
    case round =>
      obtain ⟨k, rfl, hk, hw⟩ := hrel
      by_cases hlt : k < m.s.n
      · obtain ⟨g, q, e0, hg, hcl⟩ := (SbRow.below HP.out.sr hw.out.below) (by rw [HP.out.sn]; omega)
        obtain ⟨x, hx⟩ : ∃ x, p.subs[k]? = some x := ⟨_, List.getElem?_eq_getElem (by rw [HP.out.sn]; omega)⟩
        obtain ⟨c0, c1, c2, c3, c4⟩ := hcl k x hx
        have hfx := HP.out.fits.subs.2 x (List.mem_of_getElem? hx)
        have hkI : (k : Int) < (m.s.n : Int) := by omega
        have hk64 : (k : Int) < 64 := by omega
        have HX := Lib.hid (wFold_succ (f := wSub) (o := o3) hx)
        have hsz := wFold_size 65538 sub_size o3 p.subs k
        obtain ⟨ok, hok⟩ : ∃ y, wFold wSub o3 p.subs k = y := ⟨_, rfl⟩
        rw [hok] at hw hsz HX
        have k8 : wr.cell? ⟨w.heap.size + 1, 24, none⟩ = some (.slice (some ⟨g, q, none⟩) m.s.n m.s.cap) := (hw.out.kb.cell 24).trans (by show some (Value.slice m.s.A m.s.n m.s.cap) = _; rw [e0])
        have p0 : wr.cell? ⟨w.heap.size, 0, none⟩ = some (.string ok.s) := hw.out.ob.cell 0
        have p1 : wr.cell? ⟨w.heap.size, 1, none⟩ = some (.int .i64 ok.c) := hw.out.ob.cell 1
        have hlo : w.heap.size < wr.heap.size := hw.out.ob.lt
        have hlk : w.heap.size + 1 < wr.heap.size := hw.out.kb.lt
        have f0 := hw.out.ob.frozen 0
        have f1 := hw.out.ob.frozen 1
        clear hcl hx hok e0 hg
        have hne : w.heap.size ≠ wr.heap.size := Nat.ne_of_lt hlo
        have hne' : wr.heap.size ≠ w.heap.size := Ne.symm hne
        have Q0 := Lib.hid (Blk.new wr (sbA x) 64)
        have G0 := Lib.hid (hw.out.step ((Below.refl _ _).alloc (Nat.le_refl _) (.cells (sbA x) 64)))
        obtain ⟨Y, hY⟩ : ∃ Y, wr.alloc (.cells (sbA x) 64) = Y := ⟨_, rfl⟩
        rw [hY] at Q0 G0
        unfold sbA at hY
        have HY := Lib.hid hY
        have C5 := Lib.hid (fun X : World => reftext_any ok x.f X (by omega) (by have := hfx.1; omega))
        have zt := text_size ok x.f
        obtain ⟨a1, ha1⟩ : ∃ y, wText ok x.f = y := ⟨_, rfl⟩
        have A1 := Lib.hid ha1
        rw [ha1] at zt C5
        have C6 := Lib.hid (fun X : World => rqos_any a1 x.q X (by omega))
        have zq := qos_size a1 x.q
        obtain ⟨a2, ha2⟩ : ∃ y, wQos a1 x.q = y := ⟨_, rfl⟩
        have A2 := Lib.hid ha2
        rw [ha2] at zq C6
        have C7 := Lib.hid (fun X : World => rqos_any a2 x.h X (by omega))
        have zh := qos_size a2 x.h
        obtain ⟨a3, ha3⟩ : ∃ y, wQos a2 x.h = y := ⟨_, rfl⟩
        have A3 := Lib.hid ha3
        rw [ha3] at zh C7
        have C8 := Lib.hid (fun X : World => refnumber_any a3 1 (sByte x) X (by omega) (by decide))
        have eF : sByte x = x.q % 4 + bt1 x.nl 4 + bt1 x.ap 8 + 16 * (x.h % 4) := rfl
        rw [eF] at C8
        have EF := Lib.hid eF
        have i1 := Int.emod_nonneg x.q (show (4 : Int) ≠ 0 by decide)
        have i2 := Int.emod_lt_of_pos x.q (show (0 : Int) < 4 by decide)
        have i3 := Int.emod_nonneg x.h (show (4 : Int) ≠ 0 by decide)
        have i4 := Int.emod_lt_of_pos x.h (show (0 : Int) < 4 by decide)
        have i5 := bt1_bd' x.nl 4 (by decide)
        have i6 := bt1_bd' x.ap 8 (by decide)
        have r1 : IntKind.i64.wrap (x.q % 4 + bt1 x.nl 4) = x.q % 4 + bt1 x.nl 4 := IntWalk.i64_in _ (by omega)
        have r2 : IntKind.i64.wrap (x.q % 4 + bt1 x.nl 4 + bt1 x.ap 8) = x.q % 4 + bt1 x.nl 4 + bt1 x.ap 8 := IntWalk.i64_in _ (by omega)
        have r0 : IntKind.i64.wrap (16 * (x.h % 4)) = 16 * (x.h % 4) := IntWalk.i64_in _ (by omega)
        have r3 : IntKind.i64.wrap (x.q % 4 + bt1 x.nl 4 + bt1 x.ap 8 + 16 * (x.h % 4)) = x.q % 4 + bt1 x.nl 4 + bt1 x.ap 8 + 16 * (x.h % 4) := IntWalk.i64_in _ (by omega)
        clear ha1 ha2 ha3 eF i1 i2 i3 i4 i5 i6 hY hfx
        have y0 : Y.cell? ⟨wr.heap.size, 0, none⟩ = some (.string x.f) := Q0.out.cell 0
        go_wp2_with fail
        rw [HY.out]
        (with_reducible refine (C5.out _).mono ?_)
        rintro e v1 ⟨rfl, b1⟩
        have G1 := Lib.hid (G0.out.step b1)
        have Q1 := Lib.hid (Q0.out.of_below b1)
        have L1 := Lib.hid (G1.out.put a1)
        have M1 := Lib.hid ((Q1.out.other hne' 0 (.string (a1).s)).other hne' 1 (.int .i64 (a1).c))
        clear b1 p0 p1 f0 f1
        have p0 : v1.cell? ⟨w.heap.size, 0, none⟩ = some (.string ok.s) := G1.out.ob.cell 0
        have p1 : v1.cell? ⟨w.heap.size, 1, none⟩ = some (.int .i64 ok.c) := G1.out.ob.cell 1
        have f0 := G1.out.ob.frozen 0
        have f1 := G1.out.ob.frozen 1
        have y1_1 : v1.cell? ⟨wr.heap.size, 1, none⟩ = some (.int .i64 x.q) := Q1.out.cell 1
        go_wp2_with fail
        (with_reducible refine (C6.out _).mono ?_)
        rintro e v2 ⟨rfl, b2⟩
        have G2 := Lib.hid (L1.out.step b2)
        have Q2 := Lib.hid (M1.out.of_below b2)
        have L2 := Lib.hid (G2.out.put a2)
        have M2 := Lib.hid ((Q2.out.other hne' 0 (.string (a2).s)).other hne' 1 (.int .i64 (a2).c))
        clear b2 p0 p1 f0 f1
        have p0 : v2.cell? ⟨w.heap.size, 0, none⟩ = some (.string a1.s) := G2.out.ob.cell 0
        have p1 : v2.cell? ⟨w.heap.size, 1, none⟩ = some (.int .i64 a1.c) := G2.out.ob.cell 1
        have f0 := G2.out.ob.frozen 0
        have f1 := G2.out.ob.frozen 1
        have y2_4 : v2.cell? ⟨wr.heap.size, 4, none⟩ = some (.int .i64 x.h) := Q2.out.cell 4
        go_wp2_with fail
        (with_reducible refine (C7.out _).mono ?_)
        rintro e v3 ⟨rfl, b3⟩
        have G3 := Lib.hid (L2.out.step b3)
        have Q3 := Lib.hid (M2.out.of_below b3)
        have L3 := Lib.hid (G3.out.put a3)
        have M3 := Lib.hid ((Q3.out.other hne' 0 (.string (a3).s)).other hne' 1 (.int .i64 (a3).c))
        clear b3 p0 p1 f0 f1
        have p0 : v3.cell? ⟨w.heap.size, 0, none⟩ = some (.string a2.s) := G3.out.ob.cell 0
        have p1 : v3.cell? ⟨w.heap.size, 1, none⟩ = some (.int .i64 a2.c) := G3.out.ob.cell 1
        have f0 := G3.out.ob.frozen 0
        have f1 := G3.out.ob.frozen 1
        have y3_1 : v3.cell? ⟨wr.heap.size, 1, none⟩ = some (.int .i64 x.q) := Q3.out.cell 1
        have y3_2 : v3.cell? ⟨wr.heap.size, 2, none⟩ = some (.bool x.nl) := Q3.out.cell 2
        have y3_3 : v3.cell? ⟨wr.heap.size, 3, none⟩ = some (.bool x.ap) := Q3.out.cell 3
        have y3_4 : v3.cell? ⟨wr.heap.size, 4, none⟩ = some (.int .i64 x.h) := Q3.out.cell 4
        go_wp2_with fail
        (with_reducible refine (rlow_any x.q _).mono ?_)
        rintro e w0 ⟨rfl, rfl⟩
        go_wp2_with fail
        (with_reducible refine (rbit_any x.nl 4 _).mono ?_)
        rintro e w0 ⟨rfl, rfl⟩
        go_wp2_with fail
        (with_reducible refine (rbit_any x.ap 8 _).mono ?_)
        rintro e w0 ⟨rfl, rfl⟩
        go_wp2_with fail
        (with_reducible refine (rlow_any x.h _).mono ?_)
        rintro e w0 ⟨rfl, rfl⟩
        go_wp2_with fail
        (with_reducible refine (C8.out _).mono ?_)
        rintro e v4 ⟨rfl, b4⟩
        have G4 := Lib.hid (L3.out.step b4)
        have Q4 := Lib.hid (M3.out.of_below b4)
        have L4 := Lib.hid (G4.out.put (wNum 1 a3 (x.q % 4 + bt1 x.nl 4 + bt1 x.ap 8 + 16 * (x.h % 4))))
        have M4 := Lib.hid ((Q4.out.other hne' 0 (.string ((wNum 1 a3 (x.q % 4 + bt1 x.nl 4 + bt1 x.ap 8 + 16 * (x.h % 4)))).s)).other hne' 1 (.int .i64 ((wNum 1 a3 (x.q % 4 + bt1 x.nl 4 + bt1 x.ap 8 + 16 * (x.h % 4)))).c))
        clear b4 p0 p1 f0 f1
        have p0 : v4.cell? ⟨w.heap.size, 0, none⟩ = some (.string a3.s) := G4.out.ob.cell 0
        have p1 : v4.cell? ⟨w.heap.size, 1, none⟩ = some (.int .i64 a3.c) := G4.out.ob.cell 1
        have f0 := G4.out.ob.frozen 0
        have f1 := G4.out.ob.frozen 1
        go_wp2
        go_roundw
        case rel => exact ⟨k + 1, by go_num, by omega, by rw [HX.out]; unfold wSub; rw [A1.out, A2.out, A3.out, EF.out]; exact L4⟩
        case measure => simp [intOf]; omega
      · have hkK : k = m.s.n := by omega
        have HE : Hid (wLists' o p = wFold wSub o3 p.subs k) := Lib.hid (by rw [HF.out]; congr 1; omega)
        obtain ⟨ok, hok⟩ : ∃ y, wFold wSub o3 p.subs k = y := ⟨_, rfl⟩
        rw [hok] at hw HE
        have p0 : wr.cell? ⟨w.heap.size, 0, none⟩ = some (.string ok.s) := hw.out.ob.cell 0
        have p1 : wr.cell? ⟨w.heap.size, 1, none⟩ = some (.int .i64 ok.c) := hw.out.ob.cell 1
        have q0 : wr.cell? ⟨w.heap.size + 2, 0, none⟩ = some (.string ⟨#[]⟩) := hw.out.qb.cell 0
        have q1 : wr.cell? ⟨w.heap.size + 2, 1, none⟩ = some (.int .i64 0) := hw.out.qb.cell 1
        have g0 := hw.out.qb.frozen 0
        have g1 := hw.out.qb.frozen 1
        have k8 : wr.cell? ⟨w.heap.size + 1, 24, none⟩ = some (.slice m.s.A m.s.n m.s.cap) := hw.out.kb.cell 24
        subst hkK
        clear hok
        go_wp2
        refine bodyPost_ret (v := .agg #[.string ok.s, .int .i64 ok.c]) (by simp [results, Tryd.results50, go_sem, q0, q1]) rfl ?_
        rw [HE.out]
        exact ⟨rfl, (hw.out.below.setCell (Nat.le_add_right _ 2) _).setCell (Nat.le_add_right _ 2) _⟩
  · clear hP
    have p0 : W.cell? ⟨w.heap.size, 0, none⟩ = some (.string o.s) := H0.out.ob.cell 0
    have p1 : W.cell? ⟨w.heap.size, 1, none⟩ = some (.int .i64 o.c) := H0.out.ob.cell 1
    have q0 : W.cell? ⟨w.heap.size + 2, 0, none⟩ = some (.string ⟨#[]⟩) := H0.out.qb.cell 0
    have q1 : W.cell? ⟨w.heap.size + 2, 1, none⟩ = some (.int .i64 0) := H0.out.qb.cell 1
    have f0 := H0.out.ob.frozen 0
    have f1 := H0.out.ob.frozen 1
    have g0 := H0.out.qb.frozen 0
    have g1 := H0.out.qb.frozen 1
    have k4 : W.cell? ⟨w.heap.size + 1, 4, none⟩ = some (.int .i64 p.id) := H0.out.kb.cell 4
    clear h0
    go_enter Tryd.func50, Tryd.ntmps50
    have C1 := Lib.hid (fun (X : World) (hX : Below w.heap.size w X) => rid_any o p.id X (by omega))
    go_wp2_with fail
    (with_reducible refine (C1.out _ H0.out.below).mono ?_)
    rintro e w1 ⟨rfl, b1⟩
    have H1 := Lib.hid (H0.out.step b1)
    obtain ⟨o1, e1⟩ : ∃ x, wId o p.id = x := ⟨_, rfl⟩
    have s1 : o1.s.size ≤ 1048580 := by rw [← e1]; have := id_size o p.id; omega
    have E1 := Lib.hid e1
    try rw [e1]
    clear e1 b1 p0 p1 q0 q1 f0 f1 g0 g1 k4
    have p0 : w1.cell? ⟨w.heap.size, 0, none⟩ = some (.string o.s) := H1.out.ob.cell 0
    have p1 : w1.cell? ⟨w.heap.size, 1, none⟩ = some (.int .i64 o.c) := H1.out.ob.cell 1
    have q0 : w1.cell? ⟨w.heap.size + 2, 0, none⟩ = some (.string ⟨#[]⟩) := H1.out.qb.cell 0
    have q1 : w1.cell? ⟨w.heap.size + 2, 1, none⟩ = some (.int .i64 0) := H1.out.qb.cell 1
    have f0 := H1.out.ob.frozen 0
    have f1 := H1.out.ob.frozen 1
    have g0 := H1.out.qb.frozen 0
    have g1 := H1.out.qb.frozen 1
    have k0 : w1.cell? ⟨w.heap.size + 1, 0, none⟩ = some (.int .i64 p.kind) := H1.out.kb.cell 0
    have k9 : w1.cell? ⟨w.heap.size + 1, 9, none⟩ = some (.slice m.p.A m.p.n m.p.cap) := H1.out.kb.cell 9
    have K2 := Lib.hid (H1.out.put o1)
    have C2 := Lib.hid (fun (X : World) (hX : Below w.heap.size w X) => rprops_any o1 p.kind m.p.A m.p.n m.p.cap p.ps X HP.out.pn HP.out.pc (by have := HP.out.fits.ps.1; have := HP.out.pn; omega) (HP.out.pr.below hX) HP.out.fits.ps.2 (by omega))
    go_wp2_with fail
    (with_reducible refine (C2.out _ K2.out.below).mono ?_)
    rintro e w2 ⟨rfl, b2⟩
    have H2 := Lib.hid (K2.out.step b2)
    obtain ⟨o2, e2⟩ : ∃ x, wProps p.kind o1 p.ps = x := ⟨_, rfl⟩
    have s2 : o2.s.size ≤ 9700000 := by rw [← e2]; have := props_size p.kind o1 p.ps; omega
    have E2 := Lib.hid e2
    try rw [e2]
    clear e2 b2 p0 p1 q0 q1 f0 f1 g0 g1 k0 k9
    have p0 : w2.cell? ⟨w.heap.size, 0, none⟩ = some (.string o1.s) := H2.out.ob.cell 0
    have p1 : w2.cell? ⟨w.heap.size, 1, none⟩ = some (.int .i64 o1.c) := H2.out.ob.cell 1
    have q0 : w2.cell? ⟨w.heap.size + 2, 0, none⟩ = some (.string ⟨#[]⟩) := H2.out.qb.cell 0
    have q1 : w2.cell? ⟨w.heap.size + 2, 1, none⟩ = some (.int .i64 0) := H2.out.qb.cell 1
    have f0 := H2.out.ob.frozen 0
    have f1 := H2.out.ob.frozen 1
    have g0 := H2.out.qb.frozen 0
    have g1 := H2.out.qb.frozen 1
    have k0 : w2.cell? ⟨w.heap.size + 1, 0, none⟩ = some (.int .i64 p.kind) := H2.out.kb.cell 0
    have k24 : w2.cell? ⟨w.heap.size + 1, 24, none⟩ = some (.slice m.s.A m.s.n m.s.cap) := H2.out.kb.cell 24
    have K3 := Lib.hid (H2.out.put o2)
    have C3 := Lib.hid (fun (X : World) (hX : Below w.heap.size w X) => rsome_any o2 (m.s.n : Int) X (by omega))
    go_wp2_with fail
    (with_reducible refine (C3.out _ K3.out.below).mono ?_)
    rintro e w3 ⟨rfl, b3⟩
    have H3 := Lib.hid (K3.out.step b3)
    obtain ⟨o3, e3⟩ : ∃ x, wSome o2 (m.s.n : Int) = x := ⟨_, rfl⟩
    have s3 : o3.s.size ≤ 9700000 := by rw [← e3]; have := Nat.le_of_eq (some_size o2 (m.s.n : Int)); omega
    have E3 := Lib.hid e3
    try rw [e3]
    clear e3 b3 p0 p1 q0 q1 f0 f1 g0 g1 k0 k24
    have p0 : w3.cell? ⟨w.heap.size, 0, none⟩ = some (.string o2.s) := H3.out.ob.cell 0
    have p1 : w3.cell? ⟨w.heap.size, 1, none⟩ = some (.int .i64 o2.c) := H3.out.ob.cell 1
    have q0 : w3.cell? ⟨w.heap.size + 2, 0, none⟩ = some (.string ⟨#[]⟩) := H3.out.qb.cell 0
    have q1 : w3.cell? ⟨w.heap.size + 2, 1, none⟩ = some (.int .i64 0) := H3.out.qb.cell 1
    have f0 := H3.out.ob.frozen 0
    have f1 := H3.out.ob.frozen 1
    have g0 := H3.out.qb.frozen 0
    have g1 := H3.out.qb.frozen 1
    have k24 : w3.cell? ⟨w.heap.size + 1, 24, none⟩ = some (.slice m.s.A m.s.n m.s.cap) := H3.out.kb.cell 24
    have K4 := Lib.hid (H3.out.put o3)
    have HF : Hid (wLists' o p = wFold wSub o3 p.subs 64) := Lib.hid (by
      unfold wLists' wSubs wFold
      rw [if_pos HK.out, E1.out, E2.out, HP.out.sn, E3.out]
      try (congr 1; rw [List.take_eq_take_iff, HP.out.sn]; omega))
    go_wp2
    go_loopw [5] (fun i wr => ∃ k : Nat, i = .int .i64 k ∧ k ≤ 64 ∧ Hid (Rq w (wFold wSub o3 p.subs k) p m ⟨⟨#[]⟩, 0⟩ wr)) (fun i _ => 64 - (intOf i).toNat)
    case atStart => exact ⟨0, rfl, by omega, K4⟩
    case round =>
      obtain ⟨k, rfl, hk, hw⟩ := hrel
      by_cases hlt : k < 64
      · obtain ⟨g, q, e0, hg, hcl⟩ := (SbRow.below HP.out.sr hw.out.below) (by rw [HP.out.sn]; omega)
        obtain ⟨x, hx⟩ : ∃ x, p.subs[k]? = some x := ⟨_, List.getElem?_eq_getElem (by rw [HP.out.sn]; omega)⟩
        obtain ⟨c0, c1, c2, c3, c4⟩ := hcl k x hx
        have hfx := HP.out.fits.subs.2 x (List.mem_of_getElem? hx)
        have hkI : (k : Int) < (m.s.n : Int) := by omega
        have hk64 : (k : Int) < 64 := by omega
        have HX := Lib.hid (wFold_succ (f := wSub) (o := o3) hx)
        have hsz := wFold_size 65538 sub_size o3 p.subs k
        obtain ⟨ok, hok⟩ : ∃ y, wFold wSub o3 p.subs k = y := ⟨_, rfl⟩
        rw [hok] at hw hsz HX
        have k8 : wr.cell? ⟨w.heap.size + 1, 24, none⟩ = some (.slice (some ⟨g, q, none⟩) m.s.n m.s.cap) := (hw.out.kb.cell 24).trans (by show some (Value.slice m.s.A m.s.n m.s.cap) = _; rw [e0])
        have p0 : wr.cell? ⟨w.heap.size, 0, none⟩ = some (.string ok.s) := hw.out.ob.cell 0
        have p1 : wr.cell? ⟨w.heap.size, 1, none⟩ = some (.int .i64 ok.c) := hw.out.ob.cell 1
        have hlo : w.heap.size < wr.heap.size := hw.out.ob.lt
        have hlk : w.heap.size + 1 < wr.heap.size := hw.out.kb.lt
        have f0 := hw.out.ob.frozen 0
        have f1 := hw.out.ob.frozen 1
        clear hcl hx hok e0 hg
        have hne : w.heap.size ≠ wr.heap.size := Nat.ne_of_lt hlo
        have hne' : wr.heap.size ≠ w.heap.size := Ne.symm hne
        have Q0 := Lib.hid (Blk.new wr (sbA x) 64)
        have G0 := Lib.hid (hw.out.step ((Below.refl _ _).alloc (Nat.le_refl _) (.cells (sbA x) 64)))
        obtain ⟨Y, hY⟩ : ∃ Y, wr.alloc (.cells (sbA x) 64) = Y := ⟨_, rfl⟩
        rw [hY] at Q0 G0
        unfold sbA at hY
        have HY := Lib.hid hY
        have C5 := Lib.hid (fun X : World => reftext_any ok x.f X (by omega) (by have := hfx.1; omega))
        have zt := text_size ok x.f
        obtain ⟨a1, ha1⟩ : ∃ y, wText ok x.f = y := ⟨_, rfl⟩
        have A1 := Lib.hid ha1
        rw [ha1] at zt C5
        have C6 := Lib.hid (fun X : World => rqos_any a1 x.q X (by omega))
        have zq := qos_size a1 x.q
        obtain ⟨a2, ha2⟩ : ∃ y, wQos a1 x.q = y := ⟨_, rfl⟩
        have A2 := Lib.hid ha2
        rw [ha2] at zq C6
        have C7 := Lib.hid (fun X : World => rqos_any a2 x.h X (by omega))
        have zh := qos_size a2 x.h
        obtain ⟨a3, ha3⟩ : ∃ y, wQos a2 x.h = y := ⟨_, rfl⟩
        have A3 := Lib.hid ha3
        rw [ha3] at zh C7
        have C8 := Lib.hid (fun X : World => refnumber_any a3 1 (sByte x) X (by omega) (by decide))
        have eF : sByte x = x.q % 4 + bt1 x.nl 4 + bt1 x.ap 8 + 16 * (x.h % 4) := rfl
        rw [eF] at C8
        have EF := Lib.hid eF
        have i1 := Int.emod_nonneg x.q (show (4 : Int) ≠ 0 by decide)
        have i2 := Int.emod_lt_of_pos x.q (show (0 : Int) < 4 by decide)
        have i3 := Int.emod_nonneg x.h (show (4 : Int) ≠ 0 by decide)
        have i4 := Int.emod_lt_of_pos x.h (show (0 : Int) < 4 by decide)
        have i5 := bt1_bd' x.nl 4 (by decide)
        have i6 := bt1_bd' x.ap 8 (by decide)
        have r1 : IntKind.i64.wrap (x.q % 4 + bt1 x.nl 4) = x.q % 4 + bt1 x.nl 4 := IntWalk.i64_in _ (by omega)
        have r2 : IntKind.i64.wrap (x.q % 4 + bt1 x.nl 4 + bt1 x.ap 8) = x.q % 4 + bt1 x.nl 4 + bt1 x.ap 8 := IntWalk.i64_in _ (by omega)
        have r0 : IntKind.i64.wrap (16 * (x.h % 4)) = 16 * (x.h % 4) := IntWalk.i64_in _ (by omega)
        have r3 : IntKind.i64.wrap (x.q % 4 + bt1 x.nl 4 + bt1 x.ap 8 + 16 * (x.h % 4)) = x.q % 4 + bt1 x.nl 4 + bt1 x.ap 8 + 16 * (x.h % 4) := IntWalk.i64_in _ (by omega)
        clear ha1 ha2 ha3 eF i1 i2 i3 i4 i5 i6 hY hfx
        have y0 : Y.cell? ⟨wr.heap.size, 0, none⟩ = some (.string x.f) := Q0.out.cell 0
        go_wp2_with fail
        rw [HY.out]
        (with_reducible refine (C5.out _).mono ?_)
        rintro e v1 ⟨rfl, b1⟩
        have G1 := Lib.hid (G0.out.step b1)
        have Q1 := Lib.hid (Q0.out.of_below b1)
        have L1 := Lib.hid (G1.out.put a1)
        have M1 := Lib.hid ((Q1.out.other hne' 0 (.string (a1).s)).other hne' 1 (.int .i64 (a1).c))
        clear b1 p0 p1 f0 f1
        have p0 : v1.cell? ⟨w.heap.size, 0, none⟩ = some (.string ok.s) := G1.out.ob.cell 0
        have p1 : v1.cell? ⟨w.heap.size, 1, none⟩ = some (.int .i64 ok.c) := G1.out.ob.cell 1
        have f0 := G1.out.ob.frozen 0
        have f1 := G1.out.ob.frozen 1
        have y1_1 : v1.cell? ⟨wr.heap.size, 1, none⟩ = some (.int .i64 x.q) := Q1.out.cell 1
        go_wp2_with fail
        (with_reducible refine (C6.out _).mono ?_)
        rintro e v2 ⟨rfl, b2⟩
        have G2 := Lib.hid (L1.out.step b2)
        have Q2 := Lib.hid (M1.out.of_below b2)
        have L2 := Lib.hid (G2.out.put a2)
        have M2 := Lib.hid ((Q2.out.other hne' 0 (.string (a2).s)).other hne' 1 (.int .i64 (a2).c))
        clear b2 p0 p1 f0 f1
        have p0 : v2.cell? ⟨w.heap.size, 0, none⟩ = some (.string a1.s) := G2.out.ob.cell 0
        have p1 : v2.cell? ⟨w.heap.size, 1, none⟩ = some (.int .i64 a1.c) := G2.out.ob.cell 1
        have f0 := G2.out.ob.frozen 0
        have f1 := G2.out.ob.frozen 1
        have y2_4 : v2.cell? ⟨wr.heap.size, 4, none⟩ = some (.int .i64 x.h) := Q2.out.cell 4
        go_wp2_with fail
        (with_reducible refine (C7.out _).mono ?_)
        rintro e v3 ⟨rfl, b3⟩
        have G3 := Lib.hid (L2.out.step b3)
        have Q3 := Lib.hid (M2.out.of_below b3)
        have L3 := Lib.hid (G3.out.put a3)
        have M3 := Lib.hid ((Q3.out.other hne' 0 (.string (a3).s)).other hne' 1 (.int .i64 (a3).c))
        clear b3 p0 p1 f0 f1
        have p0 : v3.cell? ⟨w.heap.size, 0, none⟩ = some (.string a2.s) := G3.out.ob.cell 0
        have p1 : v3.cell? ⟨w.heap.size, 1, none⟩ = some (.int .i64 a2.c) := G3.out.ob.cell 1
        have f0 := G3.out.ob.frozen 0
        have f1 := G3.out.ob.frozen 1
        have y3_1 : v3.cell? ⟨wr.heap.size, 1, none⟩ = some (.int .i64 x.q) := Q3.out.cell 1
        have y3_2 : v3.cell? ⟨wr.heap.size, 2, none⟩ = some (.bool x.nl) := Q3.out.cell 2
        have y3_3 : v3.cell? ⟨wr.heap.size, 3, none⟩ = some (.bool x.ap) := Q3.out.cell 3
        have y3_4 : v3.cell? ⟨wr.heap.size, 4, none⟩ = some (.int .i64 x.h) := Q3.out.cell 4
        go_wp2_with fail
        (with_reducible refine (rlow_any x.q _).mono ?_)
        rintro e w0 ⟨rfl, rfl⟩
        go_wp2_with fail
        (with_reducible refine (rbit_any x.nl 4 _).mono ?_)
        rintro e w0 ⟨rfl, rfl⟩
        go_wp2_with fail
        (with_reducible refine (rbit_any x.ap 8 _).mono ?_)
        rintro e w0 ⟨rfl, rfl⟩
        go_wp2_with fail
        (with_reducible refine (rlow_any x.h _).mono ?_)
        rintro e w0 ⟨rfl, rfl⟩
        go_wp2_with fail
        (with_reducible refine (C8.out _).mono ?_)
        rintro e v4 ⟨rfl, b4⟩
        have G4 := Lib.hid (L3.out.step b4)
        have Q4 := Lib.hid (M3.out.of_below b4)
        have L4 := Lib.hid (G4.out.put (wNum 1 a3 (x.q % 4 + bt1 x.nl 4 + bt1 x.ap 8 + 16 * (x.h % 4))))
        have M4 := Lib.hid ((Q4.out.other hne' 0 (.string ((wNum 1 a3 (x.q % 4 + bt1 x.nl 4 + bt1 x.ap 8 + 16 * (x.h % 4)))).s)).other hne' 1 (.int .i64 ((wNum 1 a3 (x.q % 4 + bt1 x.nl 4 + bt1 x.ap 8 + 16 * (x.h % 4)))).c))
        clear b4 p0 p1 f0 f1
        have p0 : v4.cell? ⟨w.heap.size, 0, none⟩ = some (.string a3.s) := G4.out.ob.cell 0
        have p1 : v4.cell? ⟨w.heap.size, 1, none⟩ = some (.int .i64 a3.c) := G4.out.ob.cell 1
        have f0 := G4.out.ob.frozen 0
        have f1 := G4.out.ob.frozen 1
        go_wp2
        go_roundw
        case rel => exact ⟨k + 1, by go_num, by omega, by rw [HX.out]; unfold wSub; rw [A1.out, A2.out, A3.out, EF.out]; exact L4⟩
        case measure => simp [intOf]; omega
      · have hkK : k = 64 := by omega
        have HE : Hid (wLists' o p = wFold wSub o3 p.subs k) := Lib.hid (by rw [HF.out]; congr 1; omega)
        obtain ⟨ok, hok⟩ : ∃ y, wFold wSub o3 p.subs k = y := ⟨_, rfl⟩
        rw [hok] at hw HE
        have p0 : wr.cell? ⟨w.heap.size, 0, none⟩ = some (.string ok.s) := hw.out.ob.cell 0
        have p1 : wr.cell? ⟨w.heap.size, 1, none⟩ = some (.int .i64 ok.c) := hw.out.ob.cell 1
        have q0 : wr.cell? ⟨w.heap.size + 2, 0, none⟩ = some (.string ⟨#[]⟩) := hw.out.qb.cell 0
        have q1 : wr.cell? ⟨w.heap.size + 2, 1, none⟩ = some (.int .i64 0) := hw.out.qb.cell 1
        have g0 := hw.out.qb.frozen 0
        have g1 := hw.out.qb.frozen 1
        have k8 : wr.cell? ⟨w.heap.size + 1, 24, none⟩ = some (.slice m.s.A m.s.n m.s.cap) := hw.out.kb.cell 24
        subst hkK
        have hgt : (64 : Int) < (m.s.n : Int) := by omega
        clear hok
        go_wp2
        refine bodyPost_ret (v := .agg #[.string ok.s, .int .i64 ok.c]) (by simp [results, Tryd.results50, go_sem, q0, q1]) rfl ?_
        rw [HE.out]
        exact ⟨rfl, (hw.out.below.setCell (Nat.le_add_right _ 2) _).setCell (Nat.le_add_right _ 2) _⟩
end Go.Proofs.YtlnanenfpapfkaaDoor

/- The document's bytes of a packet are the program's: plain. -/
namespace Go.Proofs.YtlnanenfpapfkaaDoor
set_option linter.unusedVariables false
open Go.RowKit Pl

def wBody' (o : Ot) (p : Pk) : Ot :=
  if p.kind = 1 then wConnect o p else if p.kind = 2 then wConnack o p else if p.kind = 3 then wPublish o p
  else if p.kind = 4 ∨ p.kind = 5 ∨ p.kind = 6 ∨ p.kind = 7 then wEnd (wId o p.id) p
  else if p.kind = 14 ∨ p.kind = 15 then wEnd o p
  else if p.kind = 8 ∨ p.kind = 9 ∨ p.kind = 10 ∨ p.kind = 11 then wLists' o p else o
def wAll' (p : Pk) : Ot := wBody' (wHead p) p
theorem fold_c : ∀ (l : List Int) (o : Ot), o.c ≠ 0 → (l.foldl (wNum 1) o).c = o.c
  | [], o, h => rfl
  | x :: l, o, h => by
    have e : (wNum 1 o x).c = o.c := by
      show mix o.c _ = o.c
      unfold mix
      rw [if_neg h]
    show (l.foldl (wNum 1) (wNum 1 o x)).c = o.c
    rw [fold_c l _ (by rw [e]; exact h), e]
theorem codes_same (o : Ot) (l : List Int) : (wCodes' o l).c = (wCodes o l).c ∧ ((wCodes o l).c = 0 → wCodes' o l = wCodes o l) := by
  by_cases h : l.length ≤ 64
  · have e : wCodes' o l = wCodes o l := by unfold wCodes' wCodes; rw [List.take_of_length_le h]
    exact ⟨by rw [e], fun _ => e⟩
  · have hc : (wSome o l.length).c ≠ 0 := by
      unfold wSome
      rw [if_neg (by omega), if_pos (by omega)]
      show mix o.c 149 ≠ 0
      unfold mix
      split
      · decide
      · assumption
    have e1 : (wCodes' o l).c = (wSome o l.length).c := fold_c _ _ hc
    have e2 : (wCodes o l).c = (wSome o l.length).c := fold_c _ _ hc
    exact ⟨by rw [e1, e2], fun h0 => absurd (e2.symm.trans h0) hc⟩
theorem all_same (p : Pk) : (wAll' p).c = (wAll p).c ∧ ((wAll p).c = 0 → wAll' p = wAll p) := by
  unfold wAll' wAll wBody' wBody
  split
  · exact ⟨rfl, fun _ => rfl⟩
  split
  · exact ⟨rfl, fun _ => rfl⟩
  split
  · exact ⟨rfl, fun _ => rfl⟩
  split
  · exact ⟨rfl, fun _ => rfl⟩
  split
  · exact ⟨rfl, fun _ => rfl⟩
  split
  · unfold wLists' wLists
    split
    · exact ⟨rfl, fun _ => rfl⟩
    split
    · exact ⟨rfl, fun _ => rfl⟩
    exact codes_same _ _
  · exact ⟨rfl, fun _ => rfl⟩
/-- The document's flags: a Publish's QoS whole. -/
def pFlags' (p : Pk) : Int := if p.kind = 3 then bt1 p.dup 8 + 2 * p.q + bt1 p.ret 1 else kFlags p.kind
theorem mix_zero {c d : Int} (h : mix c d = 0) : c = 0 ∧ d = 0 := by
  unfold mix at h
  split at h
  · exact ⟨by assumption, h⟩
  · exact ⟨h, absurd h (by assumption)⟩
theorem num_c {k : Int} {o : Ot} {n : Int} (h : (wNum k o n).c = 0) : o.c = 0 ∧ fixC k n = 0 := mix_zero h
theorem text_c {o : Ot} {t : ByteArray} (h : (wText o t).c = 0) : o.c = 0 ∧ tputC t = 0 := mix_zero h
theorem data_c {o : Ot} {t : ByteArray} (h : (wData o t).c = 0) : o.c = 0 ∧ dataC t = 0 := mix_zero h
theorem add_c {o : Ot} {t : ByteArray} {d : Int} (h : (o.add t d).c = 0) : o.c = 0 ∧ d = 0 := mix_zero h
theorem fail_c {o : Ot} {d : Int} (h : (o.fail d).c = 0) : o.c = 0 ∧ d = 0 := mix_zero h
theorem qos_c {o : Ot} {n : Int} (h : (wQos o n).c = 0) : o.c = 0 ∧ 0 ≤ n ∧ n ≤ 2 ∧ wQos o n = o := by
  by_cases hn : n < 0 ∨ 2 < n
  · unfold wQos at h
    rw [if_pos hn] at h
    exact absurd (fail_c h).2 (by decide)
  · have e : wQos o n = o := by unfold wQos; rw [if_neg hn]
    exact ⟨by rw [e] at h; exact h, by omega, by omega, e⟩
theorem id_c {o : Ot} {n : Int} (h : (wId o n).c = 0) : o.c = 0 ∧ 1 ≤ n ∧ n ≤ 65535 ∧ wId o n = wNum 2 o n := by
  by_cases hn : n < 1 ∨ 65535 < n
  · unfold wId at h
    rw [if_pos hn] at h
    exact absurd (fail_c h).2 (by decide)
  · have e : wId o n = wNum 2 o n := by unfold wId; rw [if_neg hn]
    exact ⟨(num_c (by rw [← e]; exact h)).1, by omega, by omega, e⟩
theorem props_c {k : Int} {o : Ot} {L : List Pp} (h : (wProps k o L).c = 0) : o.c = 0 ∧ ppC L = 0 ∧ okAll k L = true ∧ wProps k o L = o.add (ppS L) (ppC L) := by
  by_cases hn : okAll k L = true
  · have e : wProps k o L = o.add (ppS L) (ppC L) := by unfold wProps; rw [if_pos hn]
    rw [e] at h
    exact ⟨(add_c h).1, (add_c h).2, hn, e⟩
  · unfold wProps at h
    rw [if_neg hn] at h
    exact absurd (fail_c h).2 (by decide)
theorem some_c {o : Ot} {n : Int} (h : (wSome o n).c = 0) : o.c = 0 ∧ n ≠ 0 ∧ n ≤ 64 ∧ wSome o n = o := by
  by_cases h0 : n = 0
  · unfold wSome at h
    rw [if_pos h0] at h
    exact absurd (fail_c h).2 (by decide)
  · by_cases h1 : 64 < n
    · unfold wSome at h
      rw [if_neg h0, if_pos h1] at h
      exact absurd (fail_c h).2 (by decide)
    · have e : wSome o n = o := by unfold wSome; rw [if_neg h0, if_neg h1]
      exact ⟨by rw [e] at h; exact h, h0, by omega, e⟩
/-- A Publish without a code has a QoS. -/
theorem publish_q {p : Pk} (h3 : p.kind = 3) (h : (wAll p).c = 0) : 0 ≤ p.q ∧ p.q ≤ 2 ∧ (p.dup = true → p.q ≠ 0) := by
  unfold wAll wBody at h
  rw [if_neg (by omega), if_neg (by omega), if_pos h3] at h
  unfold wPublish at h
  have h1 := (props_c (add_c h).1).1
  have h2 : (wText (wHead p) p.topic).c = 0 := by
    split at h1
    · exact (id_c h1).1
    · exact h1
  have h4 := (text_c h2).1
  unfold wHead at h4
  rw [if_pos h3] at h4
  split at h4
  · exact absurd (fail_c h4).2 (by decide)
  · rename_i hd
    obtain ⟨_, q0, q1, _⟩ := qos_c h4
    exact ⟨q0, q1, fun hdt hq => hd ⟨hdt, hq⟩⟩
theorem flags_same {p : Pk} (h : (wAll p).c = 0) : pFlags' p = pFlags p := by
  unfold pFlags' pFlags
  split
  · rename_i h3
    obtain ⟨q0, q1, _⟩ := publish_q h3 h
    have : p.q % 4 = p.q := Int.emod_eq_of_lt q0 (by omega)
    rw [this]
  · rfl
end Go.Proofs.YtlnanenfpapfkaaDoor
