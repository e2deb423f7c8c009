/- The walks of the document's flags, end, connect. -/
import Derived.Test.YtlnanenfpapfkaaDoorPPP14
set_option linter.unusedVariables false
namespace Go.Proofs.YtlnanenfpapfkaaDoor
open Go.RowKit Pl

/-- The blocks of a part's own that takes a packet. -/
structure Rq (w : World) (o : Ot) (p : Pk) (m : Hs) (r : Ot) (W : World) : Prop where
  below : Below w.heap.size w W
  ob : Blk W w.heap.size (otA o) 81
  kb : Blk W (w.heap.size + 1) (pkA .i64 p m) 45
  qb : Blk W (w.heap.size + 2) (otA r) 81
theorem Rq.new (w : World) (o : Ot) (p : Pk) (m : Hs) : Rq w o p m ⟨⟨#[]⟩, 0⟩ (((w.alloc (.cells #[.string o.s, .int .i64 o.c] 81)).alloc (.cells (pkA .i64 p m) 45)).alloc (.cells #[.string ⟨#[]⟩, .int .i64 0] 81)) := by
  have hk := Blk.new (w.alloc (.cells #[.string o.s, .int .i64 o.c] 81)) (pkA .i64 p m) 45
  rw [show (w.alloc (.cells #[.string o.s, .int .i64 o.c] 81)).heap.size = w.heap.size + 1 from by simp] at hk
  have hq := Blk.new ((w.alloc (.cells #[.string o.s, .int .i64 o.c] 81)).alloc (.cells (pkA .i64 p m) 45)) #[.string ⟨#[]⟩, .int .i64 0] 81
  rw [show ((w.alloc (.cells #[.string o.s, .int .i64 o.c] 81)).alloc (.cells (pkA .i64 p m) 45)).heap.size = w.heap.size + 2 from by simp] at hq
  exact ⟨(((Below.refl _ _).alloc (Nat.le_refl _) _).alloc (by simp) _).alloc (by simp; omega) _, ((Blk.new w #[.string o.s, .int .i64 o.c] 81).alloc _).alloc _, hk.alloc _, hq⟩
theorem Rq.step {w : World} {o : Ot} {p : Pk} {m : Hs} {r : Ot} {W W' : World} (h : Rq w o p m r W) (b : Below W.heap.size W W') : Rq w o p m r W' := ⟨h.below.trans (b.mono h.below.size), h.ob.of_below b, h.kb.of_below b, h.qb.of_below b⟩
theorem Rq.put {w : World} {o : Ot} {p : Pk} {m : Hs} {r : Ot} {W : World} (h : Rq w o p m r W) (x : Ot) : Rq w x p m r ((W.setCell ⟨w.heap.size, 0, none⟩ (.string x.s)).setCell ⟨w.heap.size, 1, none⟩ (.int .i64 x.c)) :=
  ⟨(h.below.setCell (Nat.le_refl _) _).setCell (Nat.le_refl _) _, (h.ob.set 0 (.string x.s)).set 1 (.int .i64 x.c), (h.kb.other (by omega) _ _).other (by omega) _ _, (h.qb.other (by omega) _ _).other (by omega) _ _⟩
theorem bt1_bd' (b : Bool) (n : Int) (h : 0 ≤ n) : 0 ≤ bt1 b n ∧ bt1 b n ≤ n := by unfold bt1; split <;> omega

set_option maxRecDepth 100000 in
set_option maxHeartbeats 8000000 in
theorem rend_any (o : Ot) (p : Pk) (m : Hs) (w : World) (hP : PkIn .i64 w p m) (hs : o.s.size ≤ 1048576) :
    Calls Tryd.prog 49 #[.agg #[.string o.s, .int .i64 o.c], pkV .i64 p m] w fun e w' => RPost (wEnd o p) w w' e := by
  have h0 := Rq.new w o p m
  obtain ⟨W, hW⟩ : ∃ W, ((w.alloc (.cells #[.string o.s, .int .i64 o.c] 81)).alloc (.cells (pkA .i64 p m) 45)).alloc (.cells #[.string ⟨#[]⟩, .int .i64 0] 81) = W := ⟨_, rfl⟩
  rw [hW] at h0
  unfold pkA at hW
  have H0 := Lib.hid h0
  have HP := Lib.hid hP
  have hpn := hP.pn
  unfold pkV pkA
  by_cases hl : p.ps.length = 0
  · by_cases hc0 : p.code = 0
    · have e0 : wEnd o p = o := by unfold wEnd; rw [if_pos hl, if_pos hc0]
      rw [e0]
      have hn : m.p.n = 0 := by omega
      have p0 : W.cell? ⟨w.heap.size, 0, none⟩ = some (.string o.s) := H0.out.ob.cell 0
      have p1 : W.cell? ⟨w.heap.size, 1, none⟩ = some (.int .i64 o.c) := H0.out.ob.cell 1
      have q0 : W.cell? ⟨w.heap.size + 2, 0, none⟩ = some (.string ⟨#[]⟩) := H0.out.qb.cell 0
      have q1 : W.cell? ⟨w.heap.size + 2, 1, none⟩ = some (.int .i64 0) := H0.out.qb.cell 1
      have f0 := H0.out.ob.frozen 0
      have f1 := H0.out.ob.frozen 1
      have g0 := H0.out.qb.frozen 0
      have g1 := H0.out.qb.frozen 1
      have k7 : W.cell? ⟨w.heap.size + 1, 7, none⟩ = some (.int .i64 0) := (H0.out.kb.cell 7).trans (by show some (Value.int .i64 p.code) = _; rw [hc0])
      have k9 : W.cell? ⟨w.heap.size + 1, 9, none⟩ = some (.slice m.p.A m.p.n m.p.cap) := H0.out.kb.cell 9
      rw [hn] at k9 hW
      try rw [hc0] at hW
      rw [hn]
      try rw [hc0]
      clear h0 hP e0 hl hn hc0
      go_enter Tryd.func49, Tryd.ntmps49
      go_wp2
      refine bodyPost_ret (v := .agg #[.string o.s, .int .i64 o.c]) (by simp [results, Tryd.results49, go_sem, q0, q1]) rfl ?_
      exact ⟨rfl, ((H0.out.below.setCell (Nat.le_add_right _ 2) _).setCell (Nat.le_add_right _ 2) _)⟩
    · have e0 : wEnd o p = wNum 1 o p.code := by unfold wEnd; rw [if_pos hl, if_neg hc0]
      rw [e0]
      have hn : m.p.n = 0 := by omega
      have hc1 : (p.code == 0) = false := beq_eq_false_iff_ne.2 hc0
      have hc2 : (p.code != 0) = true := by rw [bne, hc1]; rfl
      have p0 : W.cell? ⟨w.heap.size, 0, none⟩ = some (.string o.s) := H0.out.ob.cell 0
      have p1 : W.cell? ⟨w.heap.size, 1, none⟩ = some (.int .i64 o.c) := H0.out.ob.cell 1
      have q0 : W.cell? ⟨w.heap.size + 2, 0, none⟩ = some (.string ⟨#[]⟩) := H0.out.qb.cell 0
      have q1 : W.cell? ⟨w.heap.size + 2, 1, none⟩ = some (.int .i64 0) := H0.out.qb.cell 1
      have f0 := H0.out.ob.frozen 0
      have f1 := H0.out.ob.frozen 1
      have g0 := H0.out.qb.frozen 0
      have g1 := H0.out.qb.frozen 1
      have k7 : W.cell? ⟨w.heap.size + 1, 7, none⟩ = some (.int .i64 p.code) := H0.out.kb.cell 7
      have k9 : W.cell? ⟨w.heap.size + 1, 9, none⟩ = some (.slice m.p.A m.p.n m.p.cap) := H0.out.kb.cell 9
      rw [hn] at k9 hW
      rw [hn]
      clear h0 hP e0 hl hc0
      go_enter Tryd.func49, Tryd.ntmps49
      have C1 := Lib.hid (fun (X : World) (hX : Below w.heap.size w X) => refnumber_any o 1 p.code X (by omega) (by decide))
      go_wp2_with fail
      (with_reducible refine (C1.out _ H0.out.below).mono ?_)
      rintro e w1 ⟨rfl, b1⟩
      have H1 := Lib.hid (H0.out.step b1)
      obtain ⟨o1, e1⟩ : ∃ x, wNum 1 o p.code = x := ⟨_, rfl⟩
      have s1 : o1.s.size ≤ 1048577 := by rw [← e1]; have := num_size 1 o p.code; have : (1 : Int).toNat = 1 := rfl; omega
      have E1 := Lib.hid e1
      try rw [e1]
      clear e1 b1 p0 p1 q0 q1 f0 f1 g0 g1 k7 k9
      have p0 : w1.cell? ⟨w.heap.size, 0, none⟩ = some (.string o.s) := H1.out.ob.cell 0
      have p1 : w1.cell? ⟨w.heap.size, 1, none⟩ = some (.int .i64 o.c) := H1.out.ob.cell 1
      have q0 : w1.cell? ⟨w.heap.size + 2, 0, none⟩ = some (.string ⟨#[]⟩) := H1.out.qb.cell 0
      have q1 : w1.cell? ⟨w.heap.size + 2, 1, none⟩ = some (.int .i64 0) := H1.out.qb.cell 1
      have f0 := H1.out.ob.frozen 0
      have f1 := H1.out.ob.frozen 1
      have g0 := H1.out.qb.frozen 0
      have g1 := H1.out.qb.frozen 1
      have k7 : w1.cell? ⟨w.heap.size + 1, 7, none⟩ = some (.int .i64 p.code) := H1.out.kb.cell 7
      have k9 : w1.cell? ⟨w.heap.size + 1, 9, none⟩ = some (.slice m.p.A m.p.n m.p.cap) := H1.out.kb.cell 9
      rw [hn] at k9
      go_wp2
      refine bodyPost_ret (v := .agg #[.string o1.s, .int .i64 o1.c]) (by simp [results, Tryd.results49, go_sem, q0, q1]) rfl ?_
      rw [E1.out]
      exact ⟨rfl, ((((H1.out.below.setCell (Nat.le_refl _) _).setCell (Nat.le_refl _) _).setCell (Nat.le_add_right _ 2) _).setCell (Nat.le_add_right _ 2) _)⟩
  · by_cases hc0 : p.code = 0
    · have e0 : wEnd o p = wProps p.kind (wNum 1 o 0) p.ps := by unfold wEnd; rw [if_neg hl, hc0]
      rw [e0]
      have hn : (0 : Int) < (m.p.n : Int) := by omega
      have hn2 : decide (0 < m.p.n) = true := decide_eq_true (by omega)
      have p0 : W.cell? ⟨w.heap.size, 0, none⟩ = some (.string o.s) := H0.out.ob.cell 0
      have p1 : W.cell? ⟨w.heap.size, 1, none⟩ = some (.int .i64 o.c) := H0.out.ob.cell 1
      have q0 : W.cell? ⟨w.heap.size + 2, 0, none⟩ = some (.string ⟨#[]⟩) := H0.out.qb.cell 0
      have q1 : W.cell? ⟨w.heap.size + 2, 1, none⟩ = some (.int .i64 0) := H0.out.qb.cell 1
      have f0 := H0.out.ob.frozen 0
      have f1 := H0.out.ob.frozen 1
      have g0 := H0.out.qb.frozen 0
      have g1 := H0.out.qb.frozen 1
      have k7 : W.cell? ⟨w.heap.size + 1, 7, none⟩ = some (.int .i64 0) := (H0.out.kb.cell 7).trans (by show some (Value.int .i64 p.code) = _; rw [hc0])
      have k9 : W.cell? ⟨w.heap.size + 1, 9, none⟩ = some (.slice m.p.A m.p.n m.p.cap) := H0.out.kb.cell 9
      rw [hc0] at hW ⊢
      clear h0 hP e0 hl
      go_enter Tryd.func49, Tryd.ntmps49
      have C1 := Lib.hid (fun (X : World) (hX : Below w.heap.size w X) => refnumber_any o 1 0 X (by omega) (by decide))
      go_wp2_with fail
      (with_reducible refine (C1.out _ H0.out.below).mono ?_)
      rintro e w1 ⟨rfl, b1⟩
      have H1 := Lib.hid (H0.out.step b1)
      obtain ⟨o1, e1⟩ : ∃ x, wNum 1 o 0 = x := ⟨_, rfl⟩
      have s1 : o1.s.size ≤ 1048577 := by rw [← e1]; have := num_size 1 o 0; have : (1 : Int).toNat = 1 := rfl; omega
      have E1 := Lib.hid e1
      try rw [e1]
      clear e1 b1 p0 p1 q0 q1 f0 f1 g0 g1 k7 k9
      have p0 : w1.cell? ⟨w.heap.size, 0, none⟩ = some (.string o.s) := H1.out.ob.cell 0
      have p1 : w1.cell? ⟨w.heap.size, 1, none⟩ = some (.int .i64 o.c) := H1.out.ob.cell 1
      have q0 : w1.cell? ⟨w.heap.size + 2, 0, none⟩ = some (.string ⟨#[]⟩) := H1.out.qb.cell 0
      have q1 : w1.cell? ⟨w.heap.size + 2, 1, none⟩ = some (.int .i64 0) := H1.out.qb.cell 1
      have f0 := H1.out.ob.frozen 0
      have f1 := H1.out.ob.frozen 1
      have g0 := H1.out.qb.frozen 0
      have g1 := H1.out.qb.frozen 1
      have k0 : w1.cell? ⟨w.heap.size + 1, 0, none⟩ = some (.int .i64 p.kind) := H1.out.kb.cell 0
      have k9 : w1.cell? ⟨w.heap.size + 1, 9, none⟩ = some (.slice m.p.A m.p.n m.p.cap) := H1.out.kb.cell 9
      have K2 := Lib.hid (H1.out.put o1)
      have C2 := Lib.hid (fun (X : World) (hX : Below w.heap.size w X) => rprops_any o1 p.kind m.p.A m.p.n m.p.cap p.ps X HP.out.pn HP.out.pc (by have := HP.out.fits.ps.1; have := HP.out.pn; omega) (HP.out.pr.below hX) HP.out.fits.ps.2 (by omega))
      go_wp2_with fail
      (with_reducible refine (C2.out _ K2.out.below).mono ?_)
      rintro e w2 ⟨rfl, b2⟩
      have H2 := Lib.hid (K2.out.step b2)
      obtain ⟨o2, e2⟩ : ∃ x, wProps p.kind o1 p.ps = x := ⟨_, rfl⟩
      have s2 : o2.s.size ≤ 9700000 := by rw [← e2]; have := props_size p.kind o1 p.ps; omega
      have E2 := Lib.hid e2
      try rw [e2]
      clear e2 b2 p0 p1 q0 q1 f0 f1 g0 g1 k0 k9
      have p0 : w2.cell? ⟨w.heap.size, 0, none⟩ = some (.string o1.s) := H2.out.ob.cell 0
      have p1 : w2.cell? ⟨w.heap.size, 1, none⟩ = some (.int .i64 o1.c) := H2.out.ob.cell 1
      have q0 : w2.cell? ⟨w.heap.size + 2, 0, none⟩ = some (.string ⟨#[]⟩) := H2.out.qb.cell 0
      have q1 : w2.cell? ⟨w.heap.size + 2, 1, none⟩ = some (.int .i64 0) := H2.out.qb.cell 1
      have f0 := H2.out.ob.frozen 0
      have f1 := H2.out.ob.frozen 1
      have g0 := H2.out.qb.frozen 0
      have g1 := H2.out.qb.frozen 1
      go_wp2
      refine bodyPost_ret (v := .agg #[.string o2.s, .int .i64 o2.c]) (by simp [results, Tryd.results49, go_sem, q0, q1]) rfl ?_
      rw [E1.out, E2.out]
      exact ⟨rfl, ((((H2.out.below.setCell (Nat.le_refl _) _).setCell (Nat.le_refl _) _).setCell (Nat.le_add_right _ 2) _).setCell (Nat.le_add_right _ 2) _)⟩
    · have e0 : wEnd o p = wProps p.kind (wNum 1 o p.code) p.ps := by unfold wEnd; rw [if_neg hl]
      rw [e0]
      have hn : (0 : Int) < (m.p.n : Int) := by omega
      have hn2 : decide (0 < m.p.n) = true := decide_eq_true (by omega)
      have hc1 : (p.code == 0) = false := beq_eq_false_iff_ne.2 hc0
      have hc2 : (p.code != 0) = true := by rw [bne, hc1]; rfl
      have p0 : W.cell? ⟨w.heap.size, 0, none⟩ = some (.string o.s) := H0.out.ob.cell 0
      have p1 : W.cell? ⟨w.heap.size, 1, none⟩ = some (.int .i64 o.c) := H0.out.ob.cell 1
      have q0 : W.cell? ⟨w.heap.size + 2, 0, none⟩ = some (.string ⟨#[]⟩) := H0.out.qb.cell 0
      have q1 : W.cell? ⟨w.heap.size + 2, 1, none⟩ = some (.int .i64 0) := H0.out.qb.cell 1
      have f0 := H0.out.ob.frozen 0
      have f1 := H0.out.ob.frozen 1
      have g0 := H0.out.qb.frozen 0
      have g1 := H0.out.qb.frozen 1
      have k7 : W.cell? ⟨w.heap.size + 1, 7, none⟩ = some (.int .i64 p.code) := H0.out.kb.cell 7
      have k9 : W.cell? ⟨w.heap.size + 1, 9, none⟩ = some (.slice m.p.A m.p.n m.p.cap) := H0.out.kb.cell 9
      clear h0 hP e0 hl
      go_enter Tryd.func49, Tryd.ntmps49
      have C1 := Lib.hid (fun (X : World) (hX : Below w.heap.size w X) => refnumber_any o 1 p.code X (by omega) (by decide))
      go_wp2_with fail
      (with_reducible refine (C1.out _ H0.out.below).mono ?_)
      rintro e w1 ⟨rfl, b1⟩
      have H1 := Lib.hid (H0.out.step b1)
      obtain ⟨o1, e1⟩ : ∃ x, wNum 1 o p.code = x := ⟨_, rfl⟩
      have s1 : o1.s.size ≤ 1048577 := by rw [← e1]; have := num_size 1 o p.code; have : (1 : Int).toNat = 1 := rfl; omega
      have E1 := Lib.hid e1
      try rw [e1]
      clear e1 b1 p0 p1 q0 q1 f0 f1 g0 g1 k7 k9
      have p0 : w1.cell? ⟨w.heap.size, 0, none⟩ = some (.string o.s) := H1.out.ob.cell 0
      have p1 : w1.cell? ⟨w.heap.size, 1, none⟩ = some (.int .i64 o.c) := H1.out.ob.cell 1
      have q0 : w1.cell? ⟨w.heap.size + 2, 0, none⟩ = some (.string ⟨#[]⟩) := H1.out.qb.cell 0
      have q1 : w1.cell? ⟨w.heap.size + 2, 1, none⟩ = some (.int .i64 0) := H1.out.qb.cell 1
      have f0 := H1.out.ob.frozen 0
      have f1 := H1.out.ob.frozen 1
      have g0 := H1.out.qb.frozen 0
      have g1 := H1.out.qb.frozen 1
      have k0 : w1.cell? ⟨w.heap.size + 1, 0, none⟩ = some (.int .i64 p.kind) := H1.out.kb.cell 0
      have k9 : w1.cell? ⟨w.heap.size + 1, 9, none⟩ = some (.slice m.p.A m.p.n m.p.cap) := H1.out.kb.cell 9
      have K2 := Lib.hid (H1.out.put o1)
      have C2 := Lib.hid (fun (X : World) (hX : Below w.heap.size w X) => rprops_any o1 p.kind m.p.A m.p.n m.p.cap p.ps X HP.out.pn HP.out.pc (by have := HP.out.fits.ps.1; have := HP.out.pn; omega) (HP.out.pr.below hX) HP.out.fits.ps.2 (by omega))
      go_wp2_with fail
      (with_reducible refine (C2.out _ K2.out.below).mono ?_)
      rintro e w2 ⟨rfl, b2⟩
      have H2 := Lib.hid (K2.out.step b2)
      obtain ⟨o2, e2⟩ : ∃ x, wProps p.kind o1 p.ps = x := ⟨_, rfl⟩
      have s2 : o2.s.size ≤ 9700000 := by rw [← e2]; have := props_size p.kind o1 p.ps; omega
      have E2 := Lib.hid e2
      try rw [e2]
      clear e2 b2 p0 p1 q0 q1 f0 f1 g0 g1 k0 k9
      have p0 : w2.cell? ⟨w.heap.size, 0, none⟩ = some (.string o1.s) := H2.out.ob.cell 0
      have p1 : w2.cell? ⟨w.heap.size, 1, none⟩ = some (.int .i64 o1.c) := H2.out.ob.cell 1
      have q0 : w2.cell? ⟨w.heap.size + 2, 0, none⟩ = some (.string ⟨#[]⟩) := H2.out.qb.cell 0
      have q1 : w2.cell? ⟨w.heap.size + 2, 1, none⟩ = some (.int .i64 0) := H2.out.qb.cell 1
      have f0 := H2.out.ob.frozen 0
      have f1 := H2.out.ob.frozen 1
      have g0 := H2.out.qb.frozen 0
      have g1 := H2.out.qb.frozen 1
      go_wp2
      refine bodyPost_ret (v := .agg #[.string o2.s, .int .i64 o2.c]) (by simp [results, Tryd.results49, go_sem, q0, q1]) rfl ?_
      rw [E1.out, E2.out]
      exact ⟨rfl, ((((H2.out.below.setCell (Nat.le_refl _) _).setCell (Nat.le_refl _) _).setCell (Nat.le_add_right _ 2) _).setCell (Nat.le_add_right _ 2) _)⟩
end Go.Proofs.YtlnanenfpapfkaaDoor
