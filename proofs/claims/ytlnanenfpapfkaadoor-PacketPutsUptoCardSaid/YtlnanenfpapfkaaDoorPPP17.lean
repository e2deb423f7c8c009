/- The walk of the document's lists. -/
import Derived.Test.YtlnanenfpapfkaaDoorPPP16
import Derived.Test.YtlnanenfpapfkaaDoorPPP11
import Derived.StillTailTactics
set_option linter.unusedVariables false
namespace Go.Proofs.YtlnanenfpapfkaaDoor
open Go.RowKit Pl

theorem Rq.drew {w : World} {o : Ot} {p : Pk} {m : Hs} {r : Ot} {W : World} (h : Rq w o p m r W) : Rq w o p m r W.drew := ⟨h.below.drew, h.ob.drew, h.kb.drew, h.qb.drew⟩
theorem num1_size' (o : Ot) (n : Int) : (wNum 1 o n).s.size ≤ o.s.size + 1 := num_size 1 o n
/-- What a round of a list reads. -/
abbrev S4r (X : World) (B : Nat) (o : Ot) (j : Nat) (v : Value) (g q : Nat) (x : Value) : Prop := X.cell? ⟨B, 0, none⟩ = some (.string o.s) ∧ X.cell? ⟨B, 1, none⟩ = some (.int .i64 o.c) ∧ X.cell? ⟨B + 1, j, none⟩ = some v ∧ X.cell? ⟨g, q, none⟩ = some x
theorem S4r.below {X X' : World} {B : Nat} {o : Ot} {j : Nat} {v : Value} {g q : Nat} {x : Value} (h : S4r X B o j v g q x) (b : Below X.heap.size X X') (h1 : B < X.heap.size) (h2 : B + 1 < X.heap.size) (h3 : g < X.heap.size) : S4r X' B o j v g q x :=
  ⟨(b.cell (p := ⟨B, 0, none⟩) h1).trans h.1, (b.cell (p := ⟨B, 1, none⟩) h1).trans h.2.1, (b.cell (p := ⟨B + 1, j, none⟩) h2).trans h.2.2.1, (b.cell (p := ⟨g, q, none⟩) h3).trans h.2.2.2⟩

set_option maxRecDepth 100000 in
set_option maxHeartbeats 8000000 in
theorem rlists_codes (o : Ot) (p : Pk) (m : Hs) (w : World) (hP : PkIn .i64 w p m) (hs : o.s.size ≤ 1048576) (hk : p.kind ≠ 8 ∧ p.kind ≠ 10) :
    Calls Tryd.prog 50 #[.agg #[.string o.s, .int .i64 o.c], pkV .i64 p m] w fun e w' => RPost (wLists' o p) w w' e := by
  have h0 := Rq.new w o p m
  obtain ⟨W, hW⟩ : ∃ W, ((w.alloc (.cells #[.string o.s, .int .i64 o.c] 81)).alloc (.cells (pkA .i64 p m) 45)).alloc (.cells #[.string ⟨#[]⟩, .int .i64 0] 81) = W := ⟨_, rfl⟩
  rw [hW] at h0
  unfold pkA at hW
  have H0 := Lib.hid h0
  have HP := Lib.hid hP
  have hpn := hP.pn
  have HK := Lib.hid hk
  have hk8 : (p.kind == 8) = false := beq_eq_false_iff_ne.2 hk.1
  have hk10 : (p.kind == 10) = false := beq_eq_false_iff_ne.2 hk.2
  have hnB : m.c.n ≤ 1048576 := by have := HP.out.fits.codes.1; have := HP.out.cn; omega
  clear hk hpn
  unfold pkV pkA
  by_cases hle : m.c.n ≤ 64
  · clear hP
    have p0 : W.cell? ⟨w.heap.size, 0, none⟩ = some (.string o.s) := H0.out.ob.cell 0
    have p1 : W.cell? ⟨w.heap.size, 1, none⟩ = some (.int .i64 o.c) := H0.out.ob.cell 1
    have q0 : W.cell? ⟨w.heap.size + 2, 0, none⟩ = some (.string ⟨#[]⟩) := H0.out.qb.cell 0
    have q1 : W.cell? ⟨w.heap.size + 2, 1, none⟩ = some (.int .i64 0) := H0.out.qb.cell 1
    have f0 := H0.out.ob.frozen 0
    have f1 := H0.out.ob.frozen 1
    have g0 := H0.out.qb.frozen 0
    have g1 := H0.out.qb.frozen 1
    have k4 : W.cell? ⟨w.heap.size + 1, 4, none⟩ = some (.int .i64 p.id) := H0.out.kb.cell 4
    clear h0
    go_enter Tryd.func50, Tryd.ntmps50
    have C1 := Lib.hid (fun (X : World) (hX : Below w.heap.size w X) => rid_any o p.id X (by omega))
    go_wp2_with fail
    (with_reducible refine (C1.out _ H0.out.below).mono ?_)
    rintro e w1 ⟨rfl, b1⟩
    have H1 := Lib.hid (H0.out.step b1)
    obtain ⟨o1, e1⟩ : ∃ x, wId o p.id = x := ⟨_, rfl⟩
    have s1 : o1.s.size ≤ 1048580 := by rw [← e1]; have := id_size o p.id; omega
    have E1 := Lib.hid e1
    try rw [e1]
    clear e1 b1 p0 p1 q0 q1 f0 f1 g0 g1 k4
    have p0 : w1.cell? ⟨w.heap.size, 0, none⟩ = some (.string o.s) := H1.out.ob.cell 0
    have p1 : w1.cell? ⟨w.heap.size, 1, none⟩ = some (.int .i64 o.c) := H1.out.ob.cell 1
    have q0 : w1.cell? ⟨w.heap.size + 2, 0, none⟩ = some (.string ⟨#[]⟩) := H1.out.qb.cell 0
    have q1 : w1.cell? ⟨w.heap.size + 2, 1, none⟩ = some (.int .i64 0) := H1.out.qb.cell 1
    have f0 := H1.out.ob.frozen 0
    have f1 := H1.out.ob.frozen 1
    have g0 := H1.out.qb.frozen 0
    have g1 := H1.out.qb.frozen 1
    have k0 : w1.cell? ⟨w.heap.size + 1, 0, none⟩ = some (.int .i64 p.kind) := H1.out.kb.cell 0
    have k9 : w1.cell? ⟨w.heap.size + 1, 9, none⟩ = some (.slice m.p.A m.p.n m.p.cap) := H1.out.kb.cell 9
    have K2 := Lib.hid (H1.out.put o1)
    have C2 := Lib.hid (fun (X : World) (hX : Below w.heap.size w X) => rprops_any o1 p.kind m.p.A m.p.n m.p.cap p.ps X HP.out.pn HP.out.pc (by have := HP.out.fits.ps.1; have := HP.out.pn; omega) (HP.out.pr.below hX) HP.out.fits.ps.2 (by omega))
    go_wp2_with fail
    (with_reducible refine (C2.out _ K2.out.below).mono ?_)
    rintro e w2 ⟨rfl, b2⟩
    have H2 := Lib.hid (K2.out.step b2)
    obtain ⟨o2, e2⟩ : ∃ x, wProps p.kind o1 p.ps = x := ⟨_, rfl⟩
    have s2 : o2.s.size ≤ 9700000 := by rw [← e2]; have := props_size p.kind o1 p.ps; omega
    have E2 := Lib.hid e2
    try rw [e2]
    clear e2 b2 p0 p1 q0 q1 f0 f1 g0 g1 k0 k9
    have p0 : w2.cell? ⟨w.heap.size, 0, none⟩ = some (.string o1.s) := H2.out.ob.cell 0
    have p1 : w2.cell? ⟨w.heap.size, 1, none⟩ = some (.int .i64 o1.c) := H2.out.ob.cell 1
    have q0 : w2.cell? ⟨w.heap.size + 2, 0, none⟩ = some (.string ⟨#[]⟩) := H2.out.qb.cell 0
    have q1 : w2.cell? ⟨w.heap.size + 2, 1, none⟩ = some (.int .i64 0) := H2.out.qb.cell 1
    have f0 := H2.out.ob.frozen 0
    have f1 := H2.out.ob.frozen 1
    have g0 := H2.out.qb.frozen 0
    have g1 := H2.out.qb.frozen 1
    have k0 : w2.cell? ⟨w.heap.size + 1, 0, none⟩ = some (.int .i64 p.kind) := H2.out.kb.cell 0
    have k8 : w2.cell? ⟨w.heap.size + 1, 8, none⟩ = some (.slice m.c.A m.c.n m.c.cap) := H2.out.kb.cell 8
    have K3 := Lib.hid (H2.out.put o2)
    have C3 := Lib.hid (fun (X : World) (hX : Below w.heap.size w X) => rsome_any o2 (m.c.n : Int) X (by omega))
    go_wp2_with fail
    (with_reducible refine (C3.out _ K3.out.below).mono ?_)
    rintro e w3 ⟨rfl, b3⟩
    have H3 := Lib.hid (K3.out.step b3)
    obtain ⟨o3, e3⟩ : ∃ x, wSome o2 (m.c.n : Int) = x := ⟨_, rfl⟩
    have s3 : o3.s.size ≤ 9700000 := by rw [← e3]; have := Nat.le_of_eq (some_size o2 (m.c.n : Int)); omega
    have E3 := Lib.hid e3
    try rw [e3]
    clear e3 b3 p0 p1 q0 q1 f0 f1 g0 g1 k0 k8
    have p0 : w3.cell? ⟨w.heap.size, 0, none⟩ = some (.string o2.s) := H3.out.ob.cell 0
    have p1 : w3.cell? ⟨w.heap.size, 1, none⟩ = some (.int .i64 o2.c) := H3.out.ob.cell 1
    have q0 : w3.cell? ⟨w.heap.size + 2, 0, none⟩ = some (.string ⟨#[]⟩) := H3.out.qb.cell 0
    have q1 : w3.cell? ⟨w.heap.size + 2, 1, none⟩ = some (.int .i64 0) := H3.out.qb.cell 1
    have f0 := H3.out.ob.frozen 0
    have f1 := H3.out.ob.frozen 1
    have g0 := H3.out.qb.frozen 0
    have g1 := H3.out.qb.frozen 1
    have k8 : w3.cell? ⟨w.heap.size + 1, 8, none⟩ = some (.slice m.c.A m.c.n m.c.cap) := H3.out.kb.cell 8
    have K4 := Lib.hid (H3.out.put o3)
    have HF : Hid (wLists' o p = wFold (wNum 1) o3 p.codes m.c.n) := Lib.hid (by
      unfold wLists' wCodes' wFold
      rw [if_neg HK.out.1, if_neg HK.out.2, E1.out, E2.out, HP.out.cn, E3.out]
      try (congr 1; rw [List.take_eq_take_iff, HP.out.cn]; omega))
    go_wp2
    go_loopw [12] (fun i wr => ∃ k : Nat, i = .int .i64 k ∧ k ≤ m.c.n ∧ Hid (Rq w (wFold (wNum 1) o3 p.codes k) p m ⟨⟨#[]⟩, 0⟩ wr)) (fun i _ => m.c.n - (intOf i).toNat)
    case atStart => exact ⟨0, rfl, by omega, K4⟩
    case round =>
      obtain ⟨k, rfl, hk, hw⟩ := hrel
      by_cases hlt : k < m.c.n
      · obtain ⟨g, q, e0, hg, hcl⟩ := (VRow.below HP.out.cr hw.out.below) (by rw [List.length_map, HP.out.cn]; omega)
        obtain ⟨x, hx⟩ : ∃ x, p.codes[k]? = some x := ⟨_, List.getElem?_eq_getElem (by rw [HP.out.cn]; omega)⟩
        have c0 := hcl k (.int .i64 x) (by rw [List.getElem?_map, hx]; rfl)
        have hfx := HP.out.fits.codes.2 x (List.mem_of_getElem? hx)
        have hkI : (k : Int) < (m.c.n : Int) := by omega
        have hk64 : (k : Int) < 64 := by omega
        have HX := Lib.hid (wFold_succ (f := (wNum 1)) (o := o3) hx)
        have hsz := wFold_size 1 num1_size' o3 p.codes k
        obtain ⟨ok, hok⟩ : ∃ y, wFold (wNum 1) o3 p.codes k = y := ⟨_, rfl⟩
        rw [hok] at hw hsz HX
        have C5 := Lib.hid (fun X : World => refnumber_any ok 1 x X (by omega) (by decide))
        have k8 : wr.cell? ⟨w.heap.size + 1, 8, none⟩ = some (.slice (some ⟨g, q, none⟩) m.c.n m.c.cap) := (hw.out.kb.cell 8).trans (by show some (Value.slice m.c.A m.c.n m.c.cap) = _; rw [e0])
        have s0 : S4r wr w.heap.size ok 8 (.slice (some ⟨g, q, none⟩) m.c.n m.c.cap) g (q + k) (.int .i64 x) := ⟨hw.out.ob.cell 0, hw.out.ob.cell 1, k8, c0⟩
        obtain ⟨p0, p1, _, c0⟩ := s0
        have s1 : S4r wr.drew w.heap.size ok 8 (.slice (some ⟨g, q, none⟩) m.c.n m.c.cap) g (q + k) (.int .i64 x) := ⟨p0, p1, k8, c0⟩
        obtain ⟨t0, t1, t2, t3⟩ := s1
        have HG := Lib.hid hg
        have HD := Lib.hid hw.out.drew
        have hlo : w.heap.size < wr.heap.size := hw.out.ob.lt
        have hlk : w.heap.size + 1 < wr.heap.size := hw.out.kb.lt
        have f0 := hw.out.ob.frozen 0
        have f1 := hw.out.ob.frozen 1
        have hkk := hk
        clear hcl hx hok hfx hsz e0 hg
        go_wp2_with fail
        go_still_tail 6, (by kernel_rfl)
        change wpList _ _ _ _ _ wr.drew
        go_wp2_with fail
        (with_reducible refine (C5.out _).mono ?_)
        rintro e w6 ⟨rfl, b6⟩
        have H6 := Lib.hid (HD.out.step b6)
        have K6 := Lib.hid (H6.out.put ((wNum 1) ok x))
        have u0 := H6.out.ob.frozen 0
        have u1 := H6.out.ob.frozen 1
        have v0 : w6.cell? ⟨w.heap.size, 0, none⟩ = some (.string ok.s) := H6.out.ob.cell 0
        have v1 : w6.cell? ⟨w.heap.size, 1, none⟩ = some (.int .i64 ok.c) := H6.out.ob.cell 1
        clear b6 H6
        go_wp2
        go_roundw
        case rel => exact ⟨k + 1, by go_num, by omega, by rw [HX.out]; exact K6⟩
        case measure => simp [intOf]; omega
      · have hkK : k = m.c.n := by omega
        have HE : Hid (wLists' o p = wFold (wNum 1) o3 p.codes k) := Lib.hid (by rw [HF.out]; congr 1; omega)
        obtain ⟨ok, hok⟩ : ∃ y, wFold (wNum 1) o3 p.codes k = y := ⟨_, rfl⟩
        rw [hok] at hw HE
        have p0 : wr.cell? ⟨w.heap.size, 0, none⟩ = some (.string ok.s) := hw.out.ob.cell 0
        have p1 : wr.cell? ⟨w.heap.size, 1, none⟩ = some (.int .i64 ok.c) := hw.out.ob.cell 1
        have q0 : wr.cell? ⟨w.heap.size + 2, 0, none⟩ = some (.string ⟨#[]⟩) := hw.out.qb.cell 0
        have q1 : wr.cell? ⟨w.heap.size + 2, 1, none⟩ = some (.int .i64 0) := hw.out.qb.cell 1
        have g0 := hw.out.qb.frozen 0
        have g1 := hw.out.qb.frozen 1
        have k8 : wr.cell? ⟨w.heap.size + 1, 8, none⟩ = some (.slice m.c.A m.c.n m.c.cap) := hw.out.kb.cell 8
        have hx1 : (k : Int) ≤ (m.c.n : Int) := by omega
        subst hkK
        clear hok
        go_wp2
        refine bodyPost_ret (v := .agg #[.string ok.s, .int .i64 ok.c]) (by simp [results, Tryd.results50, go_sem, q0, q1]) rfl ?_
        rw [HE.out]
        exact ⟨rfl, (hw.out.below.setCell (Nat.le_add_right _ 2) _).setCell (Nat.le_add_right _ 2) _⟩
  · clear hP
    have p0 : W.cell? ⟨w.heap.size, 0, none⟩ = some (.string o.s) := H0.out.ob.cell 0
    have p1 : W.cell? ⟨w.heap.size, 1, none⟩ = some (.int .i64 o.c) := H0.out.ob.cell 1
    have q0 : W.cell? ⟨w.heap.size + 2, 0, none⟩ = some (.string ⟨#[]⟩) := H0.out.qb.cell 0
    have q1 : W.cell? ⟨w.heap.size + 2, 1, none⟩ = some (.int .i64 0) := H0.out.qb.cell 1
    have f0 := H0.out.ob.frozen 0
    have f1 := H0.out.ob.frozen 1
    have g0 := H0.out.qb.frozen 0
    have g1 := H0.out.qb.frozen 1
    have k4 : W.cell? ⟨w.heap.size + 1, 4, none⟩ = some (.int .i64 p.id) := H0.out.kb.cell 4
    clear h0
    go_enter Tryd.func50, Tryd.ntmps50
    have C1 := Lib.hid (fun (X : World) (hX : Below w.heap.size w X) => rid_any o p.id X (by omega))
    go_wp2_with fail
    (with_reducible refine (C1.out _ H0.out.below).mono ?_)
    rintro e w1 ⟨rfl, b1⟩
    have H1 := Lib.hid (H0.out.step b1)
    obtain ⟨o1, e1⟩ : ∃ x, wId o p.id = x := ⟨_, rfl⟩
    have s1 : o1.s.size ≤ 1048580 := by rw [← e1]; have := id_size o p.id; omega
    have E1 := Lib.hid e1
    try rw [e1]
    clear e1 b1 p0 p1 q0 q1 f0 f1 g0 g1 k4
    have p0 : w1.cell? ⟨w.heap.size, 0, none⟩ = some (.string o.s) := H1.out.ob.cell 0
    have p1 : w1.cell? ⟨w.heap.size, 1, none⟩ = some (.int .i64 o.c) := H1.out.ob.cell 1
    have q0 : w1.cell? ⟨w.heap.size + 2, 0, none⟩ = some (.string ⟨#[]⟩) := H1.out.qb.cell 0
    have q1 : w1.cell? ⟨w.heap.size + 2, 1, none⟩ = some (.int .i64 0) := H1.out.qb.cell 1
    have f0 := H1.out.ob.frozen 0
    have f1 := H1.out.ob.frozen 1
    have g0 := H1.out.qb.frozen 0
    have g1 := H1.out.qb.frozen 1
    have k0 : w1.cell? ⟨w.heap.size + 1, 0, none⟩ = some (.int .i64 p.kind) := H1.out.kb.cell 0
    have k9 : w1.cell? ⟨w.heap.size + 1, 9, none⟩ = some (.slice m.p.A m.p.n m.p.cap) := H1.out.kb.cell 9
    have K2 := Lib.hid (H1.out.put o1)
    have C2 := Lib.hid (fun (X : World) (hX : Below w.heap.size w X) => rprops_any o1 p.kind m.p.A m.p.n m.p.cap p.ps X HP.out.pn HP.out.pc (by have := HP.out.fits.ps.1; have := HP.out.pn; omega) (HP.out.pr.below hX) HP.out.fits.ps.2 (by omega))
    go_wp2_with fail
    (with_reducible refine (C2.out _ K2.out.below).mono ?_)
    rintro e w2 ⟨rfl, b2⟩
    have H2 := Lib.hid (K2.out.step b2)
    obtain ⟨o2, e2⟩ : ∃ x, wProps p.kind o1 p.ps = x := ⟨_, rfl⟩
    have s2 : o2.s.size ≤ 9700000 := by rw [← e2]; have := props_size p.kind o1 p.ps; omega
    have E2 := Lib.hid e2
    try rw [e2]
    clear e2 b2 p0 p1 q0 q1 f0 f1 g0 g1 k0 k9
    have p0 : w2.cell? ⟨w.heap.size, 0, none⟩ = some (.string o1.s) := H2.out.ob.cell 0
    have p1 : w2.cell? ⟨w.heap.size, 1, none⟩ = some (.int .i64 o1.c) := H2.out.ob.cell 1
    have q0 : w2.cell? ⟨w.heap.size + 2, 0, none⟩ = some (.string ⟨#[]⟩) := H2.out.qb.cell 0
    have q1 : w2.cell? ⟨w.heap.size + 2, 1, none⟩ = some (.int .i64 0) := H2.out.qb.cell 1
    have f0 := H2.out.ob.frozen 0
    have f1 := H2.out.ob.frozen 1
    have g0 := H2.out.qb.frozen 0
    have g1 := H2.out.qb.frozen 1
    have k0 : w2.cell? ⟨w.heap.size + 1, 0, none⟩ = some (.int .i64 p.kind) := H2.out.kb.cell 0
    have k8 : w2.cell? ⟨w.heap.size + 1, 8, none⟩ = some (.slice m.c.A m.c.n m.c.cap) := H2.out.kb.cell 8
    have K3 := Lib.hid (H2.out.put o2)
    have C3 := Lib.hid (fun (X : World) (hX : Below w.heap.size w X) => rsome_any o2 (m.c.n : Int) X (by omega))
    go_wp2_with fail
    (with_reducible refine (C3.out _ K3.out.below).mono ?_)
    rintro e w3 ⟨rfl, b3⟩
    have H3 := Lib.hid (K3.out.step b3)
    obtain ⟨o3, e3⟩ : ∃ x, wSome o2 (m.c.n : Int) = x := ⟨_, rfl⟩
    have s3 : o3.s.size ≤ 9700000 := by rw [← e3]; have := Nat.le_of_eq (some_size o2 (m.c.n : Int)); omega
    have E3 := Lib.hid e3
    try rw [e3]
    clear e3 b3 p0 p1 q0 q1 f0 f1 g0 g1 k0 k8
    have p0 : w3.cell? ⟨w.heap.size, 0, none⟩ = some (.string o2.s) := H3.out.ob.cell 0
    have p1 : w3.cell? ⟨w.heap.size, 1, none⟩ = some (.int .i64 o2.c) := H3.out.ob.cell 1
    have q0 : w3.cell? ⟨w.heap.size + 2, 0, none⟩ = some (.string ⟨#[]⟩) := H3.out.qb.cell 0
    have q1 : w3.cell? ⟨w.heap.size + 2, 1, none⟩ = some (.int .i64 0) := H3.out.qb.cell 1
    have f0 := H3.out.ob.frozen 0
    have f1 := H3.out.ob.frozen 1
    have g0 := H3.out.qb.frozen 0
    have g1 := H3.out.qb.frozen 1
    have k8 : w3.cell? ⟨w.heap.size + 1, 8, none⟩ = some (.slice m.c.A m.c.n m.c.cap) := H3.out.kb.cell 8
    have K4 := Lib.hid (H3.out.put o3)
    have HF : Hid (wLists' o p = wFold (wNum 1) o3 p.codes 64) := Lib.hid (by
      unfold wLists' wCodes' wFold
      rw [if_neg HK.out.1, if_neg HK.out.2, E1.out, E2.out, HP.out.cn, E3.out]
      try (congr 1; rw [List.take_eq_take_iff, HP.out.cn]; omega))
    go_wp2
    go_loopw [12] (fun i wr => ∃ k : Nat, i = .int .i64 k ∧ k ≤ 64 ∧ Hid (Rq w (wFold (wNum 1) o3 p.codes k) p m ⟨⟨#[]⟩, 0⟩ wr)) (fun i _ => 64 - (intOf i).toNat)
    case atStart => exact ⟨0, rfl, by omega, K4⟩
    case round =>
      obtain ⟨k, rfl, hk, hw⟩ := hrel
      by_cases hlt : k < 64
      · obtain ⟨g, q, e0, hg, hcl⟩ := (VRow.below HP.out.cr hw.out.below) (by rw [List.length_map, HP.out.cn]; omega)
        obtain ⟨x, hx⟩ : ∃ x, p.codes[k]? = some x := ⟨_, List.getElem?_eq_getElem (by rw [HP.out.cn]; omega)⟩
        have c0 := hcl k (.int .i64 x) (by rw [List.getElem?_map, hx]; rfl)
        have hfx := HP.out.fits.codes.2 x (List.mem_of_getElem? hx)
        have hkI : (k : Int) < (m.c.n : Int) := by omega
        have hk64 : (k : Int) < 64 := by omega
        have HX := Lib.hid (wFold_succ (f := (wNum 1)) (o := o3) hx)
        have hsz := wFold_size 1 num1_size' o3 p.codes k
        obtain ⟨ok, hok⟩ : ∃ y, wFold (wNum 1) o3 p.codes k = y := ⟨_, rfl⟩
        rw [hok] at hw hsz HX
        have C5 := Lib.hid (fun X : World => refnumber_any ok 1 x X (by omega) (by decide))
        have k8 : wr.cell? ⟨w.heap.size + 1, 8, none⟩ = some (.slice (some ⟨g, q, none⟩) m.c.n m.c.cap) := (hw.out.kb.cell 8).trans (by show some (Value.slice m.c.A m.c.n m.c.cap) = _; rw [e0])
        have s0 : S4r wr w.heap.size ok 8 (.slice (some ⟨g, q, none⟩) m.c.n m.c.cap) g (q + k) (.int .i64 x) := ⟨hw.out.ob.cell 0, hw.out.ob.cell 1, k8, c0⟩
        obtain ⟨p0, p1, _, c0⟩ := s0
        have s1 : S4r wr.drew w.heap.size ok 8 (.slice (some ⟨g, q, none⟩) m.c.n m.c.cap) g (q + k) (.int .i64 x) := ⟨p0, p1, k8, c0⟩
        obtain ⟨t0, t1, t2, t3⟩ := s1
        have HG := Lib.hid hg
        have HD := Lib.hid hw.out.drew
        have hlo : w.heap.size < wr.heap.size := hw.out.ob.lt
        have hlk : w.heap.size + 1 < wr.heap.size := hw.out.kb.lt
        have f0 := hw.out.ob.frozen 0
        have f1 := hw.out.ob.frozen 1
        have hkk := hk
        clear hcl hx hok hfx hsz e0 hg
        go_wp2_with fail
        go_still_tail 6, (by kernel_rfl)
        change wpList _ _ _ _ _ wr.drew
        go_wp2_with fail
        (with_reducible refine (C5.out _).mono ?_)
        rintro e w6 ⟨rfl, b6⟩
        have H6 := Lib.hid (HD.out.step b6)
        have K6 := Lib.hid (H6.out.put ((wNum 1) ok x))
        have u0 := H6.out.ob.frozen 0
        have u1 := H6.out.ob.frozen 1
        have v0 : w6.cell? ⟨w.heap.size, 0, none⟩ = some (.string ok.s) := H6.out.ob.cell 0
        have v1 : w6.cell? ⟨w.heap.size, 1, none⟩ = some (.int .i64 ok.c) := H6.out.ob.cell 1
        clear b6 H6
        go_wp2
        go_roundw
        case rel => exact ⟨k + 1, by go_num, by omega, by rw [HX.out]; exact K6⟩
        case measure => simp [intOf]; omega
      · have hkK : k = 64 := by omega
        have HE : Hid (wLists' o p = wFold (wNum 1) o3 p.codes k) := Lib.hid (by rw [HF.out]; congr 1; omega)
        obtain ⟨ok, hok⟩ : ∃ y, wFold (wNum 1) o3 p.codes k = y := ⟨_, rfl⟩
        rw [hok] at hw HE
        have p0 : wr.cell? ⟨w.heap.size, 0, none⟩ = some (.string ok.s) := hw.out.ob.cell 0
        have p1 : wr.cell? ⟨w.heap.size, 1, none⟩ = some (.int .i64 ok.c) := hw.out.ob.cell 1
        have q0 : wr.cell? ⟨w.heap.size + 2, 0, none⟩ = some (.string ⟨#[]⟩) := hw.out.qb.cell 0
        have q1 : wr.cell? ⟨w.heap.size + 2, 1, none⟩ = some (.int .i64 0) := hw.out.qb.cell 1
        have g0 := hw.out.qb.frozen 0
        have g1 := hw.out.qb.frozen 1
        have k8 : wr.cell? ⟨w.heap.size + 1, 8, none⟩ = some (.slice m.c.A m.c.n m.c.cap) := hw.out.kb.cell 8
        have hx1 : (k : Int) ≤ (m.c.n : Int) := by omega
        subst hkK
        have hgt : (64 : Int) < (m.c.n : Int) := by omega
        clear hok
        go_wp2
        refine bodyPost_ret (v := .agg #[.string ok.s, .int .i64 ok.c]) (by simp [results, Tryd.results50, go_sem, q0, q1]) rfl ?_
        rw [HE.out]
        exact ⟨rfl, (hw.out.below.setCell (Nat.le_add_right _ 2) _).setCell (Nat.le_add_right _ 2) _⟩
set_option maxRecDepth 100000 in
set_option maxHeartbeats 8000000 in
theorem rlists_filters (o : Ot) (p : Pk) (m : Hs) (w : World) (hP : PkIn .i64 w p m) (hs : o.s.size ≤ 1048576) (hk : p.kind = 10) :
    Calls Tryd.prog 50 #[.agg #[.string o.s, .int .i64 o.c], pkV .i64 p m] w fun e w' => RPost (wLists' o p) w w' e := by
  have h0 := Rq.new w o p m
  obtain ⟨W, hW⟩ : ∃ W, ((w.alloc (.cells #[.string o.s, .int .i64 o.c] 81)).alloc (.cells (pkA .i64 p m) 45)).alloc (.cells #[.string ⟨#[]⟩, .int .i64 0] 81) = W := ⟨_, rfl⟩
  rw [hW] at h0
  unfold pkA at hW
  have H0 := Lib.hid h0
  have HP := Lib.hid hP
  have hpn := hP.pn
  have HK := Lib.hid hk
  have hk8 : (p.kind == 8) = false := by rw [hk]; rfl
  have hk10 : (p.kind == 10) = true := by rw [hk]; rfl
  have hnB : m.f.n ≤ 1048576 := by have := HP.out.fits.filters.1; have := HP.out.fn; omega
  clear hk hpn
  unfold pkV pkA
  by_cases hle : m.f.n ≤ 64
  · clear hP
    have p0 : W.cell? ⟨w.heap.size, 0, none⟩ = some (.string o.s) := H0.out.ob.cell 0
    have p1 : W.cell? ⟨w.heap.size, 1, none⟩ = some (.int .i64 o.c) := H0.out.ob.cell 1
    have q0 : W.cell? ⟨w.heap.size + 2, 0, none⟩ = some (.string ⟨#[]⟩) := H0.out.qb.cell 0
    have q1 : W.cell? ⟨w.heap.size + 2, 1, none⟩ = some (.int .i64 0) := H0.out.qb.cell 1
    have f0 := H0.out.ob.frozen 0
    have f1 := H0.out.ob.frozen 1
    have g0 := H0.out.qb.frozen 0
    have g1 := H0.out.qb.frozen 1
    have k4 : W.cell? ⟨w.heap.size + 1, 4, none⟩ = some (.int .i64 p.id) := H0.out.kb.cell 4
    clear h0
    go_enter Tryd.func50, Tryd.ntmps50
    have C1 := Lib.hid (fun (X : World) (hX : Below w.heap.size w X) => rid_any o p.id X (by omega))
    go_wp2_with fail
    (with_reducible refine (C1.out _ H0.out.below).mono ?_)
    rintro e w1 ⟨rfl, b1⟩
    have H1 := Lib.hid (H0.out.step b1)
    obtain ⟨o1, e1⟩ : ∃ x, wId o p.id = x := ⟨_, rfl⟩
    have s1 : o1.s.size ≤ 1048580 := by rw [← e1]; have := id_size o p.id; omega
    have E1 := Lib.hid e1
    try rw [e1]
    clear e1 b1 p0 p1 q0 q1 f0 f1 g0 g1 k4
    have p0 : w1.cell? ⟨w.heap.size, 0, none⟩ = some (.string o.s) := H1.out.ob.cell 0
    have p1 : w1.cell? ⟨w.heap.size, 1, none⟩ = some (.int .i64 o.c) := H1.out.ob.cell 1
    have q0 : w1.cell? ⟨w.heap.size + 2, 0, none⟩ = some (.string ⟨#[]⟩) := H1.out.qb.cell 0
    have q1 : w1.cell? ⟨w.heap.size + 2, 1, none⟩ = some (.int .i64 0) := H1.out.qb.cell 1
    have f0 := H1.out.ob.frozen 0
    have f1 := H1.out.ob.frozen 1
    have g0 := H1.out.qb.frozen 0
    have g1 := H1.out.qb.frozen 1
    have k0 : w1.cell? ⟨w.heap.size + 1, 0, none⟩ = some (.int .i64 p.kind) := H1.out.kb.cell 0
    have k9 : w1.cell? ⟨w.heap.size + 1, 9, none⟩ = some (.slice m.p.A m.p.n m.p.cap) := H1.out.kb.cell 9
    have K2 := Lib.hid (H1.out.put o1)
    have C2 := Lib.hid (fun (X : World) (hX : Below w.heap.size w X) => rprops_any o1 p.kind m.p.A m.p.n m.p.cap p.ps X HP.out.pn HP.out.pc (by have := HP.out.fits.ps.1; have := HP.out.pn; omega) (HP.out.pr.below hX) HP.out.fits.ps.2 (by omega))
    go_wp2_with fail
    (with_reducible refine (C2.out _ K2.out.below).mono ?_)
    rintro e w2 ⟨rfl, b2⟩
    have H2 := Lib.hid (K2.out.step b2)
    obtain ⟨o2, e2⟩ : ∃ x, wProps p.kind o1 p.ps = x := ⟨_, rfl⟩
    have s2 : o2.s.size ≤ 9700000 := by rw [← e2]; have := props_size p.kind o1 p.ps; omega
    have E2 := Lib.hid e2
    try rw [e2]
    clear e2 b2 p0 p1 q0 q1 f0 f1 g0 g1 k0 k9
    have p0 : w2.cell? ⟨w.heap.size, 0, none⟩ = some (.string o1.s) := H2.out.ob.cell 0
    have p1 : w2.cell? ⟨w.heap.size, 1, none⟩ = some (.int .i64 o1.c) := H2.out.ob.cell 1
    have q0 : w2.cell? ⟨w.heap.size + 2, 0, none⟩ = some (.string ⟨#[]⟩) := H2.out.qb.cell 0
    have q1 : w2.cell? ⟨w.heap.size + 2, 1, none⟩ = some (.int .i64 0) := H2.out.qb.cell 1
    have f0 := H2.out.ob.frozen 0
    have f1 := H2.out.ob.frozen 1
    have g0 := H2.out.qb.frozen 0
    have g1 := H2.out.qb.frozen 1
    have k0 : w2.cell? ⟨w.heap.size + 1, 0, none⟩ = some (.int .i64 p.kind) := H2.out.kb.cell 0
    have k25 : w2.cell? ⟨w.heap.size + 1, 25, none⟩ = some (.slice m.f.A m.f.n m.f.cap) := H2.out.kb.cell 25
    have K3 := Lib.hid (H2.out.put o2)
    have C3 := Lib.hid (fun (X : World) (hX : Below w.heap.size w X) => rsome_any o2 (m.f.n : Int) X (by omega))
    go_wp2_with fail
    (with_reducible refine (C3.out _ K3.out.below).mono ?_)
    rintro e w3 ⟨rfl, b3⟩
    have H3 := Lib.hid (K3.out.step b3)
    obtain ⟨o3, e3⟩ : ∃ x, wSome o2 (m.f.n : Int) = x := ⟨_, rfl⟩
    have s3 : o3.s.size ≤ 9700000 := by rw [← e3]; have := Nat.le_of_eq (some_size o2 (m.f.n : Int)); omega
    have E3 := Lib.hid e3
    try rw [e3]
    clear e3 b3 p0 p1 q0 q1 f0 f1 g0 g1 k0 k25
    have p0 : w3.cell? ⟨w.heap.size, 0, none⟩ = some (.string o2.s) := H3.out.ob.cell 0
    have p1 : w3.cell? ⟨w.heap.size, 1, none⟩ = some (.int .i64 o2.c) := H3.out.ob.cell 1
    have q0 : w3.cell? ⟨w.heap.size + 2, 0, none⟩ = some (.string ⟨#[]⟩) := H3.out.qb.cell 0
    have q1 : w3.cell? ⟨w.heap.size + 2, 1, none⟩ = some (.int .i64 0) := H3.out.qb.cell 1
    have f0 := H3.out.ob.frozen 0
    have f1 := H3.out.ob.frozen 1
    have g0 := H3.out.qb.frozen 0
    have g1 := H3.out.qb.frozen 1
    have k25 : w3.cell? ⟨w.heap.size + 1, 25, none⟩ = some (.slice m.f.A m.f.n m.f.cap) := H3.out.kb.cell 25
    have K4 := Lib.hid (H3.out.put o3)
    have HF : Hid (wLists' o p = wFold wText o3 p.filters m.f.n) := Lib.hid (by
      unfold wLists' wFilters wFold
      rw [if_neg (by rw [HK.out]; decide), if_pos HK.out, E1.out, E2.out, HP.out.fn, E3.out]
      try (congr 1; rw [List.take_eq_take_iff, HP.out.fn]; omega))
    go_wp2
    go_loopw [11] (fun i wr => ∃ k : Nat, i = .int .i64 k ∧ k ≤ m.f.n ∧ Hid (Rq w (wFold wText o3 p.filters k) p m ⟨⟨#[]⟩, 0⟩ wr)) (fun i _ => m.f.n - (intOf i).toNat)
    case atStart => exact ⟨0, rfl, by omega, K4⟩
    case round =>
      obtain ⟨k, rfl, hk, hw⟩ := hrel
      by_cases hlt : k < m.f.n
      · obtain ⟨g, q, e0, hg, hcl⟩ := (VRow.below HP.out.fr hw.out.below) (by rw [List.length_map, HP.out.fn]; omega)
        obtain ⟨x, hx⟩ : ∃ x, p.filters[k]? = some x := ⟨_, List.getElem?_eq_getElem (by rw [HP.out.fn]; omega)⟩
        have c0 := hcl k (.string x) (by rw [List.getElem?_map, hx]; rfl)
        have hfx := HP.out.fits.filters.2 x (List.mem_of_getElem? hx)
        have hkI : (k : Int) < (m.f.n : Int) := by omega
        have hk64 : (k : Int) < 64 := by omega
        have HX := Lib.hid (wFold_succ (f := wText) (o := o3) hx)
        have hsz := wFold_size 65537 text_size o3 p.filters k
        obtain ⟨ok, hok⟩ : ∃ y, wFold wText o3 p.filters k = y := ⟨_, rfl⟩
        rw [hok] at hw hsz HX
        have C5 := Lib.hid (fun X : World => reftext_any ok x X (by omega) (by omega))
        have k8 : wr.cell? ⟨w.heap.size + 1, 25, none⟩ = some (.slice (some ⟨g, q, none⟩) m.f.n m.f.cap) := (hw.out.kb.cell 25).trans (by show some (Value.slice m.f.A m.f.n m.f.cap) = _; rw [e0])
        have s0 : S4r wr w.heap.size ok 25 (.slice (some ⟨g, q, none⟩) m.f.n m.f.cap) g (q + k) (.string x) := ⟨hw.out.ob.cell 0, hw.out.ob.cell 1, k8, c0⟩
        obtain ⟨p0, p1, _, c0⟩ := s0
        have s1 : S4r wr.drew w.heap.size ok 25 (.slice (some ⟨g, q, none⟩) m.f.n m.f.cap) g (q + k) (.string x) := ⟨p0, p1, k8, c0⟩
        obtain ⟨t0, t1, t2, t3⟩ := s1
        have HG := Lib.hid hg
        have HD := Lib.hid hw.out.drew
        have hlo : w.heap.size < wr.heap.size := hw.out.ob.lt
        have hlk : w.heap.size + 1 < wr.heap.size := hw.out.kb.lt
        have f0 := hw.out.ob.frozen 0
        have f1 := hw.out.ob.frozen 1
        have hkk := hk
        clear hcl hx hok hfx hsz e0 hg
        go_wp2_with fail
        go_still_tail 6, (by kernel_rfl)
        change wpList _ _ _ _ _ wr.drew
        go_wp2_with fail
        (with_reducible refine (C5.out _).mono ?_)
        rintro e w6 ⟨rfl, b6⟩
        have H6 := Lib.hid (HD.out.step b6)
        have K6 := Lib.hid (H6.out.put (wText ok x))
        have u0 := H6.out.ob.frozen 0
        have u1 := H6.out.ob.frozen 1
        have v0 : w6.cell? ⟨w.heap.size, 0, none⟩ = some (.string ok.s) := H6.out.ob.cell 0
        have v1 : w6.cell? ⟨w.heap.size, 1, none⟩ = some (.int .i64 ok.c) := H6.out.ob.cell 1
        clear b6 H6
        go_wp2
        go_roundw
        case rel => exact ⟨k + 1, by go_num, by omega, by rw [HX.out]; exact K6⟩
        case measure => simp [intOf]; omega
      · have hkK : k = m.f.n := by omega
        have HE : Hid (wLists' o p = wFold wText o3 p.filters k) := Lib.hid (by rw [HF.out]; congr 1; omega)
        obtain ⟨ok, hok⟩ : ∃ y, wFold wText o3 p.filters k = y := ⟨_, rfl⟩
        rw [hok] at hw HE
        have p0 : wr.cell? ⟨w.heap.size, 0, none⟩ = some (.string ok.s) := hw.out.ob.cell 0
        have p1 : wr.cell? ⟨w.heap.size, 1, none⟩ = some (.int .i64 ok.c) := hw.out.ob.cell 1
        have q0 : wr.cell? ⟨w.heap.size + 2, 0, none⟩ = some (.string ⟨#[]⟩) := hw.out.qb.cell 0
        have q1 : wr.cell? ⟨w.heap.size + 2, 1, none⟩ = some (.int .i64 0) := hw.out.qb.cell 1
        have g0 := hw.out.qb.frozen 0
        have g1 := hw.out.qb.frozen 1
        have k8 : wr.cell? ⟨w.heap.size + 1, 25, none⟩ = some (.slice m.f.A m.f.n m.f.cap) := hw.out.kb.cell 25
        have hx1 : (k : Int) ≤ (m.f.n : Int) := by omega
        subst hkK
        clear hok
        go_wp2
        refine bodyPost_ret (v := .agg #[.string ok.s, .int .i64 ok.c]) (by simp [results, Tryd.results50, go_sem, q0, q1]) rfl ?_
        rw [HE.out]
        exact ⟨rfl, (hw.out.below.setCell (Nat.le_add_right _ 2) _).setCell (Nat.le_add_right _ 2) _⟩
  · clear hP
    have p0 : W.cell? ⟨w.heap.size, 0, none⟩ = some (.string o.s) := H0.out.ob.cell 0
    have p1 : W.cell? ⟨w.heap.size, 1, none⟩ = some (.int .i64 o.c) := H0.out.ob.cell 1
    have q0 : W.cell? ⟨w.heap.size + 2, 0, none⟩ = some (.string ⟨#[]⟩) := H0.out.qb.cell 0
    have q1 : W.cell? ⟨w.heap.size + 2, 1, none⟩ = some (.int .i64 0) := H0.out.qb.cell 1
    have f0 := H0.out.ob.frozen 0
    have f1 := H0.out.ob.frozen 1
    have g0 := H0.out.qb.frozen 0
    have g1 := H0.out.qb.frozen 1
    have k4 : W.cell? ⟨w.heap.size + 1, 4, none⟩ = some (.int .i64 p.id) := H0.out.kb.cell 4
    clear h0
    go_enter Tryd.func50, Tryd.ntmps50
    have C1 := Lib.hid (fun (X : World) (hX : Below w.heap.size w X) => rid_any o p.id X (by omega))
    go_wp2_with fail
    (with_reducible refine (C1.out _ H0.out.below).mono ?_)
    rintro e w1 ⟨rfl, b1⟩
    have H1 := Lib.hid (H0.out.step b1)
    obtain ⟨o1, e1⟩ : ∃ x, wId o p.id = x := ⟨_, rfl⟩
    have s1 : o1.s.size ≤ 1048580 := by rw [← e1]; have := id_size o p.id; omega
    have E1 := Lib.hid e1
    try rw [e1]
    clear e1 b1 p0 p1 q0 q1 f0 f1 g0 g1 k4
    have p0 : w1.cell? ⟨w.heap.size, 0, none⟩ = some (.string o.s) := H1.out.ob.cell 0
    have p1 : w1.cell? ⟨w.heap.size, 1, none⟩ = some (.int .i64 o.c) := H1.out.ob.cell 1
    have q0 : w1.cell? ⟨w.heap.size + 2, 0, none⟩ = some (.string ⟨#[]⟩) := H1.out.qb.cell 0
    have q1 : w1.cell? ⟨w.heap.size + 2, 1, none⟩ = some (.int .i64 0) := H1.out.qb.cell 1
    have f0 := H1.out.ob.frozen 0
    have f1 := H1.out.ob.frozen 1
    have g0 := H1.out.qb.frozen 0
    have g1 := H1.out.qb.frozen 1
    have k0 : w1.cell? ⟨w.heap.size + 1, 0, none⟩ = some (.int .i64 p.kind) := H1.out.kb.cell 0
    have k9 : w1.cell? ⟨w.heap.size + 1, 9, none⟩ = some (.slice m.p.A m.p.n m.p.cap) := H1.out.kb.cell 9
    have K2 := Lib.hid (H1.out.put o1)
    have C2 := Lib.hid (fun (X : World) (hX : Below w.heap.size w X) => rprops_any o1 p.kind m.p.A m.p.n m.p.cap p.ps X HP.out.pn HP.out.pc (by have := HP.out.fits.ps.1; have := HP.out.pn; omega) (HP.out.pr.below hX) HP.out.fits.ps.2 (by omega))
    go_wp2_with fail
    (with_reducible refine (C2.out _ K2.out.below).mono ?_)
    rintro e w2 ⟨rfl, b2⟩
    have H2 := Lib.hid (K2.out.step b2)
    obtain ⟨o2, e2⟩ : ∃ x, wProps p.kind o1 p.ps = x := ⟨_, rfl⟩
    have s2 : o2.s.size ≤ 9700000 := by rw [← e2]; have := props_size p.kind o1 p.ps; omega
    have E2 := Lib.hid e2
    try rw [e2]
    clear e2 b2 p0 p1 q0 q1 f0 f1 g0 g1 k0 k9
    have p0 : w2.cell? ⟨w.heap.size, 0, none⟩ = some (.string o1.s) := H2.out.ob.cell 0
    have p1 : w2.cell? ⟨w.heap.size, 1, none⟩ = some (.int .i64 o1.c) := H2.out.ob.cell 1
    have q0 : w2.cell? ⟨w.heap.size + 2, 0, none⟩ = some (.string ⟨#[]⟩) := H2.out.qb.cell 0
    have q1 : w2.cell? ⟨w.heap.size + 2, 1, none⟩ = some (.int .i64 0) := H2.out.qb.cell 1
    have f0 := H2.out.ob.frozen 0
    have f1 := H2.out.ob.frozen 1
    have g0 := H2.out.qb.frozen 0
    have g1 := H2.out.qb.frozen 1
    have k0 : w2.cell? ⟨w.heap.size + 1, 0, none⟩ = some (.int .i64 p.kind) := H2.out.kb.cell 0
    have k25 : w2.cell? ⟨w.heap.size + 1, 25, none⟩ = some (.slice m.f.A m.f.n m.f.cap) := H2.out.kb.cell 25
    have K3 := Lib.hid (H2.out.put o2)
    have C3 := Lib.hid (fun (X : World) (hX : Below w.heap.size w X) => rsome_any o2 (m.f.n : Int) X (by omega))
    go_wp2_with fail
    (with_reducible refine (C3.out _ K3.out.below).mono ?_)
    rintro e w3 ⟨rfl, b3⟩
    have H3 := Lib.hid (K3.out.step b3)
    obtain ⟨o3, e3⟩ : ∃ x, wSome o2 (m.f.n : Int) = x := ⟨_, rfl⟩
    have s3 : o3.s.size ≤ 9700000 := by rw [← e3]; have := Nat.le_of_eq (some_size o2 (m.f.n : Int)); omega
    have E3 := Lib.hid e3
    try rw [e3]
    clear e3 b3 p0 p1 q0 q1 f0 f1 g0 g1 k0 k25
    have p0 : w3.cell? ⟨w.heap.size, 0, none⟩ = some (.string o2.s) := H3.out.ob.cell 0
    have p1 : w3.cell? ⟨w.heap.size, 1, none⟩ = some (.int .i64 o2.c) := H3.out.ob.cell 1
    have q0 : w3.cell? ⟨w.heap.size + 2, 0, none⟩ = some (.string ⟨#[]⟩) := H3.out.qb.cell 0
    have q1 : w3.cell? ⟨w.heap.size + 2, 1, none⟩ = some (.int .i64 0) := H3.out.qb.cell 1
    have f0 := H3.out.ob.frozen 0
    have f1 := H3.out.ob.frozen 1
    have g0 := H3.out.qb.frozen 0
    have g1 := H3.out.qb.frozen 1
    have k25 : w3.cell? ⟨w.heap.size + 1, 25, none⟩ = some (.slice m.f.A m.f.n m.f.cap) := H3.out.kb.cell 25
    have K4 := Lib.hid (H3.out.put o3)
    have HF : Hid (wLists' o p = wFold wText o3 p.filters 64) := Lib.hid (by
      unfold wLists' wFilters wFold
      rw [if_neg (by rw [HK.out]; decide), if_pos HK.out, E1.out, E2.out, HP.out.fn, E3.out]
      try (congr 1; rw [List.take_eq_take_iff, HP.out.fn]; omega))
    go_wp2
    go_loopw [11] (fun i wr => ∃ k : Nat, i = .int .i64 k ∧ k ≤ 64 ∧ Hid (Rq w (wFold wText o3 p.filters k) p m ⟨⟨#[]⟩, 0⟩ wr)) (fun i _ => 64 - (intOf i).toNat)
    case atStart => exact ⟨0, rfl, by omega, K4⟩
    case round =>
      obtain ⟨k, rfl, hk, hw⟩ := hrel
      by_cases hlt : k < 64
      · obtain ⟨g, q, e0, hg, hcl⟩ := (VRow.below HP.out.fr hw.out.below) (by rw [List.length_map, HP.out.fn]; omega)
        obtain ⟨x, hx⟩ : ∃ x, p.filters[k]? = some x := ⟨_, List.getElem?_eq_getElem (by rw [HP.out.fn]; omega)⟩
        have c0 := hcl k (.string x) (by rw [List.getElem?_map, hx]; rfl)
        have hfx := HP.out.fits.filters.2 x (List.mem_of_getElem? hx)
        have hkI : (k : Int) < (m.f.n : Int) := by omega
        have hk64 : (k : Int) < 64 := by omega
        have HX := Lib.hid (wFold_succ (f := wText) (o := o3) hx)
        have hsz := wFold_size 65537 text_size o3 p.filters k
        obtain ⟨ok, hok⟩ : ∃ y, wFold wText o3 p.filters k = y := ⟨_, rfl⟩
        rw [hok] at hw hsz HX
        have C5 := Lib.hid (fun X : World => reftext_any ok x X (by omega) (by omega))
        have k8 : wr.cell? ⟨w.heap.size + 1, 25, none⟩ = some (.slice (some ⟨g, q, none⟩) m.f.n m.f.cap) := (hw.out.kb.cell 25).trans (by show some (Value.slice m.f.A m.f.n m.f.cap) = _; rw [e0])
        have s0 : S4r wr w.heap.size ok 25 (.slice (some ⟨g, q, none⟩) m.f.n m.f.cap) g (q + k) (.string x) := ⟨hw.out.ob.cell 0, hw.out.ob.cell 1, k8, c0⟩
        obtain ⟨p0, p1, _, c0⟩ := s0
        have s1 : S4r wr.drew w.heap.size ok 25 (.slice (some ⟨g, q, none⟩) m.f.n m.f.cap) g (q + k) (.string x) := ⟨p0, p1, k8, c0⟩
        obtain ⟨t0, t1, t2, t3⟩ := s1
        have HG := Lib.hid hg
        have HD := Lib.hid hw.out.drew
        have hlo : w.heap.size < wr.heap.size := hw.out.ob.lt
        have hlk : w.heap.size + 1 < wr.heap.size := hw.out.kb.lt
        have f0 := hw.out.ob.frozen 0
        have f1 := hw.out.ob.frozen 1
        have hkk := hk
        clear hcl hx hok hfx hsz e0 hg
        go_wp2_with fail
        go_still_tail 6, (by kernel_rfl)
        change wpList _ _ _ _ _ wr.drew
        go_wp2_with fail
        (with_reducible refine (C5.out _).mono ?_)
        rintro e w6 ⟨rfl, b6⟩
        have H6 := Lib.hid (HD.out.step b6)
        have K6 := Lib.hid (H6.out.put (wText ok x))
        have u0 := H6.out.ob.frozen 0
        have u1 := H6.out.ob.frozen 1
        have v0 : w6.cell? ⟨w.heap.size, 0, none⟩ = some (.string ok.s) := H6.out.ob.cell 0
        have v1 : w6.cell? ⟨w.heap.size, 1, none⟩ = some (.int .i64 ok.c) := H6.out.ob.cell 1
        clear b6 H6
        go_wp2
        go_roundw
        case rel => exact ⟨k + 1, by go_num, by omega, by rw [HX.out]; exact K6⟩
        case measure => simp [intOf]; omega
      · have hkK : k = 64 := by omega
        have HE : Hid (wLists' o p = wFold wText o3 p.filters k) := Lib.hid (by rw [HF.out]; congr 1; omega)
        obtain ⟨ok, hok⟩ : ∃ y, wFold wText o3 p.filters k = y := ⟨_, rfl⟩
        rw [hok] at hw HE
        have p0 : wr.cell? ⟨w.heap.size, 0, none⟩ = some (.string ok.s) := hw.out.ob.cell 0
        have p1 : wr.cell? ⟨w.heap.size, 1, none⟩ = some (.int .i64 ok.c) := hw.out.ob.cell 1
        have q0 : wr.cell? ⟨w.heap.size + 2, 0, none⟩ = some (.string ⟨#[]⟩) := hw.out.qb.cell 0
        have q1 : wr.cell? ⟨w.heap.size + 2, 1, none⟩ = some (.int .i64 0) := hw.out.qb.cell 1
        have g0 := hw.out.qb.frozen 0
        have g1 := hw.out.qb.frozen 1
        have k8 : wr.cell? ⟨w.heap.size + 1, 25, none⟩ = some (.slice m.f.A m.f.n m.f.cap) := hw.out.kb.cell 25
        have hx1 : (k : Int) ≤ (m.f.n : Int) := by omega
        subst hkK
        have hgt : (64 : Int) < (m.f.n : Int) := by omega
        clear hok
        go_wp2
        refine bodyPost_ret (v := .agg #[.string ok.s, .int .i64 ok.c]) (by simp [results, Tryd.results50, go_sem, q0, q1]) rfl ?_
        rw [HE.out]
        exact ⟨rfl, (hw.out.below.setCell (Nat.le_add_right _ 2) _).setCell (Nat.le_add_right _ 2) _⟩
end Go.Proofs.YtlnanenfpapfkaaDoor
