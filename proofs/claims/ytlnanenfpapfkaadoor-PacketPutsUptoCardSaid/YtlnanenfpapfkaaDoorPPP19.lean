/- The walks of the document's lists (joined), flags, body. -/
import Derived.Test.YtlnanenfpapfkaaDoorPPP18
set_option linter.unusedVariables false
namespace Go.Proofs.YtlnanenfpapfkaaDoor
open Go.RowKit Pl

theorem rlists_any (o : Ot) (p : Pk) (m : Hs) (w : World) (hP : PkIn .i64 w p m) (hs : o.s.size ≤ 1048576) :
    Calls Tryd.prog 50 #[.agg #[.string o.s, .int .i64 o.c], pkV .i64 p m] w fun e w' => RPost (wLists' o p) w w' e := by
  by_cases h8 : p.kind = 8
  · exact rlists_subs o p m w hP hs h8
  · by_cases h10 : p.kind = 10
    · exact rlists_filters o p m w hP hs h10
    · exact rlists_codes o p m w hP hs ⟨h8, h10⟩
theorem rpk_size : (Tryd.prog.info? 45).map (·.size) = some 26 := by kernel_rfl
/-- What the document asks of a Publish's flags ahead of its bytes. -/
def rHd (o : Ot) (p : Pk) : Ot := if p.kind = 3 then (if p.dup = true ∧ p.q = 0 then (wQos o p.q).fail 129 else wQos o p.q) else o
theorem rHd_head (p : Pk) : rHd ⟨⟨#[]⟩, 0⟩ p = wHead p := rfl

set_option maxRecDepth 100000 in
set_option maxHeartbeats 8000000 in
theorem rbody_1 (o : Ot) (p : Pk) (m : Hs) (w : World) (hP : PkIn .i64 w p m) (hs : o.s.size ≤ 1048000) (hk : p.kind = 1) :
    Calls Tryd.prog 23 #[.agg #[.string o.s, .int .i64 o.c], pkV .i64 p m] w fun e w' => RPost (wBody' (rHd o p) p) w w' e := by
  have h0 := Rq.new w o p m
  obtain ⟨W, hW⟩ : ∃ W, ((w.alloc (.cells #[.string o.s, .int .i64 o.c] 81)).alloc (.cells (pkA .i64 p m) 45)).alloc (.cells #[.string ⟨#[]⟩, .int .i64 0] 81) = W := ⟨_, rfl⟩
  rw [hW] at h0
  have H0 := Lib.hid h0
  have HP := Lib.hid hP
  have HK := Lib.hid hk
  have HH : Hid (rHd o p = o) := Lib.hid (by unfold rHd; rw [if_neg (by have := HK.out; omega)])
  rw [HH.out]
  have t1 : (p.kind == 1) = true := by rw [HK.out]; rfl
  clear hP hk
  unfold pkV
  have p0 : W.cell? ⟨w.heap.size, 0, none⟩ = some (.string o.s) := H0.out.ob.cell 0
  have p1 : W.cell? ⟨w.heap.size, 1, none⟩ = some (.int .i64 o.c) := H0.out.ob.cell 1
  have q0 : W.cell? ⟨w.heap.size + 2, 0, none⟩ = some (.string ⟨#[]⟩) := H0.out.qb.cell 0
  have q1 : W.cell? ⟨w.heap.size + 2, 1, none⟩ = some (.int .i64 0) := H0.out.qb.cell 1
  have f0 := H0.out.ob.frozen 0
  have f1 := H0.out.ob.frozen 1
  have g0 := H0.out.qb.frozen 0
  have g1 := H0.out.qb.frozen 1
  have k0 : W.cell? ⟨w.heap.size + 1, 0, none⟩ = some (.int .i64 p.kind) := H0.out.kb.cell 0
  clear h0
  go_enter Tryd.func23, Tryd.ntmps23
  have C1 := (fun (X : World) (hX : Below w.heap.size w X) => rconnect_any o p m X (HP.out.below hX) (by omega))
  unfold pkV at C1
  have C1 := Lib.hid C1
  go_wp2_with (refine wpList_load_row rfl 45 (.tmp 3) rfl (w.heap.size + 1) rfl 45 (pkA .i64 p m) (0, 0) _ H0.out.kb Tryd.underlying45 rfl rpk_size ?_)
  (with_reducible refine (C1.out _ H0.out.below).mono ?_)
  rintro e w1 ⟨rfl, b1⟩
  have H1 := Lib.hid (H0.out.step b1)
  obtain ⟨o1, e1⟩ : ∃ x, wConnect o p = x := ⟨_, rfl⟩
  have E1 := Lib.hid e1
  try rw [e1]
  clear e1 b1 p0 p1 q0 q1 f0 f1 g0 g1 k0
  have p0 : w1.cell? ⟨w.heap.size, 0, none⟩ = some (.string o.s) := H1.out.ob.cell 0
  have p1 : w1.cell? ⟨w.heap.size, 1, none⟩ = some (.int .i64 o.c) := H1.out.ob.cell 1
  have q0 : w1.cell? ⟨w.heap.size + 2, 0, none⟩ = some (.string ⟨#[]⟩) := H1.out.qb.cell 0
  have q1 : w1.cell? ⟨w.heap.size + 2, 1, none⟩ = some (.int .i64 0) := H1.out.qb.cell 1
  have f0 := H1.out.ob.frozen 0
  have f1 := H1.out.ob.frozen 1
  have g0 := H1.out.qb.frozen 0
  have g1 := H1.out.qb.frozen 1
  go_wp2
  refine bodyPost_ret (v := .agg #[.string o1.s, .int .i64 o1.c]) (by simp [results, Tryd.results23, go_sem, q0, q1]) rfl ?_
  have e : wBody' o p = o1 := by
    unfold wBody'
    rw [if_pos (by have := HK.out; omega)]
    exact E1.out
  rw [e]
  exact ⟨rfl, ((H1.out.below.setCell (Nat.le_add_right _ 2) _).setCell (Nat.le_add_right _ 2) _)⟩
set_option maxRecDepth 100000 in
set_option maxHeartbeats 8000000 in
theorem rbody_2 (o : Ot) (p : Pk) (m : Hs) (w : World) (hP : PkIn .i64 w p m) (hs : o.s.size ≤ 1048000) (hk : p.kind = 2) :
    Calls Tryd.prog 23 #[.agg #[.string o.s, .int .i64 o.c], pkV .i64 p m] w fun e w' => RPost (wBody' (rHd o p) p) w w' e := by
  have h0 := Rq.new w o p m
  obtain ⟨W, hW⟩ : ∃ W, ((w.alloc (.cells #[.string o.s, .int .i64 o.c] 81)).alloc (.cells (pkA .i64 p m) 45)).alloc (.cells #[.string ⟨#[]⟩, .int .i64 0] 81) = W := ⟨_, rfl⟩
  rw [hW] at h0
  have H0 := Lib.hid h0
  have HP := Lib.hid hP
  have HK := Lib.hid hk
  have HH : Hid (rHd o p = o) := Lib.hid (by unfold rHd; rw [if_neg (by have := HK.out; omega)])
  rw [HH.out]
  have t1 : (p.kind == 1) = false := by rw [HK.out]; rfl
  have t2 : (p.kind == 2) = true := by rw [HK.out]; rfl
  clear hP hk
  unfold pkV
  have p0 : W.cell? ⟨w.heap.size, 0, none⟩ = some (.string o.s) := H0.out.ob.cell 0
  have p1 : W.cell? ⟨w.heap.size, 1, none⟩ = some (.int .i64 o.c) := H0.out.ob.cell 1
  have q0 : W.cell? ⟨w.heap.size + 2, 0, none⟩ = some (.string ⟨#[]⟩) := H0.out.qb.cell 0
  have q1 : W.cell? ⟨w.heap.size + 2, 1, none⟩ = some (.int .i64 0) := H0.out.qb.cell 1
  have f0 := H0.out.ob.frozen 0
  have f1 := H0.out.ob.frozen 1
  have g0 := H0.out.qb.frozen 0
  have g1 := H0.out.qb.frozen 1
  have k0 : W.cell? ⟨w.heap.size + 1, 0, none⟩ = some (.int .i64 p.kind) := H0.out.kb.cell 0
  have k23 : W.cell? ⟨w.heap.size + 1, 23, none⟩ = some (.bool p.session) := H0.out.kb.cell 23
  clear h0
  go_enter Tryd.func23, Tryd.ntmps23
  go_wp2_with fail
  (with_reducible refine (rbit_any p.session 1 _).mono ?_)
  rintro e w0 ⟨rfl, rfl⟩
  have C1 := Lib.hid (fun (X : World) (hX : Below w.heap.size w X) => refnumber_any o 1 (bt1 p.session 1) X (by omega) (by decide))
  go_wp2_with fail
  (with_reducible refine (C1.out _ H0.out.below).mono ?_)
  rintro e w1 ⟨rfl, b1⟩
  have H1 := Lib.hid (H0.out.step b1)
  obtain ⟨o1, e1⟩ : ∃ x, wNum 1 o (bt1 p.session 1) = x := ⟨_, rfl⟩
  have s1 : o1.s.size ≤ 1048001 := by rw [← e1]; have := num_size 1 o (bt1 p.session 1); have : (1 : Int).toNat = 1 := rfl; omega
  have E1 := Lib.hid e1
  try rw [e1]
  clear e1 b1 p0 p1 q0 q1 f0 f1 g0 g1 k0 k23
  have p0 : w1.cell? ⟨w.heap.size, 0, none⟩ = some (.string o.s) := H1.out.ob.cell 0
  have p1 : w1.cell? ⟨w.heap.size, 1, none⟩ = some (.int .i64 o.c) := H1.out.ob.cell 1
  have q0 : w1.cell? ⟨w.heap.size + 2, 0, none⟩ = some (.string ⟨#[]⟩) := H1.out.qb.cell 0
  have q1 : w1.cell? ⟨w.heap.size + 2, 1, none⟩ = some (.int .i64 0) := H1.out.qb.cell 1
  have f0 := H1.out.ob.frozen 0
  have f1 := H1.out.ob.frozen 1
  have g0 := H1.out.qb.frozen 0
  have g1 := H1.out.qb.frozen 1
  have k7 : w1.cell? ⟨w.heap.size + 1, 7, none⟩ = some (.int .i64 p.code) := H1.out.kb.cell 7
  have K2 := Lib.hid (H1.out.put o1)
  have C2 := Lib.hid (fun (X : World) (hX : Below w.heap.size w X) => refnumber_any o1 1 p.code X (by omega) (by decide))
  go_wp2_with fail
  (with_reducible refine (C2.out _ K2.out.below).mono ?_)
  rintro e w2 ⟨rfl, b2⟩
  have H2 := Lib.hid (K2.out.step b2)
  obtain ⟨o2, e2⟩ : ∃ x, wNum 1 o1 p.code = x := ⟨_, rfl⟩
  have s2 : o2.s.size ≤ 1048002 := by rw [← e2]; have := num_size 1 o1 p.code; have : (1 : Int).toNat = 1 := rfl; omega
  have E2 := Lib.hid e2
  try rw [e2]
  clear e2 b2 p0 p1 q0 q1 f0 f1 g0 g1 k7
  have p0 : w2.cell? ⟨w.heap.size, 0, none⟩ = some (.string o1.s) := H2.out.ob.cell 0
  have p1 : w2.cell? ⟨w.heap.size, 1, none⟩ = some (.int .i64 o1.c) := H2.out.ob.cell 1
  have q0 : w2.cell? ⟨w.heap.size + 2, 0, none⟩ = some (.string ⟨#[]⟩) := H2.out.qb.cell 0
  have q1 : w2.cell? ⟨w.heap.size + 2, 1, none⟩ = some (.int .i64 0) := H2.out.qb.cell 1
  have f0 := H2.out.ob.frozen 0
  have f1 := H2.out.ob.frozen 1
  have g0 := H2.out.qb.frozen 0
  have g1 := H2.out.qb.frozen 1
  have k9 : w2.cell? ⟨w.heap.size + 1, 9, none⟩ = some (.slice m.p.A m.p.n m.p.cap) := H2.out.kb.cell 9
  have K3 := Lib.hid (H2.out.put o2)
  have C3 := Lib.hid (fun (X : World) (hX : Below w.heap.size w X) => rprops_any o2 2 m.p.A m.p.n m.p.cap p.ps X HP.out.pn HP.out.pc (by have := HP.out.fits.ps.1; have := HP.out.pn; omega) (HP.out.pr.below hX) HP.out.fits.ps.2 (by omega))
  go_wp2_with fail
  (with_reducible refine (C3.out _ K3.out.below).mono ?_)
  rintro e w3 ⟨rfl, b3⟩
  have H3 := Lib.hid (K3.out.step b3)
  obtain ⟨o3, e3⟩ : ∃ x, wProps 2 o2 p.ps = x := ⟨_, rfl⟩
  have s3 : o3.s.size ≤ 9700000 := by rw [← e3]; have := props_size 2 o2 p.ps; omega
  have E3 := Lib.hid e3
  try rw [e3]
  clear e3 b3 p0 p1 q0 q1 f0 f1 g0 g1 k9
  have p0 : w3.cell? ⟨w.heap.size, 0, none⟩ = some (.string o2.s) := H3.out.ob.cell 0
  have p1 : w3.cell? ⟨w.heap.size, 1, none⟩ = some (.int .i64 o2.c) := H3.out.ob.cell 1
  have q0 : w3.cell? ⟨w.heap.size + 2, 0, none⟩ = some (.string ⟨#[]⟩) := H3.out.qb.cell 0
  have q1 : w3.cell? ⟨w.heap.size + 2, 1, none⟩ = some (.int .i64 0) := H3.out.qb.cell 1
  have f0 := H3.out.ob.frozen 0
  have f1 := H3.out.ob.frozen 1
  have g0 := H3.out.qb.frozen 0
  have g1 := H3.out.qb.frozen 1
  go_wp2
  refine bodyPost_ret (v := .agg #[.string o3.s, .int .i64 o3.c]) (by simp [results, Tryd.results23, go_sem, q0, q1]) rfl ?_
  have e : wBody' o p = o3 := by
    unfold wBody'
    rw [if_neg (by have := HK.out; omega), if_pos (by have := HK.out; omega)]
    unfold wConnack
    rw [E1.out, E2.out]
    exact E3.out
  rw [e]
  exact ⟨rfl, ((H3.out.below.setCell (Nat.le_add_right _ 2) _).setCell (Nat.le_add_right _ 2) _)⟩
set_option maxRecDepth 100000 in
set_option maxHeartbeats 8000000 in
theorem rbody_4 (o : Ot) (p : Pk) (m : Hs) (w : World) (hP : PkIn .i64 w p m) (hs : o.s.size ≤ 1048000) (hk : p.kind = 4) :
    Calls Tryd.prog 23 #[.agg #[.string o.s, .int .i64 o.c], pkV .i64 p m] w fun e w' => RPost (wBody' (rHd o p) p) w w' e := by
  have h0 := Rq.new w o p m
  obtain ⟨W, hW⟩ : ∃ W, ((w.alloc (.cells #[.string o.s, .int .i64 o.c] 81)).alloc (.cells (pkA .i64 p m) 45)).alloc (.cells #[.string ⟨#[]⟩, .int .i64 0] 81) = W := ⟨_, rfl⟩
  rw [hW] at h0
  have H0 := Lib.hid h0
  have HP := Lib.hid hP
  have HK := Lib.hid hk
  have HH : Hid (rHd o p = o) := Lib.hid (by unfold rHd; rw [if_neg (by have := HK.out; omega)])
  rw [HH.out]
  have t1 : (p.kind == 1) = false := by rw [HK.out]; rfl
  have t2 : (p.kind == 2) = false := by rw [HK.out]; rfl
  have t3 : (p.kind == 3) = false := by rw [HK.out]; rfl
  have t4 : (p.kind == 4) = true := by rw [HK.out]; rfl
  clear hP hk
  unfold pkV
  have p0 : W.cell? ⟨w.heap.size, 0, none⟩ = some (.string o.s) := H0.out.ob.cell 0
  have p1 : W.cell? ⟨w.heap.size, 1, none⟩ = some (.int .i64 o.c) := H0.out.ob.cell 1
  have q0 : W.cell? ⟨w.heap.size + 2, 0, none⟩ = some (.string ⟨#[]⟩) := H0.out.qb.cell 0
  have q1 : W.cell? ⟨w.heap.size + 2, 1, none⟩ = some (.int .i64 0) := H0.out.qb.cell 1
  have f0 := H0.out.ob.frozen 0
  have f1 := H0.out.ob.frozen 1
  have g0 := H0.out.qb.frozen 0
  have g1 := H0.out.qb.frozen 1
  have k0 : W.cell? ⟨w.heap.size + 1, 0, none⟩ = some (.int .i64 p.kind) := H0.out.kb.cell 0
  have k4 : W.cell? ⟨w.heap.size + 1, 4, none⟩ = some (.int .i64 p.id) := H0.out.kb.cell 4
  clear h0
  go_enter Tryd.func23, Tryd.ntmps23
  have C1 := Lib.hid (fun (X : World) (hX : Below w.heap.size w X) => rid_any o p.id X (by omega))
  go_wp2_with fail
  (with_reducible refine (C1.out _ H0.out.below).mono ?_)
  rintro e w1 ⟨rfl, b1⟩
  have H1 := Lib.hid (H0.out.step b1)
  obtain ⟨o1, e1⟩ : ∃ x, wId o p.id = x := ⟨_, rfl⟩
  have s1 : o1.s.size ≤ 1048002 := by rw [← e1]; have := id_size o p.id; omega
  have E1 := Lib.hid e1
  try rw [e1]
  clear e1 b1 p0 p1 q0 q1 f0 f1 g0 g1 k0 k4
  have p0 : w1.cell? ⟨w.heap.size, 0, none⟩ = some (.string o.s) := H1.out.ob.cell 0
  have p1 : w1.cell? ⟨w.heap.size, 1, none⟩ = some (.int .i64 o.c) := H1.out.ob.cell 1
  have q0 : w1.cell? ⟨w.heap.size + 2, 0, none⟩ = some (.string ⟨#[]⟩) := H1.out.qb.cell 0
  have q1 : w1.cell? ⟨w.heap.size + 2, 1, none⟩ = some (.int .i64 0) := H1.out.qb.cell 1
  have f0 := H1.out.ob.frozen 0
  have f1 := H1.out.ob.frozen 1
  have g0 := H1.out.qb.frozen 0
  have g1 := H1.out.qb.frozen 1
  have K2 := Lib.hid (H1.out.put o1)
  have C2 := (fun (X : World) (hX : Below w.heap.size w X) => rend_any o1 p m X (HP.out.below hX) (by omega))
  unfold pkV at C2
  have C2 := Lib.hid C2
  go_wp2_with (refine wpList_load_row rfl 45 (.tmp 3) rfl (w.heap.size + 1) rfl 45 (pkA .i64 p m) (0, 0) _ K2.out.kb Tryd.underlying45 rfl rpk_size ?_)
  (with_reducible refine (C2.out _ K2.out.below).mono ?_)
  rintro e w2 ⟨rfl, b2⟩
  have H2 := Lib.hid (K2.out.step b2)
  obtain ⟨o2, e2⟩ : ∃ x, wEnd o1 p = x := ⟨_, rfl⟩
  have E2 := Lib.hid e2
  try rw [e2]
  clear e2 b2 p0 p1 q0 q1 f0 f1 g0 g1
  have p0 : w2.cell? ⟨w.heap.size, 0, none⟩ = some (.string o1.s) := H2.out.ob.cell 0
  have p1 : w2.cell? ⟨w.heap.size, 1, none⟩ = some (.int .i64 o1.c) := H2.out.ob.cell 1
  have q0 : w2.cell? ⟨w.heap.size + 2, 0, none⟩ = some (.string ⟨#[]⟩) := H2.out.qb.cell 0
  have q1 : w2.cell? ⟨w.heap.size + 2, 1, none⟩ = some (.int .i64 0) := H2.out.qb.cell 1
  have f0 := H2.out.ob.frozen 0
  have f1 := H2.out.ob.frozen 1
  have g0 := H2.out.qb.frozen 0
  have g1 := H2.out.qb.frozen 1
  go_wp2
  refine bodyPost_ret (v := .agg #[.string o2.s, .int .i64 o2.c]) (by simp [results, Tryd.results23, go_sem, q0, q1]) rfl ?_
  have e : wBody' o p = o2 := by
    unfold wBody'
    rw [if_neg (by have := HK.out; omega), if_neg (by have := HK.out; omega), if_neg (by have := HK.out; omega), if_pos (by have := HK.out; omega)]
    rw [E1.out]
    exact E2.out
  rw [e]
  exact ⟨rfl, ((H2.out.below.setCell (Nat.le_add_right _ 2) _).setCell (Nat.le_add_right _ 2) _)⟩
set_option maxRecDepth 100000 in
set_option maxHeartbeats 8000000 in
theorem rbody_5 (o : Ot) (p : Pk) (m : Hs) (w : World) (hP : PkIn .i64 w p m) (hs : o.s.size ≤ 1048000) (hk : p.kind = 5) :
    Calls Tryd.prog 23 #[.agg #[.string o.s, .int .i64 o.c], pkV .i64 p m] w fun e w' => RPost (wBody' (rHd o p) p) w w' e := by
  have h0 := Rq.new w o p m
  obtain ⟨W, hW⟩ : ∃ W, ((w.alloc (.cells #[.string o.s, .int .i64 o.c] 81)).alloc (.cells (pkA .i64 p m) 45)).alloc (.cells #[.string ⟨#[]⟩, .int .i64 0] 81) = W := ⟨_, rfl⟩
  rw [hW] at h0
  have H0 := Lib.hid h0
  have HP := Lib.hid hP
  have HK := Lib.hid hk
  have HH : Hid (rHd o p = o) := Lib.hid (by unfold rHd; rw [if_neg (by have := HK.out; omega)])
  rw [HH.out]
  have t1 : (p.kind == 1) = false := by rw [HK.out]; rfl
  have t2 : (p.kind == 2) = false := by rw [HK.out]; rfl
  have t3 : (p.kind == 3) = false := by rw [HK.out]; rfl
  have t4 : (p.kind == 4) = false := by rw [HK.out]; rfl
  have t5 : (p.kind == 5) = true := by rw [HK.out]; rfl
  clear hP hk
  unfold pkV
  have p0 : W.cell? ⟨w.heap.size, 0, none⟩ = some (.string o.s) := H0.out.ob.cell 0
  have p1 : W.cell? ⟨w.heap.size, 1, none⟩ = some (.int .i64 o.c) := H0.out.ob.cell 1
  have q0 : W.cell? ⟨w.heap.size + 2, 0, none⟩ = some (.string ⟨#[]⟩) := H0.out.qb.cell 0
  have q1 : W.cell? ⟨w.heap.size + 2, 1, none⟩ = some (.int .i64 0) := H0.out.qb.cell 1
  have f0 := H0.out.ob.frozen 0
  have f1 := H0.out.ob.frozen 1
  have g0 := H0.out.qb.frozen 0
  have g1 := H0.out.qb.frozen 1
  have k0 : W.cell? ⟨w.heap.size + 1, 0, none⟩ = some (.int .i64 p.kind) := H0.out.kb.cell 0
  have k4 : W.cell? ⟨w.heap.size + 1, 4, none⟩ = some (.int .i64 p.id) := H0.out.kb.cell 4
  clear h0
  go_enter Tryd.func23, Tryd.ntmps23
  have C1 := Lib.hid (fun (X : World) (hX : Below w.heap.size w X) => rid_any o p.id X (by omega))
  go_wp2_with fail
  (with_reducible refine (C1.out _ H0.out.below).mono ?_)
  rintro e w1 ⟨rfl, b1⟩
  have H1 := Lib.hid (H0.out.step b1)
  obtain ⟨o1, e1⟩ : ∃ x, wId o p.id = x := ⟨_, rfl⟩
  have s1 : o1.s.size ≤ 1048002 := by rw [← e1]; have := id_size o p.id; omega
  have E1 := Lib.hid e1
  try rw [e1]
  clear e1 b1 p0 p1 q0 q1 f0 f1 g0 g1 k0 k4
  have p0 : w1.cell? ⟨w.heap.size, 0, none⟩ = some (.string o.s) := H1.out.ob.cell 0
  have p1 : w1.cell? ⟨w.heap.size, 1, none⟩ = some (.int .i64 o.c) := H1.out.ob.cell 1
  have q0 : w1.cell? ⟨w.heap.size + 2, 0, none⟩ = some (.string ⟨#[]⟩) := H1.out.qb.cell 0
  have q1 : w1.cell? ⟨w.heap.size + 2, 1, none⟩ = some (.int .i64 0) := H1.out.qb.cell 1
  have f0 := H1.out.ob.frozen 0
  have f1 := H1.out.ob.frozen 1
  have g0 := H1.out.qb.frozen 0
  have g1 := H1.out.qb.frozen 1
  have K2 := Lib.hid (H1.out.put o1)
  have C2 := (fun (X : World) (hX : Below w.heap.size w X) => rend_any o1 p m X (HP.out.below hX) (by omega))
  unfold pkV at C2
  have C2 := Lib.hid C2
  go_wp2_with (refine wpList_load_row rfl 45 (.tmp 3) rfl (w.heap.size + 1) rfl 45 (pkA .i64 p m) (0, 0) _ K2.out.kb Tryd.underlying45 rfl rpk_size ?_)
  (with_reducible refine (C2.out _ K2.out.below).mono ?_)
  rintro e w2 ⟨rfl, b2⟩
  have H2 := Lib.hid (K2.out.step b2)
  obtain ⟨o2, e2⟩ : ∃ x, wEnd o1 p = x := ⟨_, rfl⟩
  have E2 := Lib.hid e2
  try rw [e2]
  clear e2 b2 p0 p1 q0 q1 f0 f1 g0 g1
  have p0 : w2.cell? ⟨w.heap.size, 0, none⟩ = some (.string o1.s) := H2.out.ob.cell 0
  have p1 : w2.cell? ⟨w.heap.size, 1, none⟩ = some (.int .i64 o1.c) := H2.out.ob.cell 1
  have q0 : w2.cell? ⟨w.heap.size + 2, 0, none⟩ = some (.string ⟨#[]⟩) := H2.out.qb.cell 0
  have q1 : w2.cell? ⟨w.heap.size + 2, 1, none⟩ = some (.int .i64 0) := H2.out.qb.cell 1
  have f0 := H2.out.ob.frozen 0
  have f1 := H2.out.ob.frozen 1
  have g0 := H2.out.qb.frozen 0
  have g1 := H2.out.qb.frozen 1
  go_wp2
  refine bodyPost_ret (v := .agg #[.string o2.s, .int .i64 o2.c]) (by simp [results, Tryd.results23, go_sem, q0, q1]) rfl ?_
  have e : wBody' o p = o2 := by
    unfold wBody'
    rw [if_neg (by have := HK.out; omega), if_neg (by have := HK.out; omega), if_neg (by have := HK.out; omega), if_pos (by have := HK.out; omega)]
    rw [E1.out]
    exact E2.out
  rw [e]
  exact ⟨rfl, ((H2.out.below.setCell (Nat.le_add_right _ 2) _).setCell (Nat.le_add_right _ 2) _)⟩
set_option maxRecDepth 100000 in
set_option maxHeartbeats 8000000 in
theorem rbody_6 (o : Ot) (p : Pk) (m : Hs) (w : World) (hP : PkIn .i64 w p m) (hs : o.s.size ≤ 1048000) (hk : p.kind = 6) :
    Calls Tryd.prog 23 #[.agg #[.string o.s, .int .i64 o.c], pkV .i64 p m] w fun e w' => RPost (wBody' (rHd o p) p) w w' e := by
  have h0 := Rq.new w o p m
  obtain ⟨W, hW⟩ : ∃ W, ((w.alloc (.cells #[.string o.s, .int .i64 o.c] 81)).alloc (.cells (pkA .i64 p m) 45)).alloc (.cells #[.string ⟨#[]⟩, .int .i64 0] 81) = W := ⟨_, rfl⟩
  rw [hW] at h0
  have H0 := Lib.hid h0
  have HP := Lib.hid hP
  have HK := Lib.hid hk
  have HH : Hid (rHd o p = o) := Lib.hid (by unfold rHd; rw [if_neg (by have := HK.out; omega)])
  rw [HH.out]
  have t1 : (p.kind == 1) = false := by rw [HK.out]; rfl
  have t2 : (p.kind == 2) = false := by rw [HK.out]; rfl
  have t3 : (p.kind == 3) = false := by rw [HK.out]; rfl
  have t4 : (p.kind == 4) = false := by rw [HK.out]; rfl
  have t5 : (p.kind == 5) = false := by rw [HK.out]; rfl
  have t6 : (p.kind == 6) = true := by rw [HK.out]; rfl
  clear hP hk
  unfold pkV
  have p0 : W.cell? ⟨w.heap.size, 0, none⟩ = some (.string o.s) := H0.out.ob.cell 0
  have p1 : W.cell? ⟨w.heap.size, 1, none⟩ = some (.int .i64 o.c) := H0.out.ob.cell 1
  have q0 : W.cell? ⟨w.heap.size + 2, 0, none⟩ = some (.string ⟨#[]⟩) := H0.out.qb.cell 0
  have q1 : W.cell? ⟨w.heap.size + 2, 1, none⟩ = some (.int .i64 0) := H0.out.qb.cell 1
  have f0 := H0.out.ob.frozen 0
  have f1 := H0.out.ob.frozen 1
  have g0 := H0.out.qb.frozen 0
  have g1 := H0.out.qb.frozen 1
  have k0 : W.cell? ⟨w.heap.size + 1, 0, none⟩ = some (.int .i64 p.kind) := H0.out.kb.cell 0
  have k4 : W.cell? ⟨w.heap.size + 1, 4, none⟩ = some (.int .i64 p.id) := H0.out.kb.cell 4
  clear h0
  go_enter Tryd.func23, Tryd.ntmps23
  have C1 := Lib.hid (fun (X : World) (hX : Below w.heap.size w X) => rid_any o p.id X (by omega))
  go_wp2_with fail
  (with_reducible refine (C1.out _ H0.out.below).mono ?_)
  rintro e w1 ⟨rfl, b1⟩
  have H1 := Lib.hid (H0.out.step b1)
  obtain ⟨o1, e1⟩ : ∃ x, wId o p.id = x := ⟨_, rfl⟩
  have s1 : o1.s.size ≤ 1048002 := by rw [← e1]; have := id_size o p.id; omega
  have E1 := Lib.hid e1
  try rw [e1]
  clear e1 b1 p0 p1 q0 q1 f0 f1 g0 g1 k0 k4
  have p0 : w1.cell? ⟨w.heap.size, 0, none⟩ = some (.string o.s) := H1.out.ob.cell 0
  have p1 : w1.cell? ⟨w.heap.size, 1, none⟩ = some (.int .i64 o.c) := H1.out.ob.cell 1
  have q0 : w1.cell? ⟨w.heap.size + 2, 0, none⟩ = some (.string ⟨#[]⟩) := H1.out.qb.cell 0
  have q1 : w1.cell? ⟨w.heap.size + 2, 1, none⟩ = some (.int .i64 0) := H1.out.qb.cell 1
  have f0 := H1.out.ob.frozen 0
  have f1 := H1.out.ob.frozen 1
  have g0 := H1.out.qb.frozen 0
  have g1 := H1.out.qb.frozen 1
  have K2 := Lib.hid (H1.out.put o1)
  have C2 := (fun (X : World) (hX : Below w.heap.size w X) => rend_any o1 p m X (HP.out.below hX) (by omega))
  unfold pkV at C2
  have C2 := Lib.hid C2
  go_wp2_with (refine wpList_load_row rfl 45 (.tmp 3) rfl (w.heap.size + 1) rfl 45 (pkA .i64 p m) (0, 0) _ K2.out.kb Tryd.underlying45 rfl rpk_size ?_)
  (with_reducible refine (C2.out _ K2.out.below).mono ?_)
  rintro e w2 ⟨rfl, b2⟩
  have H2 := Lib.hid (K2.out.step b2)
  obtain ⟨o2, e2⟩ : ∃ x, wEnd o1 p = x := ⟨_, rfl⟩
  have E2 := Lib.hid e2
  try rw [e2]
  clear e2 b2 p0 p1 q0 q1 f0 f1 g0 g1
  have p0 : w2.cell? ⟨w.heap.size, 0, none⟩ = some (.string o1.s) := H2.out.ob.cell 0
  have p1 : w2.cell? ⟨w.heap.size, 1, none⟩ = some (.int .i64 o1.c) := H2.out.ob.cell 1
  have q0 : w2.cell? ⟨w.heap.size + 2, 0, none⟩ = some (.string ⟨#[]⟩) := H2.out.qb.cell 0
  have q1 : w2.cell? ⟨w.heap.size + 2, 1, none⟩ = some (.int .i64 0) := H2.out.qb.cell 1
  have f0 := H2.out.ob.frozen 0
  have f1 := H2.out.ob.frozen 1
  have g0 := H2.out.qb.frozen 0
  have g1 := H2.out.qb.frozen 1
  go_wp2
  refine bodyPost_ret (v := .agg #[.string o2.s, .int .i64 o2.c]) (by simp [results, Tryd.results23, go_sem, q0, q1]) rfl ?_
  have e : wBody' o p = o2 := by
    unfold wBody'
    rw [if_neg (by have := HK.out; omega), if_neg (by have := HK.out; omega), if_neg (by have := HK.out; omega), if_pos (by have := HK.out; omega)]
    rw [E1.out]
    exact E2.out
  rw [e]
  exact ⟨rfl, ((H2.out.below.setCell (Nat.le_add_right _ 2) _).setCell (Nat.le_add_right _ 2) _)⟩
set_option maxRecDepth 100000 in
set_option maxHeartbeats 8000000 in
theorem rbody_7 (o : Ot) (p : Pk) (m : Hs) (w : World) (hP : PkIn .i64 w p m) (hs : o.s.size ≤ 1048000) (hk : p.kind = 7) :
    Calls Tryd.prog 23 #[.agg #[.string o.s, .int .i64 o.c], pkV .i64 p m] w fun e w' => RPost (wBody' (rHd o p) p) w w' e := by
  have h0 := Rq.new w o p m
  obtain ⟨W, hW⟩ : ∃ W, ((w.alloc (.cells #[.string o.s, .int .i64 o.c] 81)).alloc (.cells (pkA .i64 p m) 45)).alloc (.cells #[.string ⟨#[]⟩, .int .i64 0] 81) = W := ⟨_, rfl⟩
  rw [hW] at h0
  have H0 := Lib.hid h0
  have HP := Lib.hid hP
  have HK := Lib.hid hk
  have HH : Hid (rHd o p = o) := Lib.hid (by unfold rHd; rw [if_neg (by have := HK.out; omega)])
  rw [HH.out]
  have t1 : (p.kind == 1) = false := by rw [HK.out]; rfl
  have t2 : (p.kind == 2) = false := by rw [HK.out]; rfl
  have t3 : (p.kind == 3) = false := by rw [HK.out]; rfl
  have t4 : (p.kind == 4) = false := by rw [HK.out]; rfl
  have t5 : (p.kind == 5) = false := by rw [HK.out]; rfl
  have t6 : (p.kind == 6) = false := by rw [HK.out]; rfl
  have t7 : (p.kind == 7) = true := by rw [HK.out]; rfl
  clear hP hk
  unfold pkV
  have p0 : W.cell? ⟨w.heap.size, 0, none⟩ = some (.string o.s) := H0.out.ob.cell 0
  have p1 : W.cell? ⟨w.heap.size, 1, none⟩ = some (.int .i64 o.c) := H0.out.ob.cell 1
  have q0 : W.cell? ⟨w.heap.size + 2, 0, none⟩ = some (.string ⟨#[]⟩) := H0.out.qb.cell 0
  have q1 : W.cell? ⟨w.heap.size + 2, 1, none⟩ = some (.int .i64 0) := H0.out.qb.cell 1
  have f0 := H0.out.ob.frozen 0
  have f1 := H0.out.ob.frozen 1
  have g0 := H0.out.qb.frozen 0
  have g1 := H0.out.qb.frozen 1
  have k0 : W.cell? ⟨w.heap.size + 1, 0, none⟩ = some (.int .i64 p.kind) := H0.out.kb.cell 0
  have k4 : W.cell? ⟨w.heap.size + 1, 4, none⟩ = some (.int .i64 p.id) := H0.out.kb.cell 4
  clear h0
  go_enter Tryd.func23, Tryd.ntmps23
  have C1 := Lib.hid (fun (X : World) (hX : Below w.heap.size w X) => rid_any o p.id X (by omega))
  go_wp2_with fail
  (with_reducible refine (C1.out _ H0.out.below).mono ?_)
  rintro e w1 ⟨rfl, b1⟩
  have H1 := Lib.hid (H0.out.step b1)
  obtain ⟨o1, e1⟩ : ∃ x, wId o p.id = x := ⟨_, rfl⟩
  have s1 : o1.s.size ≤ 1048002 := by rw [← e1]; have := id_size o p.id; omega
  have E1 := Lib.hid e1
  try rw [e1]
  clear e1 b1 p0 p1 q0 q1 f0 f1 g0 g1 k0 k4
  have p0 : w1.cell? ⟨w.heap.size, 0, none⟩ = some (.string o.s) := H1.out.ob.cell 0
  have p1 : w1.cell? ⟨w.heap.size, 1, none⟩ = some (.int .i64 o.c) := H1.out.ob.cell 1
  have q0 : w1.cell? ⟨w.heap.size + 2, 0, none⟩ = some (.string ⟨#[]⟩) := H1.out.qb.cell 0
  have q1 : w1.cell? ⟨w.heap.size + 2, 1, none⟩ = some (.int .i64 0) := H1.out.qb.cell 1
  have f0 := H1.out.ob.frozen 0
  have f1 := H1.out.ob.frozen 1
  have g0 := H1.out.qb.frozen 0
  have g1 := H1.out.qb.frozen 1
  have K2 := Lib.hid (H1.out.put o1)
  have C2 := (fun (X : World) (hX : Below w.heap.size w X) => rend_any o1 p m X (HP.out.below hX) (by omega))
  unfold pkV at C2
  have C2 := Lib.hid C2
  go_wp2_with (refine wpList_load_row rfl 45 (.tmp 3) rfl (w.heap.size + 1) rfl 45 (pkA .i64 p m) (0, 0) _ K2.out.kb Tryd.underlying45 rfl rpk_size ?_)
  (with_reducible refine (C2.out _ K2.out.below).mono ?_)
  rintro e w2 ⟨rfl, b2⟩
  have H2 := Lib.hid (K2.out.step b2)
  obtain ⟨o2, e2⟩ : ∃ x, wEnd o1 p = x := ⟨_, rfl⟩
  have E2 := Lib.hid e2
  try rw [e2]
  clear e2 b2 p0 p1 q0 q1 f0 f1 g0 g1
  have p0 : w2.cell? ⟨w.heap.size, 0, none⟩ = some (.string o1.s) := H2.out.ob.cell 0
  have p1 : w2.cell? ⟨w.heap.size, 1, none⟩ = some (.int .i64 o1.c) := H2.out.ob.cell 1
  have q0 : w2.cell? ⟨w.heap.size + 2, 0, none⟩ = some (.string ⟨#[]⟩) := H2.out.qb.cell 0
  have q1 : w2.cell? ⟨w.heap.size + 2, 1, none⟩ = some (.int .i64 0) := H2.out.qb.cell 1
  have f0 := H2.out.ob.frozen 0
  have f1 := H2.out.ob.frozen 1
  have g0 := H2.out.qb.frozen 0
  have g1 := H2.out.qb.frozen 1
  go_wp2
  refine bodyPost_ret (v := .agg #[.string o2.s, .int .i64 o2.c]) (by simp [results, Tryd.results23, go_sem, q0, q1]) rfl ?_
  have e : wBody' o p = o2 := by
    unfold wBody'
    rw [if_neg (by have := HK.out; omega), if_neg (by have := HK.out; omega), if_neg (by have := HK.out; omega), if_pos (by have := HK.out; omega)]
    rw [E1.out]
    exact E2.out
  rw [e]
  exact ⟨rfl, ((H2.out.below.setCell (Nat.le_add_right _ 2) _).setCell (Nat.le_add_right _ 2) _)⟩
set_option maxRecDepth 100000 in
set_option maxHeartbeats 8000000 in
theorem rbody_14 (o : Ot) (p : Pk) (m : Hs) (w : World) (hP : PkIn .i64 w p m) (hs : o.s.size ≤ 1048000) (hk : p.kind = 14) :
    Calls Tryd.prog 23 #[.agg #[.string o.s, .int .i64 o.c], pkV .i64 p m] w fun e w' => RPost (wBody' (rHd o p) p) w w' e := by
  have h0 := Rq.new w o p m
  obtain ⟨W, hW⟩ : ∃ W, ((w.alloc (.cells #[.string o.s, .int .i64 o.c] 81)).alloc (.cells (pkA .i64 p m) 45)).alloc (.cells #[.string ⟨#[]⟩, .int .i64 0] 81) = W := ⟨_, rfl⟩
  rw [hW] at h0
  have H0 := Lib.hid h0
  have HP := Lib.hid hP
  have HK := Lib.hid hk
  have HH : Hid (rHd o p = o) := Lib.hid (by unfold rHd; rw [if_neg (by have := HK.out; omega)])
  rw [HH.out]
  have t1 : (p.kind == 1) = false := by rw [HK.out]; rfl
  have t2 : (p.kind == 2) = false := by rw [HK.out]; rfl
  have t3 : (p.kind == 3) = false := by rw [HK.out]; rfl
  have t4 : (p.kind == 4) = false := by rw [HK.out]; rfl
  have t5 : (p.kind == 5) = false := by rw [HK.out]; rfl
  have t6 : (p.kind == 6) = false := by rw [HK.out]; rfl
  have t7 : (p.kind == 7) = false := by rw [HK.out]; rfl
  have t14 : (p.kind == 14) = true := by rw [HK.out]; rfl
  clear hP hk
  unfold pkV
  have p0 : W.cell? ⟨w.heap.size, 0, none⟩ = some (.string o.s) := H0.out.ob.cell 0
  have p1 : W.cell? ⟨w.heap.size, 1, none⟩ = some (.int .i64 o.c) := H0.out.ob.cell 1
  have q0 : W.cell? ⟨w.heap.size + 2, 0, none⟩ = some (.string ⟨#[]⟩) := H0.out.qb.cell 0
  have q1 : W.cell? ⟨w.heap.size + 2, 1, none⟩ = some (.int .i64 0) := H0.out.qb.cell 1
  have f0 := H0.out.ob.frozen 0
  have f1 := H0.out.ob.frozen 1
  have g0 := H0.out.qb.frozen 0
  have g1 := H0.out.qb.frozen 1
  have k0 : W.cell? ⟨w.heap.size + 1, 0, none⟩ = some (.int .i64 p.kind) := H0.out.kb.cell 0
  clear h0
  go_enter Tryd.func23, Tryd.ntmps23
  have C1 := (fun (X : World) (hX : Below w.heap.size w X) => rend_any o p m X (HP.out.below hX) (by omega))
  unfold pkV at C1
  have C1 := Lib.hid C1
  go_wp2_with (refine wpList_load_row rfl 45 (.tmp 3) rfl (w.heap.size + 1) rfl 45 (pkA .i64 p m) (0, 0) _ H0.out.kb Tryd.underlying45 rfl rpk_size ?_)
  (with_reducible refine (C1.out _ H0.out.below).mono ?_)
  rintro e w1 ⟨rfl, b1⟩
  have H1 := Lib.hid (H0.out.step b1)
  obtain ⟨o1, e1⟩ : ∃ x, wEnd o p = x := ⟨_, rfl⟩
  have E1 := Lib.hid e1
  try rw [e1]
  clear e1 b1 p0 p1 q0 q1 f0 f1 g0 g1 k0
  have p0 : w1.cell? ⟨w.heap.size, 0, none⟩ = some (.string o.s) := H1.out.ob.cell 0
  have p1 : w1.cell? ⟨w.heap.size, 1, none⟩ = some (.int .i64 o.c) := H1.out.ob.cell 1
  have q0 : w1.cell? ⟨w.heap.size + 2, 0, none⟩ = some (.string ⟨#[]⟩) := H1.out.qb.cell 0
  have q1 : w1.cell? ⟨w.heap.size + 2, 1, none⟩ = some (.int .i64 0) := H1.out.qb.cell 1
  have f0 := H1.out.ob.frozen 0
  have f1 := H1.out.ob.frozen 1
  have g0 := H1.out.qb.frozen 0
  have g1 := H1.out.qb.frozen 1
  go_wp2
  refine bodyPost_ret (v := .agg #[.string o1.s, .int .i64 o1.c]) (by simp [results, Tryd.results23, go_sem, q0, q1]) rfl ?_
  have e : wBody' o p = o1 := by
    unfold wBody'
    rw [if_neg (by have := HK.out; omega), if_neg (by have := HK.out; omega), if_neg (by have := HK.out; omega), if_neg (by have := HK.out; omega), if_pos (by have := HK.out; omega)]
    exact E1.out
  rw [e]
  exact ⟨rfl, ((H1.out.below.setCell (Nat.le_add_right _ 2) _).setCell (Nat.le_add_right _ 2) _)⟩
set_option maxRecDepth 100000 in
set_option maxHeartbeats 8000000 in
theorem rbody_15 (o : Ot) (p : Pk) (m : Hs) (w : World) (hP : PkIn .i64 w p m) (hs : o.s.size ≤ 1048000) (hk : p.kind = 15) :
    Calls Tryd.prog 23 #[.agg #[.string o.s, .int .i64 o.c], pkV .i64 p m] w fun e w' => RPost (wBody' (rHd o p) p) w w' e := by
  have h0 := Rq.new w o p m
  obtain ⟨W, hW⟩ : ∃ W, ((w.alloc (.cells #[.string o.s, .int .i64 o.c] 81)).alloc (.cells (pkA .i64 p m) 45)).alloc (.cells #[.string ⟨#[]⟩, .int .i64 0] 81) = W := ⟨_, rfl⟩
  rw [hW] at h0
  have H0 := Lib.hid h0
  have HP := Lib.hid hP
  have HK := Lib.hid hk
  have HH : Hid (rHd o p = o) := Lib.hid (by unfold rHd; rw [if_neg (by have := HK.out; omega)])
  rw [HH.out]
  have t1 : (p.kind == 1) = false := by rw [HK.out]; rfl
  have t2 : (p.kind == 2) = false := by rw [HK.out]; rfl
  have t3 : (p.kind == 3) = false := by rw [HK.out]; rfl
  have t4 : (p.kind == 4) = false := by rw [HK.out]; rfl
  have t5 : (p.kind == 5) = false := by rw [HK.out]; rfl
  have t6 : (p.kind == 6) = false := by rw [HK.out]; rfl
  have t7 : (p.kind == 7) = false := by rw [HK.out]; rfl
  have t14 : (p.kind == 14) = false := by rw [HK.out]; rfl
  have t15 : (p.kind == 15) = true := by rw [HK.out]; rfl
  clear hP hk
  unfold pkV
  have p0 : W.cell? ⟨w.heap.size, 0, none⟩ = some (.string o.s) := H0.out.ob.cell 0
  have p1 : W.cell? ⟨w.heap.size, 1, none⟩ = some (.int .i64 o.c) := H0.out.ob.cell 1
  have q0 : W.cell? ⟨w.heap.size + 2, 0, none⟩ = some (.string ⟨#[]⟩) := H0.out.qb.cell 0
  have q1 : W.cell? ⟨w.heap.size + 2, 1, none⟩ = some (.int .i64 0) := H0.out.qb.cell 1
  have f0 := H0.out.ob.frozen 0
  have f1 := H0.out.ob.frozen 1
  have g0 := H0.out.qb.frozen 0
  have g1 := H0.out.qb.frozen 1
  have k0 : W.cell? ⟨w.heap.size + 1, 0, none⟩ = some (.int .i64 p.kind) := H0.out.kb.cell 0
  clear h0
  go_enter Tryd.func23, Tryd.ntmps23
  have C1 := (fun (X : World) (hX : Below w.heap.size w X) => rend_any o p m X (HP.out.below hX) (by omega))
  unfold pkV at C1
  have C1 := Lib.hid C1
  go_wp2_with (refine wpList_load_row rfl 45 (.tmp 3) rfl (w.heap.size + 1) rfl 45 (pkA .i64 p m) (0, 0) _ H0.out.kb Tryd.underlying45 rfl rpk_size ?_)
  (with_reducible refine (C1.out _ H0.out.below).mono ?_)
  rintro e w1 ⟨rfl, b1⟩
  have H1 := Lib.hid (H0.out.step b1)
  obtain ⟨o1, e1⟩ : ∃ x, wEnd o p = x := ⟨_, rfl⟩
  have E1 := Lib.hid e1
  try rw [e1]
  clear e1 b1 p0 p1 q0 q1 f0 f1 g0 g1 k0
  have p0 : w1.cell? ⟨w.heap.size, 0, none⟩ = some (.string o.s) := H1.out.ob.cell 0
  have p1 : w1.cell? ⟨w.heap.size, 1, none⟩ = some (.int .i64 o.c) := H1.out.ob.cell 1
  have q0 : w1.cell? ⟨w.heap.size + 2, 0, none⟩ = some (.string ⟨#[]⟩) := H1.out.qb.cell 0
  have q1 : w1.cell? ⟨w.heap.size + 2, 1, none⟩ = some (.int .i64 0) := H1.out.qb.cell 1
  have f0 := H1.out.ob.frozen 0
  have f1 := H1.out.ob.frozen 1
  have g0 := H1.out.qb.frozen 0
  have g1 := H1.out.qb.frozen 1
  go_wp2
  refine bodyPost_ret (v := .agg #[.string o1.s, .int .i64 o1.c]) (by simp [results, Tryd.results23, go_sem, q0, q1]) rfl ?_
  have e : wBody' o p = o1 := by
    unfold wBody'
    rw [if_neg (by have := HK.out; omega), if_neg (by have := HK.out; omega), if_neg (by have := HK.out; omega), if_neg (by have := HK.out; omega), if_pos (by have := HK.out; omega)]
    exact E1.out
  rw [e]
  exact ⟨rfl, ((H1.out.below.setCell (Nat.le_add_right _ 2) _).setCell (Nat.le_add_right _ 2) _)⟩
set_option maxRecDepth 100000 in
set_option maxHeartbeats 8000000 in
theorem rbody_8 (o : Ot) (p : Pk) (m : Hs) (w : World) (hP : PkIn .i64 w p m) (hs : o.s.size ≤ 1048000) (hk : p.kind = 8) :
    Calls Tryd.prog 23 #[.agg #[.string o.s, .int .i64 o.c], pkV .i64 p m] w fun e w' => RPost (wBody' (rHd o p) p) w w' e := by
  have h0 := Rq.new w o p m
  obtain ⟨W, hW⟩ : ∃ W, ((w.alloc (.cells #[.string o.s, .int .i64 o.c] 81)).alloc (.cells (pkA .i64 p m) 45)).alloc (.cells #[.string ⟨#[]⟩, .int .i64 0] 81) = W := ⟨_, rfl⟩
  rw [hW] at h0
  have H0 := Lib.hid h0
  have HP := Lib.hid hP
  have HK := Lib.hid hk
  have HH : Hid (rHd o p = o) := Lib.hid (by unfold rHd; rw [if_neg (by have := HK.out; omega)])
  rw [HH.out]
  have t1 : (p.kind == 1) = false := by rw [HK.out]; rfl
  have t2 : (p.kind == 2) = false := by rw [HK.out]; rfl
  have t3 : (p.kind == 3) = false := by rw [HK.out]; rfl
  have t4 : (p.kind == 4) = false := by rw [HK.out]; rfl
  have t5 : (p.kind == 5) = false := by rw [HK.out]; rfl
  have t6 : (p.kind == 6) = false := by rw [HK.out]; rfl
  have t7 : (p.kind == 7) = false := by rw [HK.out]; rfl
  have t14 : (p.kind == 14) = false := by rw [HK.out]; rfl
  have t15 : (p.kind == 15) = false := by rw [HK.out]; rfl
  have t8 : (p.kind == 8) = true := by rw [HK.out]; rfl
  clear hP hk
  unfold pkV
  have p0 : W.cell? ⟨w.heap.size, 0, none⟩ = some (.string o.s) := H0.out.ob.cell 0
  have p1 : W.cell? ⟨w.heap.size, 1, none⟩ = some (.int .i64 o.c) := H0.out.ob.cell 1
  have q0 : W.cell? ⟨w.heap.size + 2, 0, none⟩ = some (.string ⟨#[]⟩) := H0.out.qb.cell 0
  have q1 : W.cell? ⟨w.heap.size + 2, 1, none⟩ = some (.int .i64 0) := H0.out.qb.cell 1
  have f0 := H0.out.ob.frozen 0
  have f1 := H0.out.ob.frozen 1
  have g0 := H0.out.qb.frozen 0
  have g1 := H0.out.qb.frozen 1
  have k0 : W.cell? ⟨w.heap.size + 1, 0, none⟩ = some (.int .i64 p.kind) := H0.out.kb.cell 0
  clear h0
  go_enter Tryd.func23, Tryd.ntmps23
  have C1 := (fun (X : World) (hX : Below w.heap.size w X) => rlists_any o p m X (HP.out.below hX) (by omega))
  unfold pkV at C1
  have C1 := Lib.hid C1
  go_wp2_with (refine wpList_load_row rfl 45 (.tmp 3) rfl (w.heap.size + 1) rfl 45 (pkA .i64 p m) (0, 0) _ H0.out.kb Tryd.underlying45 rfl rpk_size ?_)
  (with_reducible refine (C1.out _ H0.out.below).mono ?_)
  rintro e w1 ⟨rfl, b1⟩
  have H1 := Lib.hid (H0.out.step b1)
  obtain ⟨o1, e1⟩ : ∃ x, wLists' o p = x := ⟨_, rfl⟩
  have E1 := Lib.hid e1
  try rw [e1]
  clear e1 b1 p0 p1 q0 q1 f0 f1 g0 g1 k0
  have p0 : w1.cell? ⟨w.heap.size, 0, none⟩ = some (.string o.s) := H1.out.ob.cell 0
  have p1 : w1.cell? ⟨w.heap.size, 1, none⟩ = some (.int .i64 o.c) := H1.out.ob.cell 1
  have q0 : w1.cell? ⟨w.heap.size + 2, 0, none⟩ = some (.string ⟨#[]⟩) := H1.out.qb.cell 0
  have q1 : w1.cell? ⟨w.heap.size + 2, 1, none⟩ = some (.int .i64 0) := H1.out.qb.cell 1
  have f0 := H1.out.ob.frozen 0
  have f1 := H1.out.ob.frozen 1
  have g0 := H1.out.qb.frozen 0
  have g1 := H1.out.qb.frozen 1
  go_wp2
  refine bodyPost_ret (v := .agg #[.string o1.s, .int .i64 o1.c]) (by simp [results, Tryd.results23, go_sem, q0, q1]) rfl ?_
  have e : wBody' o p = o1 := by
    unfold wBody'
    rw [if_neg (by have := HK.out; omega), if_neg (by have := HK.out; omega), if_neg (by have := HK.out; omega), if_neg (by have := HK.out; omega), if_neg (by have := HK.out; omega), if_pos (by have := HK.out; omega)]
    exact E1.out
  rw [e]
  exact ⟨rfl, ((H1.out.below.setCell (Nat.le_add_right _ 2) _).setCell (Nat.le_add_right _ 2) _)⟩
set_option maxRecDepth 100000 in
set_option maxHeartbeats 8000000 in
theorem rbody_9 (o : Ot) (p : Pk) (m : Hs) (w : World) (hP : PkIn .i64 w p m) (hs : o.s.size ≤ 1048000) (hk : p.kind = 9) :
    Calls Tryd.prog 23 #[.agg #[.string o.s, .int .i64 o.c], pkV .i64 p m] w fun e w' => RPost (wBody' (rHd o p) p) w w' e := by
  have h0 := Rq.new w o p m
  obtain ⟨W, hW⟩ : ∃ W, ((w.alloc (.cells #[.string o.s, .int .i64 o.c] 81)).alloc (.cells (pkA .i64 p m) 45)).alloc (.cells #[.string ⟨#[]⟩, .int .i64 0] 81) = W := ⟨_, rfl⟩
  rw [hW] at h0
  have H0 := Lib.hid h0
  have HP := Lib.hid hP
  have HK := Lib.hid hk
  have HH : Hid (rHd o p = o) := Lib.hid (by unfold rHd; rw [if_neg (by have := HK.out; omega)])
  rw [HH.out]
  have t1 : (p.kind == 1) = false := by rw [HK.out]; rfl
  have t2 : (p.kind == 2) = false := by rw [HK.out]; rfl
  have t3 : (p.kind == 3) = false := by rw [HK.out]; rfl
  have t4 : (p.kind == 4) = false := by rw [HK.out]; rfl
  have t5 : (p.kind == 5) = false := by rw [HK.out]; rfl
  have t6 : (p.kind == 6) = false := by rw [HK.out]; rfl
  have t7 : (p.kind == 7) = false := by rw [HK.out]; rfl
  have t14 : (p.kind == 14) = false := by rw [HK.out]; rfl
  have t15 : (p.kind == 15) = false := by rw [HK.out]; rfl
  have t8 : (p.kind == 8) = false := by rw [HK.out]; rfl
  have t9 : (p.kind == 9) = true := by rw [HK.out]; rfl
  clear hP hk
  unfold pkV
  have p0 : W.cell? ⟨w.heap.size, 0, none⟩ = some (.string o.s) := H0.out.ob.cell 0
  have p1 : W.cell? ⟨w.heap.size, 1, none⟩ = some (.int .i64 o.c) := H0.out.ob.cell 1
  have q0 : W.cell? ⟨w.heap.size + 2, 0, none⟩ = some (.string ⟨#[]⟩) := H0.out.qb.cell 0
  have q1 : W.cell? ⟨w.heap.size + 2, 1, none⟩ = some (.int .i64 0) := H0.out.qb.cell 1
  have f0 := H0.out.ob.frozen 0
  have f1 := H0.out.ob.frozen 1
  have g0 := H0.out.qb.frozen 0
  have g1 := H0.out.qb.frozen 1
  have k0 : W.cell? ⟨w.heap.size + 1, 0, none⟩ = some (.int .i64 p.kind) := H0.out.kb.cell 0
  clear h0
  go_enter Tryd.func23, Tryd.ntmps23
  have C1 := (fun (X : World) (hX : Below w.heap.size w X) => rlists_any o p m X (HP.out.below hX) (by omega))
  unfold pkV at C1
  have C1 := Lib.hid C1
  go_wp2_with (refine wpList_load_row rfl 45 (.tmp 3) rfl (w.heap.size + 1) rfl 45 (pkA .i64 p m) (0, 0) _ H0.out.kb Tryd.underlying45 rfl rpk_size ?_)
  (with_reducible refine (C1.out _ H0.out.below).mono ?_)
  rintro e w1 ⟨rfl, b1⟩
  have H1 := Lib.hid (H0.out.step b1)
  obtain ⟨o1, e1⟩ : ∃ x, wLists' o p = x := ⟨_, rfl⟩
  have E1 := Lib.hid e1
  try rw [e1]
  clear e1 b1 p0 p1 q0 q1 f0 f1 g0 g1 k0
  have p0 : w1.cell? ⟨w.heap.size, 0, none⟩ = some (.string o.s) := H1.out.ob.cell 0
  have p1 : w1.cell? ⟨w.heap.size, 1, none⟩ = some (.int .i64 o.c) := H1.out.ob.cell 1
  have q0 : w1.cell? ⟨w.heap.size + 2, 0, none⟩ = some (.string ⟨#[]⟩) := H1.out.qb.cell 0
  have q1 : w1.cell? ⟨w.heap.size + 2, 1, none⟩ = some (.int .i64 0) := H1.out.qb.cell 1
  have f0 := H1.out.ob.frozen 0
  have f1 := H1.out.ob.frozen 1
  have g0 := H1.out.qb.frozen 0
  have g1 := H1.out.qb.frozen 1
  go_wp2
  refine bodyPost_ret (v := .agg #[.string o1.s, .int .i64 o1.c]) (by simp [results, Tryd.results23, go_sem, q0, q1]) rfl ?_
  have e : wBody' o p = o1 := by
    unfold wBody'
    rw [if_neg (by have := HK.out; omega), if_neg (by have := HK.out; omega), if_neg (by have := HK.out; omega), if_neg (by have := HK.out; omega), if_neg (by have := HK.out; omega), if_pos (by have := HK.out; omega)]
    exact E1.out
  rw [e]
  exact ⟨rfl, ((H1.out.below.setCell (Nat.le_add_right _ 2) _).setCell (Nat.le_add_right _ 2) _)⟩
set_option maxRecDepth 100000 in
set_option maxHeartbeats 8000000 in
theorem rbody_10 (o : Ot) (p : Pk) (m : Hs) (w : World) (hP : PkIn .i64 w p m) (hs : o.s.size ≤ 1048000) (hk : p.kind = 10) :
    Calls Tryd.prog 23 #[.agg #[.string o.s, .int .i64 o.c], pkV .i64 p m] w fun e w' => RPost (wBody' (rHd o p) p) w w' e := by
  have h0 := Rq.new w o p m
  obtain ⟨W, hW⟩ : ∃ W, ((w.alloc (.cells #[.string o.s, .int .i64 o.c] 81)).alloc (.cells (pkA .i64 p m) 45)).alloc (.cells #[.string ⟨#[]⟩, .int .i64 0] 81) = W := ⟨_, rfl⟩
  rw [hW] at h0
  have H0 := Lib.hid h0
  have HP := Lib.hid hP
  have HK := Lib.hid hk
  have HH : Hid (rHd o p = o) := Lib.hid (by unfold rHd; rw [if_neg (by have := HK.out; omega)])
  rw [HH.out]
  have t1 : (p.kind == 1) = false := by rw [HK.out]; rfl
  have t2 : (p.kind == 2) = false := by rw [HK.out]; rfl
  have t3 : (p.kind == 3) = false := by rw [HK.out]; rfl
  have t4 : (p.kind == 4) = false := by rw [HK.out]; rfl
  have t5 : (p.kind == 5) = false := by rw [HK.out]; rfl
  have t6 : (p.kind == 6) = false := by rw [HK.out]; rfl
  have t7 : (p.kind == 7) = false := by rw [HK.out]; rfl
  have t14 : (p.kind == 14) = false := by rw [HK.out]; rfl
  have t15 : (p.kind == 15) = false := by rw [HK.out]; rfl
  have t8 : (p.kind == 8) = false := by rw [HK.out]; rfl
  have t9 : (p.kind == 9) = false := by rw [HK.out]; rfl
  have t10 : (p.kind == 10) = true := by rw [HK.out]; rfl
  clear hP hk
  unfold pkV
  have p0 : W.cell? ⟨w.heap.size, 0, none⟩ = some (.string o.s) := H0.out.ob.cell 0
  have p1 : W.cell? ⟨w.heap.size, 1, none⟩ = some (.int .i64 o.c) := H0.out.ob.cell 1
  have q0 : W.cell? ⟨w.heap.size + 2, 0, none⟩ = some (.string ⟨#[]⟩) := H0.out.qb.cell 0
  have q1 : W.cell? ⟨w.heap.size + 2, 1, none⟩ = some (.int .i64 0) := H0.out.qb.cell 1
  have f0 := H0.out.ob.frozen 0
  have f1 := H0.out.ob.frozen 1
  have g0 := H0.out.qb.frozen 0
  have g1 := H0.out.qb.frozen 1
  have k0 : W.cell? ⟨w.heap.size + 1, 0, none⟩ = some (.int .i64 p.kind) := H0.out.kb.cell 0
  clear h0
  go_enter Tryd.func23, Tryd.ntmps23
  have C1 := (fun (X : World) (hX : Below w.heap.size w X) => rlists_any o p m X (HP.out.below hX) (by omega))
  unfold pkV at C1
  have C1 := Lib.hid C1
  go_wp2_with (refine wpList_load_row rfl 45 (.tmp 3) rfl (w.heap.size + 1) rfl 45 (pkA .i64 p m) (0, 0) _ H0.out.kb Tryd.underlying45 rfl rpk_size ?_)
  (with_reducible refine (C1.out _ H0.out.below).mono ?_)
  rintro e w1 ⟨rfl, b1⟩
  have H1 := Lib.hid (H0.out.step b1)
  obtain ⟨o1, e1⟩ : ∃ x, wLists' o p = x := ⟨_, rfl⟩
  have E1 := Lib.hid e1
  try rw [e1]
  clear e1 b1 p0 p1 q0 q1 f0 f1 g0 g1 k0
  have p0 : w1.cell? ⟨w.heap.size, 0, none⟩ = some (.string o.s) := H1.out.ob.cell 0
  have p1 : w1.cell? ⟨w.heap.size, 1, none⟩ = some (.int .i64 o.c) := H1.out.ob.cell 1
  have q0 : w1.cell? ⟨w.heap.size + 2, 0, none⟩ = some (.string ⟨#[]⟩) := H1.out.qb.cell 0
  have q1 : w1.cell? ⟨w.heap.size + 2, 1, none⟩ = some (.int .i64 0) := H1.out.qb.cell 1
  have f0 := H1.out.ob.frozen 0
  have f1 := H1.out.ob.frozen 1
  have g0 := H1.out.qb.frozen 0
  have g1 := H1.out.qb.frozen 1
  go_wp2
  refine bodyPost_ret (v := .agg #[.string o1.s, .int .i64 o1.c]) (by simp [results, Tryd.results23, go_sem, q0, q1]) rfl ?_
  have e : wBody' o p = o1 := by
    unfold wBody'
    rw [if_neg (by have := HK.out; omega), if_neg (by have := HK.out; omega), if_neg (by have := HK.out; omega), if_neg (by have := HK.out; omega), if_neg (by have := HK.out; omega), if_pos (by have := HK.out; omega)]
    exact E1.out
  rw [e]
  exact ⟨rfl, ((H1.out.below.setCell (Nat.le_add_right _ 2) _).setCell (Nat.le_add_right _ 2) _)⟩
set_option maxRecDepth 100000 in
set_option maxHeartbeats 8000000 in
theorem rbody_11 (o : Ot) (p : Pk) (m : Hs) (w : World) (hP : PkIn .i64 w p m) (hs : o.s.size ≤ 1048000) (hk : p.kind = 11) :
    Calls Tryd.prog 23 #[.agg #[.string o.s, .int .i64 o.c], pkV .i64 p m] w fun e w' => RPost (wBody' (rHd o p) p) w w' e := by
  have h0 := Rq.new w o p m
  obtain ⟨W, hW⟩ : ∃ W, ((w.alloc (.cells #[.string o.s, .int .i64 o.c] 81)).alloc (.cells (pkA .i64 p m) 45)).alloc (.cells #[.string ⟨#[]⟩, .int .i64 0] 81) = W := ⟨_, rfl⟩
  rw [hW] at h0
  have H0 := Lib.hid h0
  have HP := Lib.hid hP
  have HK := Lib.hid hk
  have HH : Hid (rHd o p = o) := Lib.hid (by unfold rHd; rw [if_neg (by have := HK.out; omega)])
  rw [HH.out]
  have t1 : (p.kind == 1) = false := by rw [HK.out]; rfl
  have t2 : (p.kind == 2) = false := by rw [HK.out]; rfl
  have t3 : (p.kind == 3) = false := by rw [HK.out]; rfl
  have t4 : (p.kind == 4) = false := by rw [HK.out]; rfl
  have t5 : (p.kind == 5) = false := by rw [HK.out]; rfl
  have t6 : (p.kind == 6) = false := by rw [HK.out]; rfl
  have t7 : (p.kind == 7) = false := by rw [HK.out]; rfl
  have t14 : (p.kind == 14) = false := by rw [HK.out]; rfl
  have t15 : (p.kind == 15) = false := by rw [HK.out]; rfl
  have t8 : (p.kind == 8) = false := by rw [HK.out]; rfl
  have t9 : (p.kind == 9) = false := by rw [HK.out]; rfl
  have t10 : (p.kind == 10) = false := by rw [HK.out]; rfl
  have t11 : (p.kind == 11) = true := by rw [HK.out]; rfl
  clear hP hk
  unfold pkV
  have p0 : W.cell? ⟨w.heap.size, 0, none⟩ = some (.string o.s) := H0.out.ob.cell 0
  have p1 : W.cell? ⟨w.heap.size, 1, none⟩ = some (.int .i64 o.c) := H0.out.ob.cell 1
  have q0 : W.cell? ⟨w.heap.size + 2, 0, none⟩ = some (.string ⟨#[]⟩) := H0.out.qb.cell 0
  have q1 : W.cell? ⟨w.heap.size + 2, 1, none⟩ = some (.int .i64 0) := H0.out.qb.cell 1
  have f0 := H0.out.ob.frozen 0
  have f1 := H0.out.ob.frozen 1
  have g0 := H0.out.qb.frozen 0
  have g1 := H0.out.qb.frozen 1
  have k0 : W.cell? ⟨w.heap.size + 1, 0, none⟩ = some (.int .i64 p.kind) := H0.out.kb.cell 0
  clear h0
  go_enter Tryd.func23, Tryd.ntmps23
  have C1 := (fun (X : World) (hX : Below w.heap.size w X) => rlists_any o p m X (HP.out.below hX) (by omega))
  unfold pkV at C1
  have C1 := Lib.hid C1
  go_wp2_with (refine wpList_load_row rfl 45 (.tmp 3) rfl (w.heap.size + 1) rfl 45 (pkA .i64 p m) (0, 0) _ H0.out.kb Tryd.underlying45 rfl rpk_size ?_)
  (with_reducible refine (C1.out _ H0.out.below).mono ?_)
  rintro e w1 ⟨rfl, b1⟩
  have H1 := Lib.hid (H0.out.step b1)
  obtain ⟨o1, e1⟩ : ∃ x, wLists' o p = x := ⟨_, rfl⟩
  have E1 := Lib.hid e1
  try rw [e1]
  clear e1 b1 p0 p1 q0 q1 f0 f1 g0 g1 k0
  have p0 : w1.cell? ⟨w.heap.size, 0, none⟩ = some (.string o.s) := H1.out.ob.cell 0
  have p1 : w1.cell? ⟨w.heap.size, 1, none⟩ = some (.int .i64 o.c) := H1.out.ob.cell 1
  have q0 : w1.cell? ⟨w.heap.size + 2, 0, none⟩ = some (.string ⟨#[]⟩) := H1.out.qb.cell 0
  have q1 : w1.cell? ⟨w.heap.size + 2, 1, none⟩ = some (.int .i64 0) := H1.out.qb.cell 1
  have f0 := H1.out.ob.frozen 0
  have f1 := H1.out.ob.frozen 1
  have g0 := H1.out.qb.frozen 0
  have g1 := H1.out.qb.frozen 1
  go_wp2
  refine bodyPost_ret (v := .agg #[.string o1.s, .int .i64 o1.c]) (by simp [results, Tryd.results23, go_sem, q0, q1]) rfl ?_
  have e : wBody' o p = o1 := by
    unfold wBody'
    rw [if_neg (by have := HK.out; omega), if_neg (by have := HK.out; omega), if_neg (by have := HK.out; omega), if_neg (by have := HK.out; omega), if_neg (by have := HK.out; omega), if_pos (by have := HK.out; omega)]
    exact E1.out
  rw [e]
  exact ⟨rfl, ((H1.out.below.setCell (Nat.le_add_right _ 2) _).setCell (Nat.le_add_right _ 2) _)⟩
set_option maxRecDepth 100000 in
set_option maxHeartbeats 8000000 in
theorem rbody_none (o : Ot) (p : Pk) (m : Hs) (w : World) (hP : PkIn .i64 w p m) (hs : o.s.size ≤ 1048000) (hk : ∀ j ∈ [1, 2, 3, 4, 5, 6, 7, 14, 15, 8, 9, 10, 11], p.kind ≠ j) :
    Calls Tryd.prog 23 #[.agg #[.string o.s, .int .i64 o.c], pkV .i64 p m] w fun e w' => RPost (wBody' (rHd o p) p) w w' e := by
  have h0 := Rq.new w o p m
  obtain ⟨W, hW⟩ : ∃ W, ((w.alloc (.cells #[.string o.s, .int .i64 o.c] 81)).alloc (.cells (pkA .i64 p m) 45)).alloc (.cells #[.string ⟨#[]⟩, .int .i64 0] 81) = W := ⟨_, rfl⟩
  rw [hW] at h0
  have H0 := Lib.hid h0
  have HP := Lib.hid hP
  have HK := Lib.hid hk
  have HH : Hid (rHd o p = o) := Lib.hid (by unfold rHd; rw [if_neg (HK.out 3 (by decide))])
  rw [HH.out]
  have t1 : (p.kind == 1) = false := beq_eq_false_iff_ne.2 (fun c => HK.out 1 (by decide) c)
  have t2 : (p.kind == 2) = false := beq_eq_false_iff_ne.2 (fun c => HK.out 2 (by decide) c)
  have t3 : (p.kind == 3) = false := beq_eq_false_iff_ne.2 (fun c => HK.out 3 (by decide) c)
  have t4 : (p.kind == 4) = false := beq_eq_false_iff_ne.2 (fun c => HK.out 4 (by decide) c)
  have t5 : (p.kind == 5) = false := beq_eq_false_iff_ne.2 (fun c => HK.out 5 (by decide) c)
  have t6 : (p.kind == 6) = false := beq_eq_false_iff_ne.2 (fun c => HK.out 6 (by decide) c)
  have t7 : (p.kind == 7) = false := beq_eq_false_iff_ne.2 (fun c => HK.out 7 (by decide) c)
  have t14 : (p.kind == 14) = false := beq_eq_false_iff_ne.2 (fun c => HK.out 14 (by decide) c)
  have t15 : (p.kind == 15) = false := beq_eq_false_iff_ne.2 (fun c => HK.out 15 (by decide) c)
  have t8 : (p.kind == 8) = false := beq_eq_false_iff_ne.2 (fun c => HK.out 8 (by decide) c)
  have t9 : (p.kind == 9) = false := beq_eq_false_iff_ne.2 (fun c => HK.out 9 (by decide) c)
  have t10 : (p.kind == 10) = false := beq_eq_false_iff_ne.2 (fun c => HK.out 10 (by decide) c)
  have t11 : (p.kind == 11) = false := beq_eq_false_iff_ne.2 (fun c => HK.out 11 (by decide) c)
  clear hP hk
  unfold pkV
  have p0 : W.cell? ⟨w.heap.size, 0, none⟩ = some (.string o.s) := H0.out.ob.cell 0
  have p1 : W.cell? ⟨w.heap.size, 1, none⟩ = some (.int .i64 o.c) := H0.out.ob.cell 1
  have q0 : W.cell? ⟨w.heap.size + 2, 0, none⟩ = some (.string ⟨#[]⟩) := H0.out.qb.cell 0
  have q1 : W.cell? ⟨w.heap.size + 2, 1, none⟩ = some (.int .i64 0) := H0.out.qb.cell 1
  have f0 := H0.out.ob.frozen 0
  have f1 := H0.out.ob.frozen 1
  have g0 := H0.out.qb.frozen 0
  have g1 := H0.out.qb.frozen 1
  have k0 : W.cell? ⟨w.heap.size + 1, 0, none⟩ = some (.int .i64 p.kind) := H0.out.kb.cell 0
  clear h0
  go_enter Tryd.func23, Tryd.ntmps23
  go_wp2
  refine bodyPost_ret (v := .agg #[.string o.s, .int .i64 o.c]) (by simp [results, Tryd.results23, go_sem, q0, q1]) rfl ?_
  have e : wBody' o p = o := by
    have h1 := HK.out 1 (by decide); have h2 := HK.out 2 (by decide); have h3 := HK.out 3 (by decide); have h4 := HK.out 4 (by decide); have h5 := HK.out 5 (by decide); have h6 := HK.out 6 (by decide); have h7 := HK.out 7 (by decide); have h8 := HK.out 8 (by decide); have h9 := HK.out 9 (by decide); have h10 := HK.out 10 (by decide); have h11 := HK.out 11 (by decide); have h14 := HK.out 14 (by decide); have h15 := HK.out 15 (by decide)
    unfold wBody'
    rw [if_neg h1, if_neg h2, if_neg h3, if_neg (by omega), if_neg (by omega), if_neg (by omega)]
  rw [e]
  exact ⟨rfl, ((H0.out.below.setCell (Nat.le_add_right _ 2) _).setCell (Nat.le_add_right _ 2) _)⟩
set_option maxRecDepth 100000 in
set_option maxHeartbeats 8000000 in
theorem rbody_3fp (o : Ot) (p : Pk) (m : Hs) (w : World) (hP : PkIn .i64 w p m) (hs : o.s.size ≤ 1048000) (hk : p.kind = 3) (hd : p.dup = false) (hq : 0 < p.q) :
    Calls Tryd.prog 23 #[.agg #[.string o.s, .int .i64 o.c], pkV .i64 p m] w fun e w' => RPost (wBody' (rHd o p) p) w w' e := by
  have h0 := Rq.new w o p m
  obtain ⟨W, hW⟩ : ∃ W, ((w.alloc (.cells #[.string o.s, .int .i64 o.c] 81)).alloc (.cells (pkA .i64 p m) 45)).alloc (.cells #[.string ⟨#[]⟩, .int .i64 0] 81) = W := ⟨_, rfl⟩
  rw [hW] at h0
  have H0 := Lib.hid h0
  have HP := Lib.hid hP
  have HK := Lib.hid hk
  have HD := Lib.hid hd
  have HH : Hid (rHd o p = wQos o p.q) := Lib.hid (by unfold rHd; rw [if_pos hk, hd, if_neg (by simp)])
  have t1 : (p.kind == 1) = false := by rw [HK.out]; rfl
  have t2 : (p.kind == 2) = false := by rw [HK.out]; rfl
  have t3 : (p.kind == 3) = true := by rw [HK.out]; rfl
  have HQ := Lib.hid hq
  clear hP hk hd
  unfold pkV
  have p0 : W.cell? ⟨w.heap.size, 0, none⟩ = some (.string o.s) := H0.out.ob.cell 0
  have p1 : W.cell? ⟨w.heap.size, 1, none⟩ = some (.int .i64 o.c) := H0.out.ob.cell 1
  have q0 : W.cell? ⟨w.heap.size + 2, 0, none⟩ = some (.string ⟨#[]⟩) := H0.out.qb.cell 0
  have q1 : W.cell? ⟨w.heap.size + 2, 1, none⟩ = some (.int .i64 0) := H0.out.qb.cell 1
  have f0 := H0.out.ob.frozen 0
  have f1 := H0.out.ob.frozen 1
  have g0 := H0.out.qb.frozen 0
  have g1 := H0.out.qb.frozen 1
  have k0 : W.cell? ⟨w.heap.size + 1, 0, none⟩ = some (.int .i64 p.kind) := H0.out.kb.cell 0
  have k3 : W.cell? ⟨w.heap.size + 1, 3, none⟩ = some (.int .i64 p.q) := H0.out.kb.cell 3
  clear h0
  go_enter Tryd.func23, Tryd.ntmps23
  have C1 := Lib.hid (fun (X : World) (hX : Below w.heap.size w X) => rqos_any o p.q X (by omega))
  go_wp2_with fail
  (with_reducible refine (C1.out _ H0.out.below).mono ?_)
  rintro e w1 ⟨rfl, b1⟩
  have H1 := Lib.hid (H0.out.step b1)
  obtain ⟨o1, e1⟩ : ∃ x, wQos o p.q = x := ⟨_, rfl⟩
  have s1 : o1.s.size ≤ 1048000 := by rw [← e1]; have := Nat.le_of_eq (qos_size o p.q); omega
  have E1 := Lib.hid e1
  try rw [e1]
  clear e1 b1 p0 p1 q0 q1 f0 f1 g0 g1 k0 k3
  have p0 : w1.cell? ⟨w.heap.size, 0, none⟩ = some (.string o.s) := H1.out.ob.cell 0
  have p1 : w1.cell? ⟨w.heap.size, 1, none⟩ = some (.int .i64 o.c) := H1.out.ob.cell 1
  have q0 : w1.cell? ⟨w.heap.size + 2, 0, none⟩ = some (.string ⟨#[]⟩) := H1.out.qb.cell 0
  have q1 : w1.cell? ⟨w.heap.size + 2, 1, none⟩ = some (.int .i64 0) := H1.out.qb.cell 1
  have f0 := H1.out.ob.frozen 0
  have f1 := H1.out.ob.frozen 1
  have g0 := H1.out.qb.frozen 0
  have g1 := H1.out.qb.frozen 1
  have k1 : w1.cell? ⟨w.heap.size + 1, 1, none⟩ = some (.bool false) := (H1.out.kb.cell 1).trans (by show some (Value.bool p.dup) = _; rw [HD.out])
  have k3 : w1.cell? ⟨w.heap.size + 1, 3, none⟩ = some (.int .i64 p.q) := H1.out.kb.cell 3
  have k5 : w1.cell? ⟨w.heap.size + 1, 5, none⟩ = some (.string p.topic) := H1.out.kb.cell 5
  have K2 := Lib.hid (H1.out.put o1)
  have C2 := Lib.hid (fun (X : World) (hX : Below w.heap.size w X) => reftext_any o1 p.topic X (by omega) (by have := HP.out.fits.topic; omega))
  go_wp2_with fail
  (with_reducible refine (C2.out _ K2.out.below).mono ?_)
  rintro e w2 ⟨rfl, b2⟩
  have H2 := Lib.hid (K2.out.step b2)
  obtain ⟨o2, e2⟩ : ∃ x, wText o1 p.topic = x := ⟨_, rfl⟩
  have s2 : o2.s.size ≤ 1200000 := by rw [← e2]; have := text_size o1 p.topic; omega
  have E2 := Lib.hid e2
  try rw [e2]
  clear e2 b2 p0 p1 q0 q1 f0 f1 g0 g1 k1 k3 k5
  have p0 : w2.cell? ⟨w.heap.size, 0, none⟩ = some (.string o1.s) := H2.out.ob.cell 0
  have p1 : w2.cell? ⟨w.heap.size, 1, none⟩ = some (.int .i64 o1.c) := H2.out.ob.cell 1
  have q0 : w2.cell? ⟨w.heap.size + 2, 0, none⟩ = some (.string ⟨#[]⟩) := H2.out.qb.cell 0
  have q1 : w2.cell? ⟨w.heap.size + 2, 1, none⟩ = some (.int .i64 0) := H2.out.qb.cell 1
  have f0 := H2.out.ob.frozen 0
  have f1 := H2.out.ob.frozen 1
  have g0 := H2.out.qb.frozen 0
  have g1 := H2.out.qb.frozen 1
  have k3 : w2.cell? ⟨w.heap.size + 1, 3, none⟩ = some (.int .i64 p.q) := H2.out.kb.cell 3
  have k4 : w2.cell? ⟨w.heap.size + 1, 4, none⟩ = some (.int .i64 p.id) := H2.out.kb.cell 4
  have k9 : w2.cell? ⟨w.heap.size + 1, 9, none⟩ = some (.slice m.p.A m.p.n m.p.cap) := H2.out.kb.cell 9
  have K3 := Lib.hid (H2.out.put o2)
  have C3 := Lib.hid (fun (X : World) (hX : Below w.heap.size w X) => rid_any o2 p.id X (by omega))
  go_wp2_with fail
  (with_reducible refine (C3.out _ K3.out.below).mono ?_)
  rintro e w3 ⟨rfl, b3⟩
  have H3 := Lib.hid (K3.out.step b3)
  obtain ⟨o3, e3⟩ : ∃ x, wId o2 p.id = x := ⟨_, rfl⟩
  have s3 : o3.s.size ≤ 1200002 := by rw [← e3]; have := id_size o2 p.id; omega
  have E3 := Lib.hid e3
  try rw [e3]
  clear e3 b3 p0 p1 q0 q1 f0 f1 g0 g1 k3 k4 k9
  have p0 : w3.cell? ⟨w.heap.size, 0, none⟩ = some (.string o2.s) := H3.out.ob.cell 0
  have p1 : w3.cell? ⟨w.heap.size, 1, none⟩ = some (.int .i64 o2.c) := H3.out.ob.cell 1
  have q0 : w3.cell? ⟨w.heap.size + 2, 0, none⟩ = some (.string ⟨#[]⟩) := H3.out.qb.cell 0
  have q1 : w3.cell? ⟨w.heap.size + 2, 1, none⟩ = some (.int .i64 0) := H3.out.qb.cell 1
  have f0 := H3.out.ob.frozen 0
  have f1 := H3.out.ob.frozen 1
  have g0 := H3.out.qb.frozen 0
  have g1 := H3.out.qb.frozen 1
  have k9 : w3.cell? ⟨w.heap.size + 1, 9, none⟩ = some (.slice m.p.A m.p.n m.p.cap) := H3.out.kb.cell 9
  have K4 := Lib.hid (H3.out.put o3)
  have C4 := Lib.hid (fun (X : World) (hX : Below w.heap.size w X) => rprops_any o3 3 m.p.A m.p.n m.p.cap p.ps X HP.out.pn HP.out.pc (by have := HP.out.fits.ps.1; have := HP.out.pn; omega) (HP.out.pr.below hX) HP.out.fits.ps.2 (by omega))
  go_wp2_with fail
  (with_reducible refine (C4.out _ K4.out.below).mono ?_)
  rintro e w4 ⟨rfl, b4⟩
  have H4 := Lib.hid (K4.out.step b4)
  obtain ⟨o4, e4⟩ : ∃ x, wProps 3 o3 p.ps = x := ⟨_, rfl⟩
  have s4 : o4.s.size ≤ 9700000 := by rw [← e4]; have := props_size 3 o3 p.ps; omega
  have E4 := Lib.hid e4
  try rw [e4]
  clear e4 b4 p0 p1 q0 q1 f0 f1 g0 g1 k9
  have p0 : w4.cell? ⟨w.heap.size, 0, none⟩ = some (.string o3.s) := H4.out.ob.cell 0
  have p1 : w4.cell? ⟨w.heap.size, 1, none⟩ = some (.int .i64 o3.c) := H4.out.ob.cell 1
  have q0 : w4.cell? ⟨w.heap.size + 2, 0, none⟩ = some (.string ⟨#[]⟩) := H4.out.qb.cell 0
  have q1 : w4.cell? ⟨w.heap.size + 2, 1, none⟩ = some (.int .i64 0) := H4.out.qb.cell 1
  have f0 := H4.out.ob.frozen 0
  have f1 := H4.out.ob.frozen 1
  have g0 := H4.out.qb.frozen 0
  have g1 := H4.out.qb.frozen 1
  have k6 : w4.cell? ⟨w.heap.size + 1, 6, none⟩ = some (.string p.payload) := H4.out.kb.cell 6
  have K5 := Lib.hid (H4.out.put o4)
  have C5 := Lib.hid (fun (X : World) (hX : Below w.heap.size w X) => refadd_any o4 p.payload 0 X (by have := HP.out.fits.payload; omega))
  go_wp2_with fail
  (with_reducible refine (C5.out _ K5.out.below).mono ?_)
  rintro e w5 ⟨rfl, b5⟩
  have H5 := Lib.hid (K5.out.step b5)
  obtain ⟨o5, e5⟩ : ∃ x, o4.add p.payload 0 = x := ⟨_, rfl⟩
  have s5 : o5.s.size ≤ 10800000 := by rw [← e5]; have := add_size o4 p.payload 0; have := HP.out.fits.payload; omega
  have E5 := Lib.hid e5
  try rw [e5]
  clear e5 b5 p0 p1 q0 q1 f0 f1 g0 g1 k6
  have p0 : w5.cell? ⟨w.heap.size, 0, none⟩ = some (.string o4.s) := H5.out.ob.cell 0
  have p1 : w5.cell? ⟨w.heap.size, 1, none⟩ = some (.int .i64 o4.c) := H5.out.ob.cell 1
  have q0 : w5.cell? ⟨w.heap.size + 2, 0, none⟩ = some (.string ⟨#[]⟩) := H5.out.qb.cell 0
  have q1 : w5.cell? ⟨w.heap.size + 2, 1, none⟩ = some (.int .i64 0) := H5.out.qb.cell 1
  have f0 := H5.out.ob.frozen 0
  have f1 := H5.out.ob.frozen 1
  have g0 := H5.out.qb.frozen 0
  have g1 := H5.out.qb.frozen 1
  go_wp2
  refine bodyPost_ret (v := .agg #[.string o5.s, .int .i64 o5.c]) (by simp [results, Tryd.results23, go_sem, q0, q1]) rfl ?_
  have e : wBody' (rHd o p) p = o5 := by
    unfold wBody'
    rw [if_neg (by have := HK.out; omega), if_neg (by have := HK.out; omega), if_pos (by have := HK.out; omega)]
    unfold wPublish
    rw [HH.out, if_pos (by have := HQ.out; omega), E1.out, E2.out, E3.out, E4.out, E5.out]
    try rfl
  rw [e]
  exact ⟨rfl, ((H5.out.below.setCell (Nat.le_add_right _ 2) _).setCell (Nat.le_add_right _ 2) _)⟩
set_option maxRecDepth 100000 in
set_option maxHeartbeats 8000000 in
theorem rbody_3fn (o : Ot) (p : Pk) (m : Hs) (w : World) (hP : PkIn .i64 w p m) (hs : o.s.size ≤ 1048000) (hk : p.kind = 3) (hd : p.dup = false) (hq : ¬ 0 < p.q) :
    Calls Tryd.prog 23 #[.agg #[.string o.s, .int .i64 o.c], pkV .i64 p m] w fun e w' => RPost (wBody' (rHd o p) p) w w' e := by
  have h0 := Rq.new w o p m
  obtain ⟨W, hW⟩ : ∃ W, ((w.alloc (.cells #[.string o.s, .int .i64 o.c] 81)).alloc (.cells (pkA .i64 p m) 45)).alloc (.cells #[.string ⟨#[]⟩, .int .i64 0] 81) = W := ⟨_, rfl⟩
  rw [hW] at h0
  have H0 := Lib.hid h0
  have HP := Lib.hid hP
  have HK := Lib.hid hk
  have HD := Lib.hid hd
  have HH : Hid (rHd o p = wQos o p.q) := Lib.hid (by unfold rHd; rw [if_pos hk, hd, if_neg (by simp)])
  have t1 : (p.kind == 1) = false := by rw [HK.out]; rfl
  have t2 : (p.kind == 2) = false := by rw [HK.out]; rfl
  have t3 : (p.kind == 3) = true := by rw [HK.out]; rfl
  have HQ := Lib.hid hq
  clear hP hk hd
  unfold pkV
  have p0 : W.cell? ⟨w.heap.size, 0, none⟩ = some (.string o.s) := H0.out.ob.cell 0
  have p1 : W.cell? ⟨w.heap.size, 1, none⟩ = some (.int .i64 o.c) := H0.out.ob.cell 1
  have q0 : W.cell? ⟨w.heap.size + 2, 0, none⟩ = some (.string ⟨#[]⟩) := H0.out.qb.cell 0
  have q1 : W.cell? ⟨w.heap.size + 2, 1, none⟩ = some (.int .i64 0) := H0.out.qb.cell 1
  have f0 := H0.out.ob.frozen 0
  have f1 := H0.out.ob.frozen 1
  have g0 := H0.out.qb.frozen 0
  have g1 := H0.out.qb.frozen 1
  have k0 : W.cell? ⟨w.heap.size + 1, 0, none⟩ = some (.int .i64 p.kind) := H0.out.kb.cell 0
  have k3 : W.cell? ⟨w.heap.size + 1, 3, none⟩ = some (.int .i64 p.q) := H0.out.kb.cell 3
  clear h0
  go_enter Tryd.func23, Tryd.ntmps23
  have C1 := Lib.hid (fun (X : World) (hX : Below w.heap.size w X) => rqos_any o p.q X (by omega))
  go_wp2_with fail
  (with_reducible refine (C1.out _ H0.out.below).mono ?_)
  rintro e w1 ⟨rfl, b1⟩
  have H1 := Lib.hid (H0.out.step b1)
  obtain ⟨o1, e1⟩ : ∃ x, wQos o p.q = x := ⟨_, rfl⟩
  have s1 : o1.s.size ≤ 1048000 := by rw [← e1]; have := Nat.le_of_eq (qos_size o p.q); omega
  have E1 := Lib.hid e1
  try rw [e1]
  clear e1 b1 p0 p1 q0 q1 f0 f1 g0 g1 k0 k3
  have p0 : w1.cell? ⟨w.heap.size, 0, none⟩ = some (.string o.s) := H1.out.ob.cell 0
  have p1 : w1.cell? ⟨w.heap.size, 1, none⟩ = some (.int .i64 o.c) := H1.out.ob.cell 1
  have q0 : w1.cell? ⟨w.heap.size + 2, 0, none⟩ = some (.string ⟨#[]⟩) := H1.out.qb.cell 0
  have q1 : w1.cell? ⟨w.heap.size + 2, 1, none⟩ = some (.int .i64 0) := H1.out.qb.cell 1
  have f0 := H1.out.ob.frozen 0
  have f1 := H1.out.ob.frozen 1
  have g0 := H1.out.qb.frozen 0
  have g1 := H1.out.qb.frozen 1
  have k1 : w1.cell? ⟨w.heap.size + 1, 1, none⟩ = some (.bool false) := (H1.out.kb.cell 1).trans (by show some (Value.bool p.dup) = _; rw [HD.out])
  have k3 : w1.cell? ⟨w.heap.size + 1, 3, none⟩ = some (.int .i64 p.q) := H1.out.kb.cell 3
  have k5 : w1.cell? ⟨w.heap.size + 1, 5, none⟩ = some (.string p.topic) := H1.out.kb.cell 5
  have K2 := Lib.hid (H1.out.put o1)
  have C2 := Lib.hid (fun (X : World) (hX : Below w.heap.size w X) => reftext_any o1 p.topic X (by omega) (by have := HP.out.fits.topic; omega))
  go_wp2_with fail
  (with_reducible refine (C2.out _ K2.out.below).mono ?_)
  rintro e w2 ⟨rfl, b2⟩
  have H2 := Lib.hid (K2.out.step b2)
  obtain ⟨o2, e2⟩ : ∃ x, wText o1 p.topic = x := ⟨_, rfl⟩
  have s2 : o2.s.size ≤ 1200000 := by rw [← e2]; have := text_size o1 p.topic; omega
  have E2 := Lib.hid e2
  try rw [e2]
  clear e2 b2 p0 p1 q0 q1 f0 f1 g0 g1 k1 k3 k5
  have p0 : w2.cell? ⟨w.heap.size, 0, none⟩ = some (.string o1.s) := H2.out.ob.cell 0
  have p1 : w2.cell? ⟨w.heap.size, 1, none⟩ = some (.int .i64 o1.c) := H2.out.ob.cell 1
  have q0 : w2.cell? ⟨w.heap.size + 2, 0, none⟩ = some (.string ⟨#[]⟩) := H2.out.qb.cell 0
  have q1 : w2.cell? ⟨w.heap.size + 2, 1, none⟩ = some (.int .i64 0) := H2.out.qb.cell 1
  have f0 := H2.out.ob.frozen 0
  have f1 := H2.out.ob.frozen 1
  have g0 := H2.out.qb.frozen 0
  have g1 := H2.out.qb.frozen 1
  have k3 : w2.cell? ⟨w.heap.size + 1, 3, none⟩ = some (.int .i64 p.q) := H2.out.kb.cell 3
  have k4 : w2.cell? ⟨w.heap.size + 1, 4, none⟩ = some (.int .i64 p.id) := H2.out.kb.cell 4
  have k9 : w2.cell? ⟨w.heap.size + 1, 9, none⟩ = some (.slice m.p.A m.p.n m.p.cap) := H2.out.kb.cell 9
  have K3 := Lib.hid (H2.out.put o2)
  have C3 := Lib.hid (fun (X : World) (hX : Below w.heap.size w X) => rprops_any o2 3 m.p.A m.p.n m.p.cap p.ps X HP.out.pn HP.out.pc (by have := HP.out.fits.ps.1; have := HP.out.pn; omega) (HP.out.pr.below hX) HP.out.fits.ps.2 (by omega))
  go_wp2_with fail
  (with_reducible refine (C3.out _ K3.out.below).mono ?_)
  rintro e w3 ⟨rfl, b3⟩
  have H3 := Lib.hid (K3.out.step b3)
  obtain ⟨o3, e3⟩ : ∃ x, wProps 3 o2 p.ps = x := ⟨_, rfl⟩
  have s3 : o3.s.size ≤ 9700000 := by rw [← e3]; have := props_size 3 o2 p.ps; omega
  have E3 := Lib.hid e3
  try rw [e3]
  clear e3 b3 p0 p1 q0 q1 f0 f1 g0 g1 k3 k4 k9
  have p0 : w3.cell? ⟨w.heap.size, 0, none⟩ = some (.string o2.s) := H3.out.ob.cell 0
  have p1 : w3.cell? ⟨w.heap.size, 1, none⟩ = some (.int .i64 o2.c) := H3.out.ob.cell 1
  have q0 : w3.cell? ⟨w.heap.size + 2, 0, none⟩ = some (.string ⟨#[]⟩) := H3.out.qb.cell 0
  have q1 : w3.cell? ⟨w.heap.size + 2, 1, none⟩ = some (.int .i64 0) := H3.out.qb.cell 1
  have f0 := H3.out.ob.frozen 0
  have f1 := H3.out.ob.frozen 1
  have g0 := H3.out.qb.frozen 0
  have g1 := H3.out.qb.frozen 1
  have k6 : w3.cell? ⟨w.heap.size + 1, 6, none⟩ = some (.string p.payload) := H3.out.kb.cell 6
  have K4 := Lib.hid (H3.out.put o3)
  have C4 := Lib.hid (fun (X : World) (hX : Below w.heap.size w X) => refadd_any o3 p.payload 0 X (by have := HP.out.fits.payload; omega))
  go_wp2_with fail
  (with_reducible refine (C4.out _ K4.out.below).mono ?_)
  rintro e w4 ⟨rfl, b4⟩
  have H4 := Lib.hid (K4.out.step b4)
  obtain ⟨o4, e4⟩ : ∃ x, o3.add p.payload 0 = x := ⟨_, rfl⟩
  have s4 : o4.s.size ≤ 10800000 := by rw [← e4]; have := add_size o3 p.payload 0; have := HP.out.fits.payload; omega
  have E4 := Lib.hid e4
  try rw [e4]
  clear e4 b4 p0 p1 q0 q1 f0 f1 g0 g1 k6
  have p0 : w4.cell? ⟨w.heap.size, 0, none⟩ = some (.string o3.s) := H4.out.ob.cell 0
  have p1 : w4.cell? ⟨w.heap.size, 1, none⟩ = some (.int .i64 o3.c) := H4.out.ob.cell 1
  have q0 : w4.cell? ⟨w.heap.size + 2, 0, none⟩ = some (.string ⟨#[]⟩) := H4.out.qb.cell 0
  have q1 : w4.cell? ⟨w.heap.size + 2, 1, none⟩ = some (.int .i64 0) := H4.out.qb.cell 1
  have f0 := H4.out.ob.frozen 0
  have f1 := H4.out.ob.frozen 1
  have g0 := H4.out.qb.frozen 0
  have g1 := H4.out.qb.frozen 1
  go_wp2
  refine bodyPost_ret (v := .agg #[.string o4.s, .int .i64 o4.c]) (by simp [results, Tryd.results23, go_sem, q0, q1]) rfl ?_
  have e : wBody' (rHd o p) p = o4 := by
    unfold wBody'
    rw [if_neg (by have := HK.out; omega), if_neg (by have := HK.out; omega), if_pos (by have := HK.out; omega)]
    unfold wPublish
    rw [HH.out, if_neg (by have := HQ.out; omega), E1.out, E2.out, E3.out, E4.out]
    try rfl
  rw [e]
  exact ⟨rfl, ((H4.out.below.setCell (Nat.le_add_right _ 2) _).setCell (Nat.le_add_right _ 2) _)⟩
set_option maxRecDepth 100000 in
set_option maxHeartbeats 8000000 in
theorem rbody_3tz (o : Ot) (p : Pk) (m : Hs) (w : World) (hP : PkIn .i64 w p m) (hs : o.s.size ≤ 1048000) (hk : p.kind = 3) (hd : p.dup = true) (hq0 : (p.q == 0) = true) (hq : ¬ 0 < p.q) :
    Calls Tryd.prog 23 #[.agg #[.string o.s, .int .i64 o.c], pkV .i64 p m] w fun e w' => RPost (wBody' (rHd o p) p) w w' e := by
  have h0 := Rq.new w o p m
  obtain ⟨W, hW⟩ : ∃ W, ((w.alloc (.cells #[.string o.s, .int .i64 o.c] 81)).alloc (.cells (pkA .i64 p m) 45)).alloc (.cells #[.string ⟨#[]⟩, .int .i64 0] 81) = W := ⟨_, rfl⟩
  rw [hW] at h0
  have H0 := Lib.hid h0
  have HP := Lib.hid hP
  have HK := Lib.hid hk
  have HD := Lib.hid hd
  have HH : Hid (rHd o p = (wQos o p.q).fail 129) := Lib.hid (by unfold rHd; rw [if_pos hk, if_pos ⟨hd, by simpa using hq0⟩])
  have t1 : (p.kind == 1) = false := by rw [HK.out]; rfl
  have t2 : (p.kind == 2) = false := by rw [HK.out]; rfl
  have t3 : (p.kind == 3) = true := by rw [HK.out]; rfl
  have HQ := Lib.hid hq
  clear hP hk hd
  unfold pkV
  have p0 : W.cell? ⟨w.heap.size, 0, none⟩ = some (.string o.s) := H0.out.ob.cell 0
  have p1 : W.cell? ⟨w.heap.size, 1, none⟩ = some (.int .i64 o.c) := H0.out.ob.cell 1
  have q0 : W.cell? ⟨w.heap.size + 2, 0, none⟩ = some (.string ⟨#[]⟩) := H0.out.qb.cell 0
  have q1 : W.cell? ⟨w.heap.size + 2, 1, none⟩ = some (.int .i64 0) := H0.out.qb.cell 1
  have f0 := H0.out.ob.frozen 0
  have f1 := H0.out.ob.frozen 1
  have g0 := H0.out.qb.frozen 0
  have g1 := H0.out.qb.frozen 1
  have k0 : W.cell? ⟨w.heap.size + 1, 0, none⟩ = some (.int .i64 p.kind) := H0.out.kb.cell 0
  have k3 : W.cell? ⟨w.heap.size + 1, 3, none⟩ = some (.int .i64 p.q) := H0.out.kb.cell 3
  clear h0
  go_enter Tryd.func23, Tryd.ntmps23
  have C1 := Lib.hid (fun (X : World) (hX : Below w.heap.size w X) => rqos_any o p.q X (by omega))
  go_wp2_with fail
  (with_reducible refine (C1.out _ H0.out.below).mono ?_)
  rintro e w1 ⟨rfl, b1⟩
  have H1 := Lib.hid (H0.out.step b1)
  obtain ⟨o1, e1⟩ : ∃ x, wQos o p.q = x := ⟨_, rfl⟩
  have s1 : o1.s.size ≤ 1048000 := by rw [← e1]; have := Nat.le_of_eq (qos_size o p.q); omega
  have E1 := Lib.hid e1
  try rw [e1]
  clear e1 b1 p0 p1 q0 q1 f0 f1 g0 g1 k0 k3
  have p0 : w1.cell? ⟨w.heap.size, 0, none⟩ = some (.string o.s) := H1.out.ob.cell 0
  have p1 : w1.cell? ⟨w.heap.size, 1, none⟩ = some (.int .i64 o.c) := H1.out.ob.cell 1
  have q0 : w1.cell? ⟨w.heap.size + 2, 0, none⟩ = some (.string ⟨#[]⟩) := H1.out.qb.cell 0
  have q1 : w1.cell? ⟨w.heap.size + 2, 1, none⟩ = some (.int .i64 0) := H1.out.qb.cell 1
  have f0 := H1.out.ob.frozen 0
  have f1 := H1.out.ob.frozen 1
  have g0 := H1.out.qb.frozen 0
  have g1 := H1.out.qb.frozen 1
  have k1 : w1.cell? ⟨w.heap.size + 1, 1, none⟩ = some (.bool true) := (H1.out.kb.cell 1).trans (by show some (Value.bool p.dup) = _; rw [HD.out])
  have k3 : w1.cell? ⟨w.heap.size + 1, 3, none⟩ = some (.int .i64 p.q) := H1.out.kb.cell 3
  have k5 : w1.cell? ⟨w.heap.size + 1, 5, none⟩ = some (.string p.topic) := H1.out.kb.cell 5
  have K2 := Lib.hid (H1.out.put o1)
  have C2 := Lib.hid (fun (X : World) (hX : Below w.heap.size w X) => refadd_any o1 ⟨#[]⟩ 129 X (by show _ + 0 ≤ _; omega))
  go_wp2_with fail
  (with_reducible refine (C2.out _ K2.out.below).mono ?_)
  rintro e w2 ⟨rfl, b2⟩
  have H2 := Lib.hid (K2.out.step b2)
  obtain ⟨o2, e2⟩ : ∃ x, o1.add ⟨#[]⟩ 129 = x := ⟨_, rfl⟩
  have s2 : o2.s.size ≤ 1048000 := by rw [← e2]; have := add_size o1 ⟨#[]⟩ 129; have : (⟨#[]⟩ : ByteArray).size = 0 := rfl; omega
  have E2 := Lib.hid e2
  try rw [e2]
  clear e2 b2 p0 p1 q0 q1 f0 f1 g0 g1 k1 k3 k5
  have p0 : w2.cell? ⟨w.heap.size, 0, none⟩ = some (.string o1.s) := H2.out.ob.cell 0
  have p1 : w2.cell? ⟨w.heap.size, 1, none⟩ = some (.int .i64 o1.c) := H2.out.ob.cell 1
  have q0 : w2.cell? ⟨w.heap.size + 2, 0, none⟩ = some (.string ⟨#[]⟩) := H2.out.qb.cell 0
  have q1 : w2.cell? ⟨w.heap.size + 2, 1, none⟩ = some (.int .i64 0) := H2.out.qb.cell 1
  have f0 := H2.out.ob.frozen 0
  have f1 := H2.out.ob.frozen 1
  have g0 := H2.out.qb.frozen 0
  have g1 := H2.out.qb.frozen 1
  have k5 : w2.cell? ⟨w.heap.size + 1, 5, none⟩ = some (.string p.topic) := H2.out.kb.cell 5
  have K3 := Lib.hid (H2.out.put o2)
  have C3 := Lib.hid (fun (X : World) (hX : Below w.heap.size w X) => reftext_any o2 p.topic X (by omega) (by have := HP.out.fits.topic; omega))
  go_wp2_with fail
  (with_reducible refine (C3.out _ K3.out.below).mono ?_)
  rintro e w3 ⟨rfl, b3⟩
  have H3 := Lib.hid (K3.out.step b3)
  obtain ⟨o3, e3⟩ : ∃ x, wText o2 p.topic = x := ⟨_, rfl⟩
  have s3 : o3.s.size ≤ 1200000 := by rw [← e3]; have := text_size o2 p.topic; omega
  have E3 := Lib.hid e3
  try rw [e3]
  clear e3 b3 p0 p1 q0 q1 f0 f1 g0 g1 k5
  have p0 : w3.cell? ⟨w.heap.size, 0, none⟩ = some (.string o2.s) := H3.out.ob.cell 0
  have p1 : w3.cell? ⟨w.heap.size, 1, none⟩ = some (.int .i64 o2.c) := H3.out.ob.cell 1
  have q0 : w3.cell? ⟨w.heap.size + 2, 0, none⟩ = some (.string ⟨#[]⟩) := H3.out.qb.cell 0
  have q1 : w3.cell? ⟨w.heap.size + 2, 1, none⟩ = some (.int .i64 0) := H3.out.qb.cell 1
  have f0 := H3.out.ob.frozen 0
  have f1 := H3.out.ob.frozen 1
  have g0 := H3.out.qb.frozen 0
  have g1 := H3.out.qb.frozen 1
  have k3 : w3.cell? ⟨w.heap.size + 1, 3, none⟩ = some (.int .i64 p.q) := H3.out.kb.cell 3
  have k4 : w3.cell? ⟨w.heap.size + 1, 4, none⟩ = some (.int .i64 p.id) := H3.out.kb.cell 4
  have k9 : w3.cell? ⟨w.heap.size + 1, 9, none⟩ = some (.slice m.p.A m.p.n m.p.cap) := H3.out.kb.cell 9
  have K4 := Lib.hid (H3.out.put o3)
  have C4 := Lib.hid (fun (X : World) (hX : Below w.heap.size w X) => rprops_any o3 3 m.p.A m.p.n m.p.cap p.ps X HP.out.pn HP.out.pc (by have := HP.out.fits.ps.1; have := HP.out.pn; omega) (HP.out.pr.below hX) HP.out.fits.ps.2 (by omega))
  go_wp2_with fail
  (with_reducible refine (C4.out _ K4.out.below).mono ?_)
  rintro e w4 ⟨rfl, b4⟩
  have H4 := Lib.hid (K4.out.step b4)
  obtain ⟨o4, e4⟩ : ∃ x, wProps 3 o3 p.ps = x := ⟨_, rfl⟩
  have s4 : o4.s.size ≤ 9700000 := by rw [← e4]; have := props_size 3 o3 p.ps; omega
  have E4 := Lib.hid e4
  try rw [e4]
  clear e4 b4 p0 p1 q0 q1 f0 f1 g0 g1 k3 k4 k9
  have p0 : w4.cell? ⟨w.heap.size, 0, none⟩ = some (.string o3.s) := H4.out.ob.cell 0
  have p1 : w4.cell? ⟨w.heap.size, 1, none⟩ = some (.int .i64 o3.c) := H4.out.ob.cell 1
  have q0 : w4.cell? ⟨w.heap.size + 2, 0, none⟩ = some (.string ⟨#[]⟩) := H4.out.qb.cell 0
  have q1 : w4.cell? ⟨w.heap.size + 2, 1, none⟩ = some (.int .i64 0) := H4.out.qb.cell 1
  have f0 := H4.out.ob.frozen 0
  have f1 := H4.out.ob.frozen 1
  have g0 := H4.out.qb.frozen 0
  have g1 := H4.out.qb.frozen 1
  have k6 : w4.cell? ⟨w.heap.size + 1, 6, none⟩ = some (.string p.payload) := H4.out.kb.cell 6
  have K5 := Lib.hid (H4.out.put o4)
  have C5 := Lib.hid (fun (X : World) (hX : Below w.heap.size w X) => refadd_any o4 p.payload 0 X (by have := HP.out.fits.payload; omega))
  go_wp2_with fail
  (with_reducible refine (C5.out _ K5.out.below).mono ?_)
  rintro e w5 ⟨rfl, b5⟩
  have H5 := Lib.hid (K5.out.step b5)
  obtain ⟨o5, e5⟩ : ∃ x, o4.add p.payload 0 = x := ⟨_, rfl⟩
  have s5 : o5.s.size ≤ 10800000 := by rw [← e5]; have := add_size o4 p.payload 0; have := HP.out.fits.payload; omega
  have E5 := Lib.hid e5
  try rw [e5]
  clear e5 b5 p0 p1 q0 q1 f0 f1 g0 g1 k6
  have p0 : w5.cell? ⟨w.heap.size, 0, none⟩ = some (.string o4.s) := H5.out.ob.cell 0
  have p1 : w5.cell? ⟨w.heap.size, 1, none⟩ = some (.int .i64 o4.c) := H5.out.ob.cell 1
  have q0 : w5.cell? ⟨w.heap.size + 2, 0, none⟩ = some (.string ⟨#[]⟩) := H5.out.qb.cell 0
  have q1 : w5.cell? ⟨w.heap.size + 2, 1, none⟩ = some (.int .i64 0) := H5.out.qb.cell 1
  have f0 := H5.out.ob.frozen 0
  have f1 := H5.out.ob.frozen 1
  have g0 := H5.out.qb.frozen 0
  have g1 := H5.out.qb.frozen 1
  go_wp2
  refine bodyPost_ret (v := .agg #[.string o5.s, .int .i64 o5.c]) (by simp [results, Tryd.results23, go_sem, q0, q1]) rfl ?_
  have e : wBody' (rHd o p) p = o5 := by
    unfold wBody'
    rw [if_neg (by have := HK.out; omega), if_neg (by have := HK.out; omega), if_pos (by have := HK.out; omega)]
    unfold wPublish
    rw [HH.out, if_neg (by have := HQ.out; omega), E1.out, ← add_empty, E2.out, E3.out, E4.out, E5.out]
    try rfl
  rw [e]
  exact ⟨rfl, ((H5.out.below.setCell (Nat.le_add_right _ 2) _).setCell (Nat.le_add_right _ 2) _)⟩
set_option maxRecDepth 100000 in
set_option maxHeartbeats 8000000 in
theorem rbody_3tp (o : Ot) (p : Pk) (m : Hs) (w : World) (hP : PkIn .i64 w p m) (hs : o.s.size ≤ 1048000) (hk : p.kind = 3) (hd : p.dup = true) (hq0 : (p.q == 0) = false) (hq : 0 < p.q) :
    Calls Tryd.prog 23 #[.agg #[.string o.s, .int .i64 o.c], pkV .i64 p m] w fun e w' => RPost (wBody' (rHd o p) p) w w' e := by
  have h0 := Rq.new w o p m
  obtain ⟨W, hW⟩ : ∃ W, ((w.alloc (.cells #[.string o.s, .int .i64 o.c] 81)).alloc (.cells (pkA .i64 p m) 45)).alloc (.cells #[.string ⟨#[]⟩, .int .i64 0] 81) = W := ⟨_, rfl⟩
  rw [hW] at h0
  have H0 := Lib.hid h0
  have HP := Lib.hid hP
  have HK := Lib.hid hk
  have HD := Lib.hid hd
  have HH : Hid (rHd o p = wQos o p.q) := Lib.hid (by unfold rHd; rw [if_pos hk, if_neg (fun c => by rw [c.2] at hq0; cases hq0)])
  have t1 : (p.kind == 1) = false := by rw [HK.out]; rfl
  have t2 : (p.kind == 2) = false := by rw [HK.out]; rfl
  have t3 : (p.kind == 3) = true := by rw [HK.out]; rfl
  have HQ := Lib.hid hq
  clear hP hk hd
  unfold pkV
  have p0 : W.cell? ⟨w.heap.size, 0, none⟩ = some (.string o.s) := H0.out.ob.cell 0
  have p1 : W.cell? ⟨w.heap.size, 1, none⟩ = some (.int .i64 o.c) := H0.out.ob.cell 1
  have q0 : W.cell? ⟨w.heap.size + 2, 0, none⟩ = some (.string ⟨#[]⟩) := H0.out.qb.cell 0
  have q1 : W.cell? ⟨w.heap.size + 2, 1, none⟩ = some (.int .i64 0) := H0.out.qb.cell 1
  have f0 := H0.out.ob.frozen 0
  have f1 := H0.out.ob.frozen 1
  have g0 := H0.out.qb.frozen 0
  have g1 := H0.out.qb.frozen 1
  have k0 : W.cell? ⟨w.heap.size + 1, 0, none⟩ = some (.int .i64 p.kind) := H0.out.kb.cell 0
  have k3 : W.cell? ⟨w.heap.size + 1, 3, none⟩ = some (.int .i64 p.q) := H0.out.kb.cell 3
  clear h0
  go_enter Tryd.func23, Tryd.ntmps23
  have C1 := Lib.hid (fun (X : World) (hX : Below w.heap.size w X) => rqos_any o p.q X (by omega))
  go_wp2_with fail
  (with_reducible refine (C1.out _ H0.out.below).mono ?_)
  rintro e w1 ⟨rfl, b1⟩
  have H1 := Lib.hid (H0.out.step b1)
  obtain ⟨o1, e1⟩ : ∃ x, wQos o p.q = x := ⟨_, rfl⟩
  have s1 : o1.s.size ≤ 1048000 := by rw [← e1]; have := Nat.le_of_eq (qos_size o p.q); omega
  have E1 := Lib.hid e1
  try rw [e1]
  clear e1 b1 p0 p1 q0 q1 f0 f1 g0 g1 k0 k3
  have p0 : w1.cell? ⟨w.heap.size, 0, none⟩ = some (.string o.s) := H1.out.ob.cell 0
  have p1 : w1.cell? ⟨w.heap.size, 1, none⟩ = some (.int .i64 o.c) := H1.out.ob.cell 1
  have q0 : w1.cell? ⟨w.heap.size + 2, 0, none⟩ = some (.string ⟨#[]⟩) := H1.out.qb.cell 0
  have q1 : w1.cell? ⟨w.heap.size + 2, 1, none⟩ = some (.int .i64 0) := H1.out.qb.cell 1
  have f0 := H1.out.ob.frozen 0
  have f1 := H1.out.ob.frozen 1
  have g0 := H1.out.qb.frozen 0
  have g1 := H1.out.qb.frozen 1
  have k1 : w1.cell? ⟨w.heap.size + 1, 1, none⟩ = some (.bool true) := (H1.out.kb.cell 1).trans (by show some (Value.bool p.dup) = _; rw [HD.out])
  have k3 : w1.cell? ⟨w.heap.size + 1, 3, none⟩ = some (.int .i64 p.q) := H1.out.kb.cell 3
  have k5 : w1.cell? ⟨w.heap.size + 1, 5, none⟩ = some (.string p.topic) := H1.out.kb.cell 5
  have K2 := Lib.hid (H1.out.put o1)
  have C2 := Lib.hid (fun (X : World) (hX : Below w.heap.size w X) => reftext_any o1 p.topic X (by omega) (by have := HP.out.fits.topic; omega))
  go_wp2_with fail
  (with_reducible refine (C2.out _ K2.out.below).mono ?_)
  rintro e w2 ⟨rfl, b2⟩
  have H2 := Lib.hid (K2.out.step b2)
  obtain ⟨o2, e2⟩ : ∃ x, wText o1 p.topic = x := ⟨_, rfl⟩
  have s2 : o2.s.size ≤ 1200000 := by rw [← e2]; have := text_size o1 p.topic; omega
  have E2 := Lib.hid e2
  try rw [e2]
  clear e2 b2 p0 p1 q0 q1 f0 f1 g0 g1 k1 k3 k5
  have p0 : w2.cell? ⟨w.heap.size, 0, none⟩ = some (.string o1.s) := H2.out.ob.cell 0
  have p1 : w2.cell? ⟨w.heap.size, 1, none⟩ = some (.int .i64 o1.c) := H2.out.ob.cell 1
  have q0 : w2.cell? ⟨w.heap.size + 2, 0, none⟩ = some (.string ⟨#[]⟩) := H2.out.qb.cell 0
  have q1 : w2.cell? ⟨w.heap.size + 2, 1, none⟩ = some (.int .i64 0) := H2.out.qb.cell 1
  have f0 := H2.out.ob.frozen 0
  have f1 := H2.out.ob.frozen 1
  have g0 := H2.out.qb.frozen 0
  have g1 := H2.out.qb.frozen 1
  have k3 : w2.cell? ⟨w.heap.size + 1, 3, none⟩ = some (.int .i64 p.q) := H2.out.kb.cell 3
  have k4 : w2.cell? ⟨w.heap.size + 1, 4, none⟩ = some (.int .i64 p.id) := H2.out.kb.cell 4
  have k9 : w2.cell? ⟨w.heap.size + 1, 9, none⟩ = some (.slice m.p.A m.p.n m.p.cap) := H2.out.kb.cell 9
  have K3 := Lib.hid (H2.out.put o2)
  have C3 := Lib.hid (fun (X : World) (hX : Below w.heap.size w X) => rid_any o2 p.id X (by omega))
  go_wp2_with fail
  (with_reducible refine (C3.out _ K3.out.below).mono ?_)
  rintro e w3 ⟨rfl, b3⟩
  have H3 := Lib.hid (K3.out.step b3)
  obtain ⟨o3, e3⟩ : ∃ x, wId o2 p.id = x := ⟨_, rfl⟩
  have s3 : o3.s.size ≤ 1200002 := by rw [← e3]; have := id_size o2 p.id; omega
  have E3 := Lib.hid e3
  try rw [e3]
  clear e3 b3 p0 p1 q0 q1 f0 f1 g0 g1 k3 k4 k9
  have p0 : w3.cell? ⟨w.heap.size, 0, none⟩ = some (.string o2.s) := H3.out.ob.cell 0
  have p1 : w3.cell? ⟨w.heap.size, 1, none⟩ = some (.int .i64 o2.c) := H3.out.ob.cell 1
  have q0 : w3.cell? ⟨w.heap.size + 2, 0, none⟩ = some (.string ⟨#[]⟩) := H3.out.qb.cell 0
  have q1 : w3.cell? ⟨w.heap.size + 2, 1, none⟩ = some (.int .i64 0) := H3.out.qb.cell 1
  have f0 := H3.out.ob.frozen 0
  have f1 := H3.out.ob.frozen 1
  have g0 := H3.out.qb.frozen 0
  have g1 := H3.out.qb.frozen 1
  have k9 : w3.cell? ⟨w.heap.size + 1, 9, none⟩ = some (.slice m.p.A m.p.n m.p.cap) := H3.out.kb.cell 9
  have K4 := Lib.hid (H3.out.put o3)
  have C4 := Lib.hid (fun (X : World) (hX : Below w.heap.size w X) => rprops_any o3 3 m.p.A m.p.n m.p.cap p.ps X HP.out.pn HP.out.pc (by have := HP.out.fits.ps.1; have := HP.out.pn; omega) (HP.out.pr.below hX) HP.out.fits.ps.2 (by omega))
  go_wp2_with fail
  (with_reducible refine (C4.out _ K4.out.below).mono ?_)
  rintro e w4 ⟨rfl, b4⟩
  have H4 := Lib.hid (K4.out.step b4)
  obtain ⟨o4, e4⟩ : ∃ x, wProps 3 o3 p.ps = x := ⟨_, rfl⟩
  have s4 : o4.s.size ≤ 9700000 := by rw [← e4]; have := props_size 3 o3 p.ps; omega
  have E4 := Lib.hid e4
  try rw [e4]
  clear e4 b4 p0 p1 q0 q1 f0 f1 g0 g1 k9
  have p0 : w4.cell? ⟨w.heap.size, 0, none⟩ = some (.string o3.s) := H4.out.ob.cell 0
  have p1 : w4.cell? ⟨w.heap.size, 1, none⟩ = some (.int .i64 o3.c) := H4.out.ob.cell 1
  have q0 : w4.cell? ⟨w.heap.size + 2, 0, none⟩ = some (.string ⟨#[]⟩) := H4.out.qb.cell 0
  have q1 : w4.cell? ⟨w.heap.size + 2, 1, none⟩ = some (.int .i64 0) := H4.out.qb.cell 1
  have f0 := H4.out.ob.frozen 0
  have f1 := H4.out.ob.frozen 1
  have g0 := H4.out.qb.frozen 0
  have g1 := H4.out.qb.frozen 1
  have k6 : w4.cell? ⟨w.heap.size + 1, 6, none⟩ = some (.string p.payload) := H4.out.kb.cell 6
  have K5 := Lib.hid (H4.out.put o4)
  have C5 := Lib.hid (fun (X : World) (hX : Below w.heap.size w X) => refadd_any o4 p.payload 0 X (by have := HP.out.fits.payload; omega))
  go_wp2_with fail
  (with_reducible refine (C5.out _ K5.out.below).mono ?_)
  rintro e w5 ⟨rfl, b5⟩
  have H5 := Lib.hid (K5.out.step b5)
  obtain ⟨o5, e5⟩ : ∃ x, o4.add p.payload 0 = x := ⟨_, rfl⟩
  have s5 : o5.s.size ≤ 10800000 := by rw [← e5]; have := add_size o4 p.payload 0; have := HP.out.fits.payload; omega
  have E5 := Lib.hid e5
  try rw [e5]
  clear e5 b5 p0 p1 q0 q1 f0 f1 g0 g1 k6
  have p0 : w5.cell? ⟨w.heap.size, 0, none⟩ = some (.string o4.s) := H5.out.ob.cell 0
  have p1 : w5.cell? ⟨w.heap.size, 1, none⟩ = some (.int .i64 o4.c) := H5.out.ob.cell 1
  have q0 : w5.cell? ⟨w.heap.size + 2, 0, none⟩ = some (.string ⟨#[]⟩) := H5.out.qb.cell 0
  have q1 : w5.cell? ⟨w.heap.size + 2, 1, none⟩ = some (.int .i64 0) := H5.out.qb.cell 1
  have f0 := H5.out.ob.frozen 0
  have f1 := H5.out.ob.frozen 1
  have g0 := H5.out.qb.frozen 0
  have g1 := H5.out.qb.frozen 1
  go_wp2
  refine bodyPost_ret (v := .agg #[.string o5.s, .int .i64 o5.c]) (by simp [results, Tryd.results23, go_sem, q0, q1]) rfl ?_
  have e : wBody' (rHd o p) p = o5 := by
    unfold wBody'
    rw [if_neg (by have := HK.out; omega), if_neg (by have := HK.out; omega), if_pos (by have := HK.out; omega)]
    unfold wPublish
    rw [HH.out, if_pos (by have := HQ.out; omega), E1.out, E2.out, E3.out, E4.out, E5.out]
    try rfl
  rw [e]
  exact ⟨rfl, ((H5.out.below.setCell (Nat.le_add_right _ 2) _).setCell (Nat.le_add_right _ 2) _)⟩
set_option maxRecDepth 100000 in
set_option maxHeartbeats 8000000 in
theorem rbody_3tn (o : Ot) (p : Pk) (m : Hs) (w : World) (hP : PkIn .i64 w p m) (hs : o.s.size ≤ 1048000) (hk : p.kind = 3) (hd : p.dup = true) (hq0 : (p.q == 0) = false) (hq : ¬ 0 < p.q) :
    Calls Tryd.prog 23 #[.agg #[.string o.s, .int .i64 o.c], pkV .i64 p m] w fun e w' => RPost (wBody' (rHd o p) p) w w' e := by
  have h0 := Rq.new w o p m
  obtain ⟨W, hW⟩ : ∃ W, ((w.alloc (.cells #[.string o.s, .int .i64 o.c] 81)).alloc (.cells (pkA .i64 p m) 45)).alloc (.cells #[.string ⟨#[]⟩, .int .i64 0] 81) = W := ⟨_, rfl⟩
  rw [hW] at h0
  have H0 := Lib.hid h0
  have HP := Lib.hid hP
  have HK := Lib.hid hk
  have HD := Lib.hid hd
  have HH : Hid (rHd o p = wQos o p.q) := Lib.hid (by unfold rHd; rw [if_pos hk, if_neg (fun c => by rw [c.2] at hq0; cases hq0)])
  have t1 : (p.kind == 1) = false := by rw [HK.out]; rfl
  have t2 : (p.kind == 2) = false := by rw [HK.out]; rfl
  have t3 : (p.kind == 3) = true := by rw [HK.out]; rfl
  have HQ := Lib.hid hq
  clear hP hk hd
  unfold pkV
  have p0 : W.cell? ⟨w.heap.size, 0, none⟩ = some (.string o.s) := H0.out.ob.cell 0
  have p1 : W.cell? ⟨w.heap.size, 1, none⟩ = some (.int .i64 o.c) := H0.out.ob.cell 1
  have q0 : W.cell? ⟨w.heap.size + 2, 0, none⟩ = some (.string ⟨#[]⟩) := H0.out.qb.cell 0
  have q1 : W.cell? ⟨w.heap.size + 2, 1, none⟩ = some (.int .i64 0) := H0.out.qb.cell 1
  have f0 := H0.out.ob.frozen 0
  have f1 := H0.out.ob.frozen 1
  have g0 := H0.out.qb.frozen 0
  have g1 := H0.out.qb.frozen 1
  have k0 : W.cell? ⟨w.heap.size + 1, 0, none⟩ = some (.int .i64 p.kind) := H0.out.kb.cell 0
  have k3 : W.cell? ⟨w.heap.size + 1, 3, none⟩ = some (.int .i64 p.q) := H0.out.kb.cell 3
  clear h0
  go_enter Tryd.func23, Tryd.ntmps23
  have C1 := Lib.hid (fun (X : World) (hX : Below w.heap.size w X) => rqos_any o p.q X (by omega))
  go_wp2_with fail
  (with_reducible refine (C1.out _ H0.out.below).mono ?_)
  rintro e w1 ⟨rfl, b1⟩
  have H1 := Lib.hid (H0.out.step b1)
  obtain ⟨o1, e1⟩ : ∃ x, wQos o p.q = x := ⟨_, rfl⟩
  have s1 : o1.s.size ≤ 1048000 := by rw [← e1]; have := Nat.le_of_eq (qos_size o p.q); omega
  have E1 := Lib.hid e1
  try rw [e1]
  clear e1 b1 p0 p1 q0 q1 f0 f1 g0 g1 k0 k3
  have p0 : w1.cell? ⟨w.heap.size, 0, none⟩ = some (.string o.s) := H1.out.ob.cell 0
  have p1 : w1.cell? ⟨w.heap.size, 1, none⟩ = some (.int .i64 o.c) := H1.out.ob.cell 1
  have q0 : w1.cell? ⟨w.heap.size + 2, 0, none⟩ = some (.string ⟨#[]⟩) := H1.out.qb.cell 0
  have q1 : w1.cell? ⟨w.heap.size + 2, 1, none⟩ = some (.int .i64 0) := H1.out.qb.cell 1
  have f0 := H1.out.ob.frozen 0
  have f1 := H1.out.ob.frozen 1
  have g0 := H1.out.qb.frozen 0
  have g1 := H1.out.qb.frozen 1
  have k1 : w1.cell? ⟨w.heap.size + 1, 1, none⟩ = some (.bool true) := (H1.out.kb.cell 1).trans (by show some (Value.bool p.dup) = _; rw [HD.out])
  have k3 : w1.cell? ⟨w.heap.size + 1, 3, none⟩ = some (.int .i64 p.q) := H1.out.kb.cell 3
  have k5 : w1.cell? ⟨w.heap.size + 1, 5, none⟩ = some (.string p.topic) := H1.out.kb.cell 5
  have K2 := Lib.hid (H1.out.put o1)
  have C2 := Lib.hid (fun (X : World) (hX : Below w.heap.size w X) => reftext_any o1 p.topic X (by omega) (by have := HP.out.fits.topic; omega))
  go_wp2_with fail
  (with_reducible refine (C2.out _ K2.out.below).mono ?_)
  rintro e w2 ⟨rfl, b2⟩
  have H2 := Lib.hid (K2.out.step b2)
  obtain ⟨o2, e2⟩ : ∃ x, wText o1 p.topic = x := ⟨_, rfl⟩
  have s2 : o2.s.size ≤ 1200000 := by rw [← e2]; have := text_size o1 p.topic; omega
  have E2 := Lib.hid e2
  try rw [e2]
  clear e2 b2 p0 p1 q0 q1 f0 f1 g0 g1 k1 k3 k5
  have p0 : w2.cell? ⟨w.heap.size, 0, none⟩ = some (.string o1.s) := H2.out.ob.cell 0
  have p1 : w2.cell? ⟨w.heap.size, 1, none⟩ = some (.int .i64 o1.c) := H2.out.ob.cell 1
  have q0 : w2.cell? ⟨w.heap.size + 2, 0, none⟩ = some (.string ⟨#[]⟩) := H2.out.qb.cell 0
  have q1 : w2.cell? ⟨w.heap.size + 2, 1, none⟩ = some (.int .i64 0) := H2.out.qb.cell 1
  have f0 := H2.out.ob.frozen 0
  have f1 := H2.out.ob.frozen 1
  have g0 := H2.out.qb.frozen 0
  have g1 := H2.out.qb.frozen 1
  have k3 : w2.cell? ⟨w.heap.size + 1, 3, none⟩ = some (.int .i64 p.q) := H2.out.kb.cell 3
  have k4 : w2.cell? ⟨w.heap.size + 1, 4, none⟩ = some (.int .i64 p.id) := H2.out.kb.cell 4
  have k9 : w2.cell? ⟨w.heap.size + 1, 9, none⟩ = some (.slice m.p.A m.p.n m.p.cap) := H2.out.kb.cell 9
  have K3 := Lib.hid (H2.out.put o2)
  have C3 := Lib.hid (fun (X : World) (hX : Below w.heap.size w X) => rprops_any o2 3 m.p.A m.p.n m.p.cap p.ps X HP.out.pn HP.out.pc (by have := HP.out.fits.ps.1; have := HP.out.pn; omega) (HP.out.pr.below hX) HP.out.fits.ps.2 (by omega))
  go_wp2_with fail
  (with_reducible refine (C3.out _ K3.out.below).mono ?_)
  rintro e w3 ⟨rfl, b3⟩
  have H3 := Lib.hid (K3.out.step b3)
  obtain ⟨o3, e3⟩ : ∃ x, wProps 3 o2 p.ps = x := ⟨_, rfl⟩
  have s3 : o3.s.size ≤ 9700000 := by rw [← e3]; have := props_size 3 o2 p.ps; omega
  have E3 := Lib.hid e3
  try rw [e3]
  clear e3 b3 p0 p1 q0 q1 f0 f1 g0 g1 k3 k4 k9
  have p0 : w3.cell? ⟨w.heap.size, 0, none⟩ = some (.string o2.s) := H3.out.ob.cell 0
  have p1 : w3.cell? ⟨w.heap.size, 1, none⟩ = some (.int .i64 o2.c) := H3.out.ob.cell 1
  have q0 : w3.cell? ⟨w.heap.size + 2, 0, none⟩ = some (.string ⟨#[]⟩) := H3.out.qb.cell 0
  have q1 : w3.cell? ⟨w.heap.size + 2, 1, none⟩ = some (.int .i64 0) := H3.out.qb.cell 1
  have f0 := H3.out.ob.frozen 0
  have f1 := H3.out.ob.frozen 1
  have g0 := H3.out.qb.frozen 0
  have g1 := H3.out.qb.frozen 1
  have k6 : w3.cell? ⟨w.heap.size + 1, 6, none⟩ = some (.string p.payload) := H3.out.kb.cell 6
  have K4 := Lib.hid (H3.out.put o3)
  have C4 := Lib.hid (fun (X : World) (hX : Below w.heap.size w X) => refadd_any o3 p.payload 0 X (by have := HP.out.fits.payload; omega))
  go_wp2_with fail
  (with_reducible refine (C4.out _ K4.out.below).mono ?_)
  rintro e w4 ⟨rfl, b4⟩
  have H4 := Lib.hid (K4.out.step b4)
  obtain ⟨o4, e4⟩ : ∃ x, o3.add p.payload 0 = x := ⟨_, rfl⟩
  have s4 : o4.s.size ≤ 10800000 := by rw [← e4]; have := add_size o3 p.payload 0; have := HP.out.fits.payload; omega
  have E4 := Lib.hid e4
  try rw [e4]
  clear e4 b4 p0 p1 q0 q1 f0 f1 g0 g1 k6
  have p0 : w4.cell? ⟨w.heap.size, 0, none⟩ = some (.string o3.s) := H4.out.ob.cell 0
  have p1 : w4.cell? ⟨w.heap.size, 1, none⟩ = some (.int .i64 o3.c) := H4.out.ob.cell 1
  have q0 : w4.cell? ⟨w.heap.size + 2, 0, none⟩ = some (.string ⟨#[]⟩) := H4.out.qb.cell 0
  have q1 : w4.cell? ⟨w.heap.size + 2, 1, none⟩ = some (.int .i64 0) := H4.out.qb.cell 1
  have f0 := H4.out.ob.frozen 0
  have f1 := H4.out.ob.frozen 1
  have g0 := H4.out.qb.frozen 0
  have g1 := H4.out.qb.frozen 1
  go_wp2
  refine bodyPost_ret (v := .agg #[.string o4.s, .int .i64 o4.c]) (by simp [results, Tryd.results23, go_sem, q0, q1]) rfl ?_
  have e : wBody' (rHd o p) p = o4 := by
    unfold wBody'
    rw [if_neg (by have := HK.out; omega), if_neg (by have := HK.out; omega), if_pos (by have := HK.out; omega)]
    unfold wPublish
    rw [HH.out, if_neg (by have := HQ.out; omega), E1.out, E2.out, E3.out, E4.out]
    try rfl
  rw [e]
  exact ⟨rfl, ((H4.out.below.setCell (Nat.le_add_right _ 2) _).setCell (Nat.le_add_right _ 2) _)⟩
theorem rbody_any (o : Ot) (p : Pk) (m : Hs) (w : World) (hP : PkIn .i64 w p m) (hs : o.s.size ≤ 1048000) :
    Calls Tryd.prog 23 #[.agg #[.string o.s, .int .i64 o.c], pkV .i64 p m] w fun e w' => RPost (wBody' (rHd o p) p) w w' e := by
  by_cases c1 : p.kind = 1
  · exact rbody_1 o p m w hP hs c1
  by_cases c2 : p.kind = 2
  · exact rbody_2 o p m w hP hs c2
  by_cases c3 : p.kind = 3
  · rcases (by cases p.dup <;> simp : p.dup = false ∨ p.dup = true) with hd | hd
    · by_cases hq : 0 < p.q
      · exact rbody_3fp o p m w hP hs c3 hd hq
      · exact rbody_3fn o p m w hP hs c3 hd hq
    · by_cases h0 : p.q = 0
      · exact rbody_3tz o p m w hP hs c3 hd (by rw [h0]; rfl) (by omega)
      · by_cases hq : 0 < p.q
        · exact rbody_3tp o p m w hP hs c3 hd (beq_eq_false_iff_ne.2 h0) hq
        · exact rbody_3tn o p m w hP hs c3 hd (beq_eq_false_iff_ne.2 h0) hq
  by_cases c4 : p.kind = 4
  · exact rbody_4 o p m w hP hs c4
  by_cases c5 : p.kind = 5
  · exact rbody_5 o p m w hP hs c5
  by_cases c6 : p.kind = 6
  · exact rbody_6 o p m w hP hs c6
  by_cases c7 : p.kind = 7
  · exact rbody_7 o p m w hP hs c7
  by_cases c14 : p.kind = 14
  · exact rbody_14 o p m w hP hs c14
  by_cases c15 : p.kind = 15
  · exact rbody_15 o p m w hP hs c15
  by_cases c8 : p.kind = 8
  · exact rbody_8 o p m w hP hs c8
  by_cases c9 : p.kind = 9
  · exact rbody_9 o p m w hP hs c9
  by_cases c10 : p.kind = 10
  · exact rbody_10 o p m w hP hs c10
  by_cases c11 : p.kind = 11
  · exact rbody_11 o p m w hP hs c11
  refine rbody_none o p m w hP hs (fun j hj => ?_)
  simp only [List.mem_cons, List.not_mem_nil, or_false] at hj
  rcases hj with rfl | rfl | rfl | rfl | rfl | rfl | rfl | rfl | rfl | rfl | rfl | rfl | rfl <;> assumption
end Go.Proofs.YtlnanenfpapfkaaDoor
