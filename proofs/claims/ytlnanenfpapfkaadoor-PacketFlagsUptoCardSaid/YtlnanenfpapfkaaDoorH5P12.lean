/- Parts of the proof, joined: Wr8, Wr9. -/
import Derived.Test.YtlnanenfpapfkaaDoorH5P11
/- The walk of a writer's body. -/
set_option linter.unusedVariables false
namespace Go.Proofs.YtlnanenfpapfkaaDoor
open Go.Shelf Go.RowKit Pl

theorem pk_size : (Tryd.prog.info? 38).map (·.size) = some 26 := by kernel_rfl

set_option maxRecDepth 100000 in
set_option maxHeartbeats 8000000 in
theorem wbody_1 (W0 : World) (b : Nat) (o : Ot) (p : Pk) (m : Hs) (w : World) (hP : PkIn .u8 W0 p m) (hs : o.s.size ≤ 1048000) (h : Wst W0 b o w) (hT : Tabs W0) (hk : p.kind = 1) :
    Calls Tryd.prog 18 #[.pointer (some ⟨b, 0, none⟩), pkV .u8 p m] w fun e w' => WPost W0 b (wBody o p) w w' e := by
  have hB := Blk.new w (pkA .u8 p m) 38
  have hA := h.alloc (.cells (pkA .u8 p m) 38)
  have mA : ModT wT w (w.alloc (.cells (pkA .u8 p m) 38)) := ModT.of_below ((Below.refl _ _).alloc (Nat.le_refl _) _)
  obtain ⟨W, hW⟩ : ∃ W, w.alloc (.cells (pkA .u8 p m) 38) = W := ⟨_, rfl⟩
  rw [hW] at hB hA mA
  have HB := Lib.hid hB
  have HA := Lib.hid hA
  have MA := Lib.hid mA
  have HP := Lib.hid hP
  have HK := Lib.hid hk
  have t1 : (p.kind == 1) = true := by rw [HK.out]; rfl
  have C1 := wconnect_any W0 b o p m W hP (by omega) hA hT
  unfold pkV at C1
  have C1 := Lib.hid C1
  have k0 : W.cell? ⟨w.heap.size, 0, none⟩ = some (.int .i64 p.kind) := HB.out.cell 0
  clear hB hA mA hP h hk
  unfold pkV
  go_enter Tryd.func18, Tryd.ntmps18
  go_wp2_with (refine wpList_load_row rfl 38 (.tmp 3) rfl w.heap.size rfl 38 (pkA .u8 p m) (0, 0) _ HB.out Tryd.underlying38 rfl pk_size ?_)
  (with_reducible refine C1.out.mono ?_)
  rintro e w1 ⟨rfl, h1, m1⟩
  go_wp2
  go_end0
  have e : wBody o p = wConnect o p := by unfold wBody; rw [if_pos (by have := HK.out; omega)]
  rw [e]
  exact ⟨rfl, h1, MA.out.trans m1⟩
set_option maxRecDepth 100000 in
set_option maxHeartbeats 8000000 in
theorem wbody_2 (W0 : World) (b : Nat) (o : Ot) (p : Pk) (m : Hs) (w : World) (hP : PkIn .u8 W0 p m) (hs : o.s.size ≤ 1048000) (h : Wst W0 b o w) (hT : Tabs W0) (hk : p.kind = 2) :
    Calls Tryd.prog 18 #[.pointer (some ⟨b, 0, none⟩), pkV .u8 p m] w fun e w' => WPost W0 b (wBody o p) w w' e := by
  have hB := Blk.new w (pkA .u8 p m) 38
  have hA := h.alloc (.cells (pkA .u8 p m) 38)
  have mA : ModT wT w (w.alloc (.cells (pkA .u8 p m) 38)) := ModT.of_below ((Below.refl _ _).alloc (Nat.le_refl _) _)
  obtain ⟨W, hW⟩ : ∃ W, w.alloc (.cells (pkA .u8 p m) 38) = W := ⟨_, rfl⟩
  rw [hW] at hB hA mA
  have HB := Lib.hid hB
  have HA := Lib.hid hA
  have MA := Lib.hid mA
  have HP := Lib.hid hP
  have HK := Lib.hid hk
  have t1 : (p.kind == 1) = false := by rw [HK.out]; rfl
  have t2 : (p.kind == 2) = true := by rw [HK.out]; rfl
  have k0 : W.cell? ⟨w.heap.size, 0, none⟩ = some (.int .i64 p.kind) := HB.out.cell 0
  have k23 : W.cell? ⟨w.heap.size, 23, none⟩ = some (.bool p.session) := HB.out.cell 23
  have HS := Lib.hid hs
  have hcd := hP.fits.code
  clear hB hA mA hP h hk
  unfold pkV
  go_enter Tryd.func18, Tryd.ntmps18
  go_wp2_with fail
  (with_reducible refine (bit_any _ _ _).mono ?_)
  rintro e w1 ⟨rfl, rfl⟩
  have C1 := Lib.hid (wbyte_any W0 b o (bt1 p.session 1) W (by omega) HA.out)
  go_wp2_with fail
  (with_reducible refine C1.out.mono ?_)
  rintro e w1 ⟨rfl, h1, m1⟩
  have B1 := Lib.hid (HB.out.modT m1 (by unfold wT; decide))
  have M1 := Lib.hid (MA.out.trans m1)
  have z1 := num1_size o (bt1 p.session 1)
  have C2 := Lib.hid (wbyte_any W0 b _ p.code w1 (by omega) h1)
  have d7 : w1.cell? ⟨w.heap.size, 7, none⟩ = some (.int .u8 p.code) := B1.out.cell 7
  clear h1 m1 k0 k23
  go_wp2_with fail
  (with_reducible refine C2.out.mono ?_)
  rintro e w2 ⟨rfl, h2, m2⟩
  have B2 := Lib.hid (B1.out.modT m2 (by unfold wT; decide))
  have M2 := Lib.hid (M1.out.trans m2)
  have z2 := num1_size (wNum 1 o (bt1 p.session 1)) p.code
  have C3 := Lib.hid (wprops_any W0 b _ 2 m.p.A m.p.n m.p.cap p.ps w2 HP.out.pn HP.out.pc (by have := HP.out.fits.ps.1; have := HP.out.pn; omega) HP.out.pr HP.out.fits.ps.2 (by omega) h2 hT)
  have d9 : w2.cell? ⟨w.heap.size, 9, none⟩ = some (.slice m.p.A m.p.n m.p.cap) := B2.out.cell 9
  clear h2 m2 d7
  go_wp2_with fail
  (with_reducible refine C3.out.mono ?_)
  rintro e w3 ⟨rfl, h3, m3⟩
  go_wp2
  go_end0
  have e : wBody o p = wConnack o p := by unfold wBody; rw [if_neg (by have := HK.out; omega), if_pos (by have := HK.out; omega)]
  rw [e]
  exact ⟨rfl, h3, M2.out.trans m3⟩
set_option maxRecDepth 100000 in
set_option maxHeartbeats 8000000 in
theorem wbody_3 (W0 : World) (b : Nat) (o : Ot) (p : Pk) (m : Hs) (w : World) (hP : PkIn .u8 W0 p m) (hs : o.s.size ≤ 1048000) (h : Wst W0 b o w) (hT : Tabs W0) (hk : p.kind = 3) :
    Calls Tryd.prog 18 #[.pointer (some ⟨b, 0, none⟩), pkV .u8 p m] w fun e w' => WPost W0 b (wBody o p) w w' e := by
  have hB := Blk.new w (pkA .u8 p m) 38
  have hA := h.alloc (.cells (pkA .u8 p m) 38)
  have mA : ModT wT w (w.alloc (.cells (pkA .u8 p m) 38)) := ModT.of_below ((Below.refl _ _).alloc (Nat.le_refl _) _)
  obtain ⟨W, hW⟩ : ∃ W, w.alloc (.cells (pkA .u8 p m) 38) = W := ⟨_, rfl⟩
  rw [hW] at hB hA mA
  have HB := Lib.hid hB
  have HA := Lib.hid hA
  have MA := Lib.hid mA
  have HP := Lib.hid hP
  have HK := Lib.hid hk
  have t1 : (p.kind == 1) = false := by rw [HK.out]; rfl
  have t2 : (p.kind == 2) = false := by rw [HK.out]; rfl
  have t3 : (p.kind == 3) = true := by rw [HK.out]; rfl
  have C1 := wpublish_any W0 b o p m W hP (by omega) hA hT
  unfold pkV at C1
  have C1 := Lib.hid C1
  have k0 : W.cell? ⟨w.heap.size, 0, none⟩ = some (.int .i64 p.kind) := HB.out.cell 0
  clear hB hA mA hP h hk
  unfold pkV
  go_enter Tryd.func18, Tryd.ntmps18
  go_wp2_with (refine wpList_load_row rfl 38 (.tmp 3) rfl w.heap.size rfl 38 (pkA .u8 p m) (0, 0) _ HB.out Tryd.underlying38 rfl pk_size ?_)
  (with_reducible refine C1.out.mono ?_)
  rintro e w1 ⟨rfl, h1, m1⟩
  go_wp2
  go_end0
  have e : wBody o p = wPublish o p := by unfold wBody; rw [if_neg (by have := HK.out; omega), if_neg (by have := HK.out; omega), if_pos (by have := HK.out; omega)]
  rw [e]
  exact ⟨rfl, h1, MA.out.trans m1⟩
set_option maxRecDepth 100000 in
set_option maxHeartbeats 8000000 in
theorem wbody_4 (W0 : World) (b : Nat) (o : Ot) (p : Pk) (m : Hs) (w : World) (hP : PkIn .u8 W0 p m) (hs : o.s.size ≤ 1048000) (h : Wst W0 b o w) (hT : Tabs W0) (hk : p.kind = 4) :
    Calls Tryd.prog 18 #[.pointer (some ⟨b, 0, none⟩), pkV .u8 p m] w fun e w' => WPost W0 b (wBody o p) w w' e := by
  have hB := Blk.new w (pkA .u8 p m) 38
  have hA := h.alloc (.cells (pkA .u8 p m) 38)
  have mA : ModT wT w (w.alloc (.cells (pkA .u8 p m) 38)) := ModT.of_below ((Below.refl _ _).alloc (Nat.le_refl _) _)
  obtain ⟨W, hW⟩ : ∃ W, w.alloc (.cells (pkA .u8 p m) 38) = W := ⟨_, rfl⟩
  rw [hW] at hB hA mA
  have HB := Lib.hid hB
  have HA := Lib.hid hA
  have MA := Lib.hid mA
  have HP := Lib.hid hP
  have HK := Lib.hid hk
  have t1 : (p.kind == 1) = false := by rw [HK.out]; rfl
  have t2 : (p.kind == 2) = false := by rw [HK.out]; rfl
  have t3 : (p.kind == 3) = false := by rw [HK.out]; rfl
  have t4 : (p.kind == 4) = true := by rw [HK.out]; rfl
  have C1 := Lib.hid (wid_any W0 b o p.id W (by omega) hA)
  have k0 : W.cell? ⟨w.heap.size, 0, none⟩ = some (.int .i64 p.kind) := HB.out.cell 0
  have k4 : W.cell? ⟨w.heap.size, 4, none⟩ = some (.int .i64 p.id) := HB.out.cell 4
  clear hB hA mA hP h hk
  unfold pkV
  go_enter Tryd.func18, Tryd.ntmps18
  go_wp2_with fail
  (with_reducible refine C1.out.mono ?_)
  rintro e w1 ⟨rfl, h1, m1⟩
  have B1 := Lib.hid (HB.out.modT m1 (by unfold wT; decide))
  have M1 := Lib.hid (MA.out.trans m1)
  have C2 := wend_any W0 b (wId o p.id) p m w1 HP.out (by have := id_size o p.id; omega) h1 hT
  unfold pkV at C2
  have C2 := Lib.hid C2
  clear h1 m1 k0 k4
  have k0 : w1.cell? ⟨w.heap.size, 0, none⟩ = some (.int .i64 p.kind) := B1.out.cell 0
  go_wp2_with (refine wpList_load_row rfl 38 (.tmp 3) rfl w.heap.size rfl 38 (pkA .u8 p m) (0, 0) _ B1.out Tryd.underlying38 rfl pk_size ?_)
  (with_reducible refine C2.out.mono ?_)
  rintro e w2 ⟨rfl, h2, m2⟩
  go_wp2
  go_end0
  have e : wBody o p = wEnd (wId o p.id) p := by unfold wBody; rw [if_neg (by rw [HK.out]; decide), if_neg (by rw [HK.out]; decide), if_neg (by rw [HK.out]; decide), if_pos (by have := HK.out; omega)]
  rw [e]
  exact ⟨rfl, h2, M1.out.trans m2⟩
set_option maxRecDepth 100000 in
set_option maxHeartbeats 8000000 in
theorem wbody_5 (W0 : World) (b : Nat) (o : Ot) (p : Pk) (m : Hs) (w : World) (hP : PkIn .u8 W0 p m) (hs : o.s.size ≤ 1048000) (h : Wst W0 b o w) (hT : Tabs W0) (hk : p.kind = 5) :
    Calls Tryd.prog 18 #[.pointer (some ⟨b, 0, none⟩), pkV .u8 p m] w fun e w' => WPost W0 b (wBody o p) w w' e := by
  have hB := Blk.new w (pkA .u8 p m) 38
  have hA := h.alloc (.cells (pkA .u8 p m) 38)
  have mA : ModT wT w (w.alloc (.cells (pkA .u8 p m) 38)) := ModT.of_below ((Below.refl _ _).alloc (Nat.le_refl _) _)
  obtain ⟨W, hW⟩ : ∃ W, w.alloc (.cells (pkA .u8 p m) 38) = W := ⟨_, rfl⟩
  rw [hW] at hB hA mA
  have HB := Lib.hid hB
  have HA := Lib.hid hA
  have MA := Lib.hid mA
  have HP := Lib.hid hP
  have HK := Lib.hid hk
  have t1 : (p.kind == 1) = false := by rw [HK.out]; rfl
  have t2 : (p.kind == 2) = false := by rw [HK.out]; rfl
  have t3 : (p.kind == 3) = false := by rw [HK.out]; rfl
  have t4 : (p.kind == 4) = false := by rw [HK.out]; rfl
  have t5 : (p.kind == 5) = true := by rw [HK.out]; rfl
  have C1 := Lib.hid (wid_any W0 b o p.id W (by omega) hA)
  have k0 : W.cell? ⟨w.heap.size, 0, none⟩ = some (.int .i64 p.kind) := HB.out.cell 0
  have k4 : W.cell? ⟨w.heap.size, 4, none⟩ = some (.int .i64 p.id) := HB.out.cell 4
  clear hB hA mA hP h hk
  unfold pkV
  go_enter Tryd.func18, Tryd.ntmps18
  go_wp2_with fail
  (with_reducible refine C1.out.mono ?_)
  rintro e w1 ⟨rfl, h1, m1⟩
  have B1 := Lib.hid (HB.out.modT m1 (by unfold wT; decide))
  have M1 := Lib.hid (MA.out.trans m1)
  have C2 := wend_any W0 b (wId o p.id) p m w1 HP.out (by have := id_size o p.id; omega) h1 hT
  unfold pkV at C2
  have C2 := Lib.hid C2
  clear h1 m1 k0 k4
  have k0 : w1.cell? ⟨w.heap.size, 0, none⟩ = some (.int .i64 p.kind) := B1.out.cell 0
  go_wp2_with (refine wpList_load_row rfl 38 (.tmp 3) rfl w.heap.size rfl 38 (pkA .u8 p m) (0, 0) _ B1.out Tryd.underlying38 rfl pk_size ?_)
  (with_reducible refine C2.out.mono ?_)
  rintro e w2 ⟨rfl, h2, m2⟩
  go_wp2
  go_end0
  have e : wBody o p = wEnd (wId o p.id) p := by unfold wBody; rw [if_neg (by rw [HK.out]; decide), if_neg (by rw [HK.out]; decide), if_neg (by rw [HK.out]; decide), if_pos (by have := HK.out; omega)]
  rw [e]
  exact ⟨rfl, h2, M1.out.trans m2⟩
set_option maxRecDepth 100000 in
set_option maxHeartbeats 8000000 in
theorem wbody_6 (W0 : World) (b : Nat) (o : Ot) (p : Pk) (m : Hs) (w : World) (hP : PkIn .u8 W0 p m) (hs : o.s.size ≤ 1048000) (h : Wst W0 b o w) (hT : Tabs W0) (hk : p.kind = 6) :
    Calls Tryd.prog 18 #[.pointer (some ⟨b, 0, none⟩), pkV .u8 p m] w fun e w' => WPost W0 b (wBody o p) w w' e := by
  have hB := Blk.new w (pkA .u8 p m) 38
  have hA := h.alloc (.cells (pkA .u8 p m) 38)
  have mA : ModT wT w (w.alloc (.cells (pkA .u8 p m) 38)) := ModT.of_below ((Below.refl _ _).alloc (Nat.le_refl _) _)
  obtain ⟨W, hW⟩ : ∃ W, w.alloc (.cells (pkA .u8 p m) 38) = W := ⟨_, rfl⟩
  rw [hW] at hB hA mA
  have HB := Lib.hid hB
  have HA := Lib.hid hA
  have MA := Lib.hid mA
  have HP := Lib.hid hP
  have HK := Lib.hid hk
  have t1 : (p.kind == 1) = false := by rw [HK.out]; rfl
  have t2 : (p.kind == 2) = false := by rw [HK.out]; rfl
  have t3 : (p.kind == 3) = false := by rw [HK.out]; rfl
  have t4 : (p.kind == 4) = false := by rw [HK.out]; rfl
  have t5 : (p.kind == 5) = false := by rw [HK.out]; rfl
  have t6 : (p.kind == 6) = true := by rw [HK.out]; rfl
  have C1 := Lib.hid (wid_any W0 b o p.id W (by omega) hA)
  have k0 : W.cell? ⟨w.heap.size, 0, none⟩ = some (.int .i64 p.kind) := HB.out.cell 0
  have k4 : W.cell? ⟨w.heap.size, 4, none⟩ = some (.int .i64 p.id) := HB.out.cell 4
  clear hB hA mA hP h hk
  unfold pkV
  go_enter Tryd.func18, Tryd.ntmps18
  go_wp2_with fail
  (with_reducible refine C1.out.mono ?_)
  rintro e w1 ⟨rfl, h1, m1⟩
  have B1 := Lib.hid (HB.out.modT m1 (by unfold wT; decide))
  have M1 := Lib.hid (MA.out.trans m1)
  have C2 := wend_any W0 b (wId o p.id) p m w1 HP.out (by have := id_size o p.id; omega) h1 hT
  unfold pkV at C2
  have C2 := Lib.hid C2
  clear h1 m1 k0 k4
  have k0 : w1.cell? ⟨w.heap.size, 0, none⟩ = some (.int .i64 p.kind) := B1.out.cell 0
  go_wp2_with (refine wpList_load_row rfl 38 (.tmp 3) rfl w.heap.size rfl 38 (pkA .u8 p m) (0, 0) _ B1.out Tryd.underlying38 rfl pk_size ?_)
  (with_reducible refine C2.out.mono ?_)
  rintro e w2 ⟨rfl, h2, m2⟩
  go_wp2
  go_end0
  have e : wBody o p = wEnd (wId o p.id) p := by unfold wBody; rw [if_neg (by rw [HK.out]; decide), if_neg (by rw [HK.out]; decide), if_neg (by rw [HK.out]; decide), if_pos (by have := HK.out; omega)]
  rw [e]
  exact ⟨rfl, h2, M1.out.trans m2⟩
set_option maxRecDepth 100000 in
set_option maxHeartbeats 8000000 in
theorem wbody_7 (W0 : World) (b : Nat) (o : Ot) (p : Pk) (m : Hs) (w : World) (hP : PkIn .u8 W0 p m) (hs : o.s.size ≤ 1048000) (h : Wst W0 b o w) (hT : Tabs W0) (hk : p.kind = 7) :
    Calls Tryd.prog 18 #[.pointer (some ⟨b, 0, none⟩), pkV .u8 p m] w fun e w' => WPost W0 b (wBody o p) w w' e := by
  have hB := Blk.new w (pkA .u8 p m) 38
  have hA := h.alloc (.cells (pkA .u8 p m) 38)
  have mA : ModT wT w (w.alloc (.cells (pkA .u8 p m) 38)) := ModT.of_below ((Below.refl _ _).alloc (Nat.le_refl _) _)
  obtain ⟨W, hW⟩ : ∃ W, w.alloc (.cells (pkA .u8 p m) 38) = W := ⟨_, rfl⟩
  rw [hW] at hB hA mA
  have HB := Lib.hid hB
  have HA := Lib.hid hA
  have MA := Lib.hid mA
  have HP := Lib.hid hP
  have HK := Lib.hid hk
  have t1 : (p.kind == 1) = false := by rw [HK.out]; rfl
  have t2 : (p.kind == 2) = false := by rw [HK.out]; rfl
  have t3 : (p.kind == 3) = false := by rw [HK.out]; rfl
  have t4 : (p.kind == 4) = false := by rw [HK.out]; rfl
  have t5 : (p.kind == 5) = false := by rw [HK.out]; rfl
  have t6 : (p.kind == 6) = false := by rw [HK.out]; rfl
  have t7 : (p.kind == 7) = true := by rw [HK.out]; rfl
  have C1 := Lib.hid (wid_any W0 b o p.id W (by omega) hA)
  have k0 : W.cell? ⟨w.heap.size, 0, none⟩ = some (.int .i64 p.kind) := HB.out.cell 0
  have k4 : W.cell? ⟨w.heap.size, 4, none⟩ = some (.int .i64 p.id) := HB.out.cell 4
  clear hB hA mA hP h hk
  unfold pkV
  go_enter Tryd.func18, Tryd.ntmps18
  go_wp2_with fail
  (with_reducible refine C1.out.mono ?_)
  rintro e w1 ⟨rfl, h1, m1⟩
  have B1 := Lib.hid (HB.out.modT m1 (by unfold wT; decide))
  have M1 := Lib.hid (MA.out.trans m1)
  have C2 := wend_any W0 b (wId o p.id) p m w1 HP.out (by have := id_size o p.id; omega) h1 hT
  unfold pkV at C2
  have C2 := Lib.hid C2
  clear h1 m1 k0 k4
  have k0 : w1.cell? ⟨w.heap.size, 0, none⟩ = some (.int .i64 p.kind) := B1.out.cell 0
  go_wp2_with (refine wpList_load_row rfl 38 (.tmp 3) rfl w.heap.size rfl 38 (pkA .u8 p m) (0, 0) _ B1.out Tryd.underlying38 rfl pk_size ?_)
  (with_reducible refine C2.out.mono ?_)
  rintro e w2 ⟨rfl, h2, m2⟩
  go_wp2
  go_end0
  have e : wBody o p = wEnd (wId o p.id) p := by unfold wBody; rw [if_neg (by rw [HK.out]; decide), if_neg (by rw [HK.out]; decide), if_neg (by rw [HK.out]; decide), if_pos (by have := HK.out; omega)]
  rw [e]
  exact ⟨rfl, h2, M1.out.trans m2⟩
set_option maxRecDepth 100000 in
set_option maxHeartbeats 8000000 in
theorem wbody_14 (W0 : World) (b : Nat) (o : Ot) (p : Pk) (m : Hs) (w : World) (hP : PkIn .u8 W0 p m) (hs : o.s.size ≤ 1048000) (h : Wst W0 b o w) (hT : Tabs W0) (hk : p.kind = 14) :
    Calls Tryd.prog 18 #[.pointer (some ⟨b, 0, none⟩), pkV .u8 p m] w fun e w' => WPost W0 b (wBody o p) w w' e := by
  have hB := Blk.new w (pkA .u8 p m) 38
  have hA := h.alloc (.cells (pkA .u8 p m) 38)
  have mA : ModT wT w (w.alloc (.cells (pkA .u8 p m) 38)) := ModT.of_below ((Below.refl _ _).alloc (Nat.le_refl _) _)
  obtain ⟨W, hW⟩ : ∃ W, w.alloc (.cells (pkA .u8 p m) 38) = W := ⟨_, rfl⟩
  rw [hW] at hB hA mA
  have HB := Lib.hid hB
  have HA := Lib.hid hA
  have MA := Lib.hid mA
  have HP := Lib.hid hP
  have HK := Lib.hid hk
  have t1 : (p.kind == 1) = false := by rw [HK.out]; rfl
  have t2 : (p.kind == 2) = false := by rw [HK.out]; rfl
  have t3 : (p.kind == 3) = false := by rw [HK.out]; rfl
  have t4 : (p.kind == 4) = false := by rw [HK.out]; rfl
  have t5 : (p.kind == 5) = false := by rw [HK.out]; rfl
  have t6 : (p.kind == 6) = false := by rw [HK.out]; rfl
  have t7 : (p.kind == 7) = false := by rw [HK.out]; rfl
  have t14 : (p.kind == 14) = true := by rw [HK.out]; rfl
  have C1 := wend_any W0 b o p m W hP (by omega) hA hT
  unfold pkV at C1
  have C1 := Lib.hid C1
  have k0 : W.cell? ⟨w.heap.size, 0, none⟩ = some (.int .i64 p.kind) := HB.out.cell 0
  clear hB hA mA hP h hk
  unfold pkV
  go_enter Tryd.func18, Tryd.ntmps18
  go_wp2_with (refine wpList_load_row rfl 38 (.tmp 3) rfl w.heap.size rfl 38 (pkA .u8 p m) (0, 0) _ HB.out Tryd.underlying38 rfl pk_size ?_)
  (with_reducible refine C1.out.mono ?_)
  rintro e w1 ⟨rfl, h1, m1⟩
  go_wp2
  go_end0
  have e : wBody o p = wEnd o p := by unfold wBody; rw [if_neg (by have := HK.out; omega), if_neg (by have := HK.out; omega), if_neg (by have := HK.out; omega), if_neg (by have := HK.out; omega), if_pos (by have := HK.out; omega)]
  rw [e]
  exact ⟨rfl, h1, MA.out.trans m1⟩
set_option maxRecDepth 100000 in
set_option maxHeartbeats 8000000 in
theorem wbody_15 (W0 : World) (b : Nat) (o : Ot) (p : Pk) (m : Hs) (w : World) (hP : PkIn .u8 W0 p m) (hs : o.s.size ≤ 1048000) (h : Wst W0 b o w) (hT : Tabs W0) (hk : p.kind = 15) :
    Calls Tryd.prog 18 #[.pointer (some ⟨b, 0, none⟩), pkV .u8 p m] w fun e w' => WPost W0 b (wBody o p) w w' e := by
  have hB := Blk.new w (pkA .u8 p m) 38
  have hA := h.alloc (.cells (pkA .u8 p m) 38)
  have mA : ModT wT w (w.alloc (.cells (pkA .u8 p m) 38)) := ModT.of_below ((Below.refl _ _).alloc (Nat.le_refl _) _)
  obtain ⟨W, hW⟩ : ∃ W, w.alloc (.cells (pkA .u8 p m) 38) = W := ⟨_, rfl⟩
  rw [hW] at hB hA mA
  have HB := Lib.hid hB
  have HA := Lib.hid hA
  have MA := Lib.hid mA
  have HP := Lib.hid hP
  have HK := Lib.hid hk
  have t1 : (p.kind == 1) = false := by rw [HK.out]; rfl
  have t2 : (p.kind == 2) = false := by rw [HK.out]; rfl
  have t3 : (p.kind == 3) = false := by rw [HK.out]; rfl
  have t4 : (p.kind == 4) = false := by rw [HK.out]; rfl
  have t5 : (p.kind == 5) = false := by rw [HK.out]; rfl
  have t6 : (p.kind == 6) = false := by rw [HK.out]; rfl
  have t7 : (p.kind == 7) = false := by rw [HK.out]; rfl
  have t14 : (p.kind == 14) = false := by rw [HK.out]; rfl
  have t15 : (p.kind == 15) = true := by rw [HK.out]; rfl
  have C1 := wend_any W0 b o p m W hP (by omega) hA hT
  unfold pkV at C1
  have C1 := Lib.hid C1
  have k0 : W.cell? ⟨w.heap.size, 0, none⟩ = some (.int .i64 p.kind) := HB.out.cell 0
  clear hB hA mA hP h hk
  unfold pkV
  go_enter Tryd.func18, Tryd.ntmps18
  go_wp2_with (refine wpList_load_row rfl 38 (.tmp 3) rfl w.heap.size rfl 38 (pkA .u8 p m) (0, 0) _ HB.out Tryd.underlying38 rfl pk_size ?_)
  (with_reducible refine C1.out.mono ?_)
  rintro e w1 ⟨rfl, h1, m1⟩
  go_wp2
  go_end0
  have e : wBody o p = wEnd o p := by unfold wBody; rw [if_neg (by have := HK.out; omega), if_neg (by have := HK.out; omega), if_neg (by have := HK.out; omega), if_neg (by have := HK.out; omega), if_pos (by have := HK.out; omega)]
  rw [e]
  exact ⟨rfl, h1, MA.out.trans m1⟩
set_option maxRecDepth 100000 in
set_option maxHeartbeats 8000000 in
theorem wbody_8 (W0 : World) (b : Nat) (o : Ot) (p : Pk) (m : Hs) (w : World) (hP : PkIn .u8 W0 p m) (hs : o.s.size ≤ 1048000) (h : Wst W0 b o w) (hT : Tabs W0) (hk : p.kind = 8) :
    Calls Tryd.prog 18 #[.pointer (some ⟨b, 0, none⟩), pkV .u8 p m] w fun e w' => WPost W0 b (wBody o p) w w' e := by
  have hB := Blk.new w (pkA .u8 p m) 38
  have hA := h.alloc (.cells (pkA .u8 p m) 38)
  have mA : ModT wT w (w.alloc (.cells (pkA .u8 p m) 38)) := ModT.of_below ((Below.refl _ _).alloc (Nat.le_refl _) _)
  obtain ⟨W, hW⟩ : ∃ W, w.alloc (.cells (pkA .u8 p m) 38) = W := ⟨_, rfl⟩
  rw [hW] at hB hA mA
  have HB := Lib.hid hB
  have HA := Lib.hid hA
  have MA := Lib.hid mA
  have HP := Lib.hid hP
  have HK := Lib.hid hk
  have t1 : (p.kind == 1) = false := by rw [HK.out]; rfl
  have t2 : (p.kind == 2) = false := by rw [HK.out]; rfl
  have t3 : (p.kind == 3) = false := by rw [HK.out]; rfl
  have t4 : (p.kind == 4) = false := by rw [HK.out]; rfl
  have t5 : (p.kind == 5) = false := by rw [HK.out]; rfl
  have t6 : (p.kind == 6) = false := by rw [HK.out]; rfl
  have t7 : (p.kind == 7) = false := by rw [HK.out]; rfl
  have t14 : (p.kind == 14) = false := by rw [HK.out]; rfl
  have t15 : (p.kind == 15) = false := by rw [HK.out]; rfl
  have t8 : (p.kind == 8) = true := by rw [HK.out]; rfl
  have C1 := wlists_any W0 b o p m W hP (by omega) hA hT
  unfold pkV at C1
  have C1 := Lib.hid C1
  have k0 : W.cell? ⟨w.heap.size, 0, none⟩ = some (.int .i64 p.kind) := HB.out.cell 0
  clear hB hA mA hP h hk
  unfold pkV
  go_enter Tryd.func18, Tryd.ntmps18
  go_wp2_with (refine wpList_load_row rfl 38 (.tmp 3) rfl w.heap.size rfl 38 (pkA .u8 p m) (0, 0) _ HB.out Tryd.underlying38 rfl pk_size ?_)
  (with_reducible refine C1.out.mono ?_)
  rintro e w1 ⟨rfl, h1, m1⟩
  go_wp2
  go_end0
  have e : wBody o p = wLists o p := by unfold wBody; rw [if_neg (by have := HK.out; omega), if_neg (by have := HK.out; omega), if_neg (by have := HK.out; omega), if_neg (by have := HK.out; omega), if_neg (by have := HK.out; omega), if_pos (by have := HK.out; omega)]
  rw [e]
  exact ⟨rfl, h1, MA.out.trans m1⟩
set_option maxRecDepth 100000 in
set_option maxHeartbeats 8000000 in
theorem wbody_9 (W0 : World) (b : Nat) (o : Ot) (p : Pk) (m : Hs) (w : World) (hP : PkIn .u8 W0 p m) (hs : o.s.size ≤ 1048000) (h : Wst W0 b o w) (hT : Tabs W0) (hk : p.kind = 9) :
    Calls Tryd.prog 18 #[.pointer (some ⟨b, 0, none⟩), pkV .u8 p m] w fun e w' => WPost W0 b (wBody o p) w w' e := by
  have hB := Blk.new w (pkA .u8 p m) 38
  have hA := h.alloc (.cells (pkA .u8 p m) 38)
  have mA : ModT wT w (w.alloc (.cells (pkA .u8 p m) 38)) := ModT.of_below ((Below.refl _ _).alloc (Nat.le_refl _) _)
  obtain ⟨W, hW⟩ : ∃ W, w.alloc (.cells (pkA .u8 p m) 38) = W := ⟨_, rfl⟩
  rw [hW] at hB hA mA
  have HB := Lib.hid hB
  have HA := Lib.hid hA
  have MA := Lib.hid mA
  have HP := Lib.hid hP
  have HK := Lib.hid hk
  have t1 : (p.kind == 1) = false := by rw [HK.out]; rfl
  have t2 : (p.kind == 2) = false := by rw [HK.out]; rfl
  have t3 : (p.kind == 3) = false := by rw [HK.out]; rfl
  have t4 : (p.kind == 4) = false := by rw [HK.out]; rfl
  have t5 : (p.kind == 5) = false := by rw [HK.out]; rfl
  have t6 : (p.kind == 6) = false := by rw [HK.out]; rfl
  have t7 : (p.kind == 7) = false := by rw [HK.out]; rfl
  have t14 : (p.kind == 14) = false := by rw [HK.out]; rfl
  have t15 : (p.kind == 15) = false := by rw [HK.out]; rfl
  have t8 : (p.kind == 8) = false := by rw [HK.out]; rfl
  have t9 : (p.kind == 9) = true := by rw [HK.out]; rfl
  have C1 := wlists_any W0 b o p m W hP (by omega) hA hT
  unfold pkV at C1
  have C1 := Lib.hid C1
  have k0 : W.cell? ⟨w.heap.size, 0, none⟩ = some (.int .i64 p.kind) := HB.out.cell 0
  clear hB hA mA hP h hk
  unfold pkV
  go_enter Tryd.func18, Tryd.ntmps18
  go_wp2_with (refine wpList_load_row rfl 38 (.tmp 3) rfl w.heap.size rfl 38 (pkA .u8 p m) (0, 0) _ HB.out Tryd.underlying38 rfl pk_size ?_)
  (with_reducible refine C1.out.mono ?_)
  rintro e w1 ⟨rfl, h1, m1⟩
  go_wp2
  go_end0
  have e : wBody o p = wLists o p := by unfold wBody; rw [if_neg (by have := HK.out; omega), if_neg (by have := HK.out; omega), if_neg (by have := HK.out; omega), if_neg (by have := HK.out; omega), if_neg (by have := HK.out; omega), if_pos (by have := HK.out; omega)]
  rw [e]
  exact ⟨rfl, h1, MA.out.trans m1⟩
set_option maxRecDepth 100000 in
set_option maxHeartbeats 8000000 in
theorem wbody_10 (W0 : World) (b : Nat) (o : Ot) (p : Pk) (m : Hs) (w : World) (hP : PkIn .u8 W0 p m) (hs : o.s.size ≤ 1048000) (h : Wst W0 b o w) (hT : Tabs W0) (hk : p.kind = 10) :
    Calls Tryd.prog 18 #[.pointer (some ⟨b, 0, none⟩), pkV .u8 p m] w fun e w' => WPost W0 b (wBody o p) w w' e := by
  have hB := Blk.new w (pkA .u8 p m) 38
  have hA := h.alloc (.cells (pkA .u8 p m) 38)
  have mA : ModT wT w (w.alloc (.cells (pkA .u8 p m) 38)) := ModT.of_below ((Below.refl _ _).alloc (Nat.le_refl _) _)
  obtain ⟨W, hW⟩ : ∃ W, w.alloc (.cells (pkA .u8 p m) 38) = W := ⟨_, rfl⟩
  rw [hW] at hB hA mA
  have HB := Lib.hid hB
  have HA := Lib.hid hA
  have MA := Lib.hid mA
  have HP := Lib.hid hP
  have HK := Lib.hid hk
  have t1 : (p.kind == 1) = false := by rw [HK.out]; rfl
  have t2 : (p.kind == 2) = false := by rw [HK.out]; rfl
  have t3 : (p.kind == 3) = false := by rw [HK.out]; rfl
  have t4 : (p.kind == 4) = false := by rw [HK.out]; rfl
  have t5 : (p.kind == 5) = false := by rw [HK.out]; rfl
  have t6 : (p.kind == 6) = false := by rw [HK.out]; rfl
  have t7 : (p.kind == 7) = false := by rw [HK.out]; rfl
  have t14 : (p.kind == 14) = false := by rw [HK.out]; rfl
  have t15 : (p.kind == 15) = false := by rw [HK.out]; rfl
  have t8 : (p.kind == 8) = false := by rw [HK.out]; rfl
  have t9 : (p.kind == 9) = false := by rw [HK.out]; rfl
  have t10 : (p.kind == 10) = true := by rw [HK.out]; rfl
  have C1 := wlists_any W0 b o p m W hP (by omega) hA hT
  unfold pkV at C1
  have C1 := Lib.hid C1
  have k0 : W.cell? ⟨w.heap.size, 0, none⟩ = some (.int .i64 p.kind) := HB.out.cell 0
  clear hB hA mA hP h hk
  unfold pkV
  go_enter Tryd.func18, Tryd.ntmps18
  go_wp2_with (refine wpList_load_row rfl 38 (.tmp 3) rfl w.heap.size rfl 38 (pkA .u8 p m) (0, 0) _ HB.out Tryd.underlying38 rfl pk_size ?_)
  (with_reducible refine C1.out.mono ?_)
  rintro e w1 ⟨rfl, h1, m1⟩
  go_wp2
  go_end0
  have e : wBody o p = wLists o p := by unfold wBody; rw [if_neg (by have := HK.out; omega), if_neg (by have := HK.out; omega), if_neg (by have := HK.out; omega), if_neg (by have := HK.out; omega), if_neg (by have := HK.out; omega), if_pos (by have := HK.out; omega)]
  rw [e]
  exact ⟨rfl, h1, MA.out.trans m1⟩
set_option maxRecDepth 100000 in
set_option maxHeartbeats 8000000 in
theorem wbody_11 (W0 : World) (b : Nat) (o : Ot) (p : Pk) (m : Hs) (w : World) (hP : PkIn .u8 W0 p m) (hs : o.s.size ≤ 1048000) (h : Wst W0 b o w) (hT : Tabs W0) (hk : p.kind = 11) :
    Calls Tryd.prog 18 #[.pointer (some ⟨b, 0, none⟩), pkV .u8 p m] w fun e w' => WPost W0 b (wBody o p) w w' e := by
  have hB := Blk.new w (pkA .u8 p m) 38
  have hA := h.alloc (.cells (pkA .u8 p m) 38)
  have mA : ModT wT w (w.alloc (.cells (pkA .u8 p m) 38)) := ModT.of_below ((Below.refl _ _).alloc (Nat.le_refl _) _)
  obtain ⟨W, hW⟩ : ∃ W, w.alloc (.cells (pkA .u8 p m) 38) = W := ⟨_, rfl⟩
  rw [hW] at hB hA mA
  have HB := Lib.hid hB
  have HA := Lib.hid hA
  have MA := Lib.hid mA
  have HP := Lib.hid hP
  have HK := Lib.hid hk
  have t1 : (p.kind == 1) = false := by rw [HK.out]; rfl
  have t2 : (p.kind == 2) = false := by rw [HK.out]; rfl
  have t3 : (p.kind == 3) = false := by rw [HK.out]; rfl
  have t4 : (p.kind == 4) = false := by rw [HK.out]; rfl
  have t5 : (p.kind == 5) = false := by rw [HK.out]; rfl
  have t6 : (p.kind == 6) = false := by rw [HK.out]; rfl
  have t7 : (p.kind == 7) = false := by rw [HK.out]; rfl
  have t14 : (p.kind == 14) = false := by rw [HK.out]; rfl
  have t15 : (p.kind == 15) = false := by rw [HK.out]; rfl
  have t8 : (p.kind == 8) = false := by rw [HK.out]; rfl
  have t9 : (p.kind == 9) = false := by rw [HK.out]; rfl
  have t10 : (p.kind == 10) = false := by rw [HK.out]; rfl
  have t11 : (p.kind == 11) = true := by rw [HK.out]; rfl
  have C1 := wlists_any W0 b o p m W hP (by omega) hA hT
  unfold pkV at C1
  have C1 := Lib.hid C1
  have k0 : W.cell? ⟨w.heap.size, 0, none⟩ = some (.int .i64 p.kind) := HB.out.cell 0
  clear hB hA mA hP h hk
  unfold pkV
  go_enter Tryd.func18, Tryd.ntmps18
  go_wp2_with (refine wpList_load_row rfl 38 (.tmp 3) rfl w.heap.size rfl 38 (pkA .u8 p m) (0, 0) _ HB.out Tryd.underlying38 rfl pk_size ?_)
  (with_reducible refine C1.out.mono ?_)
  rintro e w1 ⟨rfl, h1, m1⟩
  go_wp2
  go_end0
  have e : wBody o p = wLists o p := by unfold wBody; rw [if_neg (by have := HK.out; omega), if_neg (by have := HK.out; omega), if_neg (by have := HK.out; omega), if_neg (by have := HK.out; omega), if_neg (by have := HK.out; omega), if_pos (by have := HK.out; omega)]
  rw [e]
  exact ⟨rfl, h1, MA.out.trans m1⟩
set_option maxRecDepth 100000 in
set_option maxHeartbeats 8000000 in
theorem wbody_o (W0 : World) (b : Nat) (o : Ot) (p : Pk) (m : Hs) (w : World) (hP : PkIn .u8 W0 p m) (hs : o.s.size ≤ 1048000) (h : Wst W0 b o w) (hT : Tabs W0) (hk : ∀ j ∈ ([1, 2, 3, 4, 5, 6, 7, 8, 9, 10, 11, 14, 15] : List Int), p.kind ≠ j) :
    Calls Tryd.prog 18 #[.pointer (some ⟨b, 0, none⟩), pkV .u8 p m] w fun e w' => WPost W0 b (wBody o p) w w' e := by
  have hB := Blk.new w (pkA .u8 p m) 38
  have hA := h.alloc (.cells (pkA .u8 p m) 38)
  have mA : ModT wT w (w.alloc (.cells (pkA .u8 p m) 38)) := ModT.of_below ((Below.refl _ _).alloc (Nat.le_refl _) _)
  obtain ⟨W, hW⟩ : ∃ W, w.alloc (.cells (pkA .u8 p m) 38) = W := ⟨_, rfl⟩
  rw [hW] at hB hA mA
  have HB := Lib.hid hB
  have HA := Lib.hid hA
  have MA := Lib.hid mA
  have HP := Lib.hid hP
  have HK := Lib.hid hk
  have t1 : (p.kind == 1) = false := beq_eq_false_iff_ne.2 (fun c => HK.out 1 (by decide) c)
  have t2 : (p.kind == 2) = false := beq_eq_false_iff_ne.2 (fun c => HK.out 2 (by decide) c)
  have t3 : (p.kind == 3) = false := beq_eq_false_iff_ne.2 (fun c => HK.out 3 (by decide) c)
  have t4 : (p.kind == 4) = false := beq_eq_false_iff_ne.2 (fun c => HK.out 4 (by decide) c)
  have t5 : (p.kind == 5) = false := beq_eq_false_iff_ne.2 (fun c => HK.out 5 (by decide) c)
  have t6 : (p.kind == 6) = false := beq_eq_false_iff_ne.2 (fun c => HK.out 6 (by decide) c)
  have t7 : (p.kind == 7) = false := beq_eq_false_iff_ne.2 (fun c => HK.out 7 (by decide) c)
  have t14 : (p.kind == 14) = false := beq_eq_false_iff_ne.2 (fun c => HK.out 14 (by decide) c)
  have t15 : (p.kind == 15) = false := beq_eq_false_iff_ne.2 (fun c => HK.out 15 (by decide) c)
  have t8 : (p.kind == 8) = false := beq_eq_false_iff_ne.2 (fun c => HK.out 8 (by decide) c)
  have t9 : (p.kind == 9) = false := beq_eq_false_iff_ne.2 (fun c => HK.out 9 (by decide) c)
  have t10 : (p.kind == 10) = false := beq_eq_false_iff_ne.2 (fun c => HK.out 10 (by decide) c)
  have t11 : (p.kind == 11) = false := beq_eq_false_iff_ne.2 (fun c => HK.out 11 (by decide) c)
  have k0 : W.cell? ⟨w.heap.size, 0, none⟩ = some (.int .i64 p.kind) := HB.out.cell 0
  clear hB hA mA hP h hk
  unfold pkV
  go_enter Tryd.func18, Tryd.ntmps18
  go_wp2
  go_end0
  have e : wBody o p = o := by
    have h1 := HK.out 1 (by decide); have h2 := HK.out 2 (by decide); have h3 := HK.out 3 (by decide); have h4 := HK.out 4 (by decide); have h5 := HK.out 5 (by decide); have h6 := HK.out 6 (by decide); have h7 := HK.out 7 (by decide); have h8 := HK.out 8 (by decide); have h9 := HK.out 9 (by decide); have h10 := HK.out 10 (by decide); have h11 := HK.out 11 (by decide); have h14 := HK.out 14 (by decide); have h15 := HK.out 15 (by decide)
    unfold wBody
    rw [if_neg h1, if_neg h2, if_neg h3, if_neg (by omega), if_neg (by omega), if_neg (by omega)]
  rw [e]
  exact ⟨rfl, HA.out, MA.out⟩
theorem wbody_any (W0 : World) (b : Nat) (o : Ot) (p : Pk) (m : Hs) (w : World) (hP : PkIn .u8 W0 p m) (hs : o.s.size ≤ 1048000) (h : Wst W0 b o w) (hT : Tabs W0) :
    Calls Tryd.prog 18 #[.pointer (some ⟨b, 0, none⟩), pkV .u8 p m] w fun e w' => WPost W0 b (wBody o p) w w' e := by
  by_cases c1 : p.kind = 1
  · exact wbody_1 W0 b o p m w hP hs h hT c1
  by_cases c2 : p.kind = 2
  · exact wbody_2 W0 b o p m w hP hs h hT c2
  by_cases c3 : p.kind = 3
  · exact wbody_3 W0 b o p m w hP hs h hT c3
  by_cases c4 : p.kind = 4
  · exact wbody_4 W0 b o p m w hP hs h hT c4
  by_cases c5 : p.kind = 5
  · exact wbody_5 W0 b o p m w hP hs h hT c5
  by_cases c6 : p.kind = 6
  · exact wbody_6 W0 b o p m w hP hs h hT c6
  by_cases c7 : p.kind = 7
  · exact wbody_7 W0 b o p m w hP hs h hT c7
  by_cases c14 : p.kind = 14
  · exact wbody_14 W0 b o p m w hP hs h hT c14
  by_cases c15 : p.kind = 15
  · exact wbody_15 W0 b o p m w hP hs h hT c15
  by_cases c8 : p.kind = 8
  · exact wbody_8 W0 b o p m w hP hs h hT c8
  by_cases c9 : p.kind = 9
  · exact wbody_9 W0 b o p m w hP hs h hT c9
  by_cases c10 : p.kind = 10
  · exact wbody_10 W0 b o p m w hP hs h hT c10
  by_cases c11 : p.kind = 11
  · exact wbody_11 W0 b o p m w hP hs h hT c11
  refine wbody_o W0 b o p m w hP hs h hT (fun j hj => ?_)
  simp only [List.mem_cons, List.not_mem_nil, or_false] at hj
  rcases hj with rfl | rfl | rfl | rfl | rfl | rfl | rfl | rfl | rfl | rfl | rfl | rfl | rfl <;> assumption
end Go.Proofs.YtlnanenfpapfkaaDoor

/- A writer's bytes as a string; a kind's flags. -/
set_option linter.unusedVariables false
namespace Go.Proofs.YtlnanenfpapfkaaDoor
open Go.Shelf Go.RowKit Pl

theorem unsafeString_none' (W : World) (q : Option Addr) : (Builtin.unsafeString_ #[104, 3] 9 #[.pointer q, .int .i64 0]).run Tryd.prog W = .ok (.string .empty) W :=
  Any.unsafeString_none Tryd.lays169 Tryd.Builder_Extra_169 W q
theorem byte_cells : Tryd.prog.cellsOf 5 = 1 := by kernel_rfl
set_option maxHeartbeats 2000000 in
set_option maxRecDepth 100000 in
theorem wstr_nil (B b : Nat) (p : Value) (c : Int) (w : World) (hb : Blk w b #[p, .slice none 0 0, .int .u8 c] 71) :
    Calls Tryd.prog 22 #[.pointer (some ⟨b, 0, none⟩)] w fun e w' => e = .returned (.string ⟨#[]⟩) ∧ Below B w w' := by
  have hUS := unsafeString_none'
  have c1 : w.drew.cell? ⟨b, 1, none⟩ = some (.slice none 0 0) := hb.cell 1
  have hSD : (Builtin.unsafeSliceData_ #[22] 104 #[.slice none 0 0]).run Tryd.prog w.drew = .ok (.pointer none) w.drew := rfl
  clear hb
  go_enter Tryd.func22, Tryd.ntmps22
  go_wp2
  go_region
  all_goals (go_wp2; go_ret; exact ⟨rfl, Below.drew (Below.refl B w)⟩)
set_option maxHeartbeats 2000000 in
set_option maxRecDepth 100000 in
theorem wstr_noroom (B b g : Nat) (p : Value) (c : Int) (cur : Array Value) (w : World) (hBw : B ≤ w.heap.size) (hb : Blk w b #[p, .slice (some ⟨g, 0, none⟩) 0 0, .int .u8 c] 71) (hg : w.heap[g]? = some (.cells cur 5 (0, 0))) :
    Calls Tryd.prog 22 #[.pointer (some ⟨b, 0, none⟩)] w fun e w' => e = .returned (.string ⟨#[]⟩) ∧ Below B w w' := by
  have hUS := unsafeString_none'
  have hlt := hb.lt
  have c1 : w.drew.cell? ⟨b, 1, none⟩ = some (.slice (some ⟨g, 0, none⟩) 0 0) := hb.cell 1
  have hSD : (Builtin.unsafeSliceData_ #[22] 104 #[.slice (some ⟨g, 0, none⟩) 0 0]).run Tryd.prog w.drew = .ok (.pointer (some ⟨w.drew.heap.size, 0, none⟩)) (w.drew.alloc (.view ⟨g, 0, none⟩ 5)) :=
    Lib.run_unsafeSliceData_zero w.drew _ _ 5 Tryd.underlying104 ⟨g, 0, none⟩ 0 (5, cur.size) (by have hg' : w.drew.heap[g]? = some (.cells cur 5 (0, 0)) := hg; simp [World.shape?, hg'])
  have c2 : (w.drew.alloc (.view ⟨g, 0, none⟩ 5)).cell? ⟨b, 1, none⟩ = some (.slice (some ⟨g, 0, none⟩) 0 0) := (hb.drew.alloc (.view ⟨g, 0, none⟩ 5)).cell 1
  have c3 : (w.alloc (.view ⟨g, 0, none⟩ 5)).drew.cell? ⟨b, 1, none⟩ = some (.slice (some ⟨g, 0, none⟩) 0 0) := c2
  have c0 : w.cell? ⟨b, 1, none⟩ = some (.slice (some ⟨g, 0, none⟩) 0 0) := c1
  clear hb
  go_enter Tryd.func22, Tryd.ntmps22
  go_wp2
  go_region
  all_goals (go_wp2; go_ret; exact ⟨rfl, (Below.drew (Below.refl B w)).alloc hBw _⟩)
set_option maxHeartbeats 2000000 in
set_option maxRecDepth 100000 in
theorem wstr_room (B b g cap : Nat) (p : Value) (c : Int) (w : World) (hc0 : cap ≠ 0) (hb : Blk w b #[p, .slice (some ⟨g, 0, none⟩) 0 cap, .int .u8 c] 71) :
    Calls Tryd.prog 22 #[.pointer (some ⟨b, 0, none⟩)] w fun e w' => e = .returned (.string ⟨#[]⟩) ∧ Below B w w' := by
  have hUS := unsafeString_none'
  have c1 : w.drew.cell? ⟨b, 1, none⟩ = some (.slice (some ⟨g, 0, none⟩) 0 cap) := hb.cell 1
  have hSD : (Builtin.unsafeSliceData_ #[22] 104 #[.slice (some ⟨g, 0, none⟩) 0 cap]).run Tryd.prog w.drew = .ok (.pointer (some ⟨g, 0, none⟩)) w.drew :=
    Lib.run_unsafeSliceData_row _ _ _ _ _ _ hc0
  clear hc0 hb
  go_enter Tryd.func22, Tryd.ntmps22
  go_wp2
  go_region
  all_goals (go_wp2; go_ret; exact ⟨rfl, Below.drew (Below.refl B w)⟩)
set_option maxHeartbeats 2000000 in
set_option maxRecDepth 100000 in
theorem wstr_full (B b : Nat) (s : ByteArray) (c : Int) (w : World) (h : WrAt B b s c w) (h0 : s.data.toList ≠ []) :
    Calls Tryd.prog 22 #[.pointer (some ⟨b, 0, none⟩)] w fun e w' => e = .returned (.string ⟨s.data.toList.toArray⟩) ∧ Below B w w' := by
  obtain ⟨hB, p, v, hp, hb, hown⟩ := h
  obtain ⟨l, hl⟩ : ∃ l, s.data.toList = l := ⟨_, rfl⟩
  have hsz : s.size = l.length := by rw [← hl]; rfl
  rw [hl] at hown h0 ⊢
  rw [hsz] at hown
  have hl0 : l.length ≠ 0 := by simpa using h0
  obtain ⟨g, cap, cur, rfl, hbg, hg, hnc, hcm, hcs, htake⟩ : ∃ g cap cur, v = .slice (some ⟨g, 0, none⟩) l.length cap ∧ B ≤ g ∧ w.heap[g]? = some (.cells cur 5 (0, 0)) ∧ l.length ≤ cap ∧ cap ≤ maxLen ∧ cur.size = cap * 1 ∧ cur.toList.take (l.length * 1) = Lib.byteCells l := by
    rcases hown.2 with ⟨_, hz⟩ | ⟨g, cap, cur, hv, r⟩
    · exact absurd hz hl0
    · exact ⟨g, cap, cur, hv, r⟩
  have c1 : w.drew.cell? ⟨b, 1, none⟩ = some (.slice (some ⟨g, 0, none⟩) l.length cap) := hb.cell 1
  have hSD : (Builtin.unsafeSliceData_ #[22] 104 #[.slice (some ⟨g, 0, none⟩) l.length cap]).run Tryd.prog w.drew = .ok (.pointer (some ⟨g, 0, none⟩)) w.drew :=
    Lib.run_unsafeSliceData_row _ _ _ _ _ _ (by omega)
  have hUS : (Builtin.unsafeString_ #[104, 3] 9 #[.pointer (some ⟨g, 0, none⟩), .int .i64 l.length]).run Tryd.prog w.drew = .ok (.string ⟨l.toArray⟩) (w.drew.freeze ⟨g, 0, none⟩ l.length) := by
    refine Lib.run_unsafeString_row w.drew 104 3 9 5 Tryd.underlying104 byte_cells g cur.size (by have hg' : w.drew.heap[g]? = some (.cells cur 5 (0, 0)) := hg; simp [World.shape?, hg']) l h0 (by omega) (by unfold maxLen at hcm; omega) ?_
    intro j x hx
    have := hown.cells (g := g) rfl j (.int .u8 x.toNat) (by simp [Lib.byteCells, hx])
    exact this
  clear hb hown hp htake hsz hl
  go_enter Tryd.func22, Tryd.ntmps22
  go_wp2
  go_region
  all_goals (go_wp2; go_ret; exact ⟨rfl, Lib.below_freeze (Below.drew (Below.refl B w)) (p := ⟨g, 0, none⟩) hbg _⟩)
theorem wstr_any (B b : Nat) (s : ByteArray) (c : Int) (w : World) (h : WrAt B b s c w) (hBw : B ≤ w.heap.size) :
    Calls Tryd.prog 22 #[.pointer (some ⟨b, 0, none⟩)] w fun e w' => e = .returned (.string s) ∧ Below B w w' := by
  by_cases h0 : s.data.toList = []
  · obtain rfl : s = ⟨#[]⟩ := by apply ByteArray.ext; apply Array.toList_inj.1; exact h0
    obtain ⟨hB, p, v, hp, hb, hown⟩ := h
    rcases hown.2 with ⟨rfl, _⟩ | ⟨g, cap, cur, rfl, hbg, hg, _, _, _, _⟩
    · exact wstr_nil B b p c w hb
    · by_cases hc0 : cap = 0
      · subst hc0
        exact wstr_noroom B b g p c cur w hBw hb hg
      · exact wstr_room B b g cap p c w hc0 hb
  · have := wstr_full B b s c w h h0
    rwa [show (⟨s.data.toList.toArray⟩ : ByteArray) = s from by apply ByteArray.ext; simp] at this
theorem kflags_any (k : Int) (w : World) : Calls Tryd.prog 14 #[.int .i64 k] w fun e w' => e = .returned (.int .i64 (kFlags k)) ∧ w = w' := by
  obtain ⟨f, hf⟩ : ∃ f, kFlags k = f := ⟨_, rfl⟩
  rw [hf]
  unfold kFlags at hf
  by_cases h6 : k = 6
  · rw [if_pos (.inl h6)] at hf
    subst hf
    have t1 : (k == 6) = true := by rw [h6]; rfl
    clear h6
    go_enter Tryd.func14, Tryd.ntmps14
    go_wp2
    go_ret
    exact ⟨rfl, rfl⟩
  · have t1 : (k == 6) = false := beq_eq_false_iff_ne.2 h6
    by_cases h8 : k = 8
    · rw [if_pos (.inr (.inl h8))] at hf
      subst hf
      have t2 : (k == 8) = true := by rw [h8]; rfl
      clear h6 h8
      go_enter Tryd.func14, Tryd.ntmps14
      go_wp2
      go_ret
      exact ⟨rfl, rfl⟩
    · have t2 : (k == 8) = false := beq_eq_false_iff_ne.2 h8
      by_cases h10 : k = 10
      · rw [if_pos (.inr (.inr h10))] at hf
        subst hf
        have t3 : (k == 10) = true := by rw [h10]; rfl
        clear h6 h8 h10
        go_enter Tryd.func14, Tryd.ntmps14
        go_wp2
        go_ret
        exact ⟨rfl, rfl⟩
      · rw [if_neg (by omega)] at hf
        subst hf
        have t3 : (k == 10) = false := beq_eq_false_iff_ne.2 h10
        clear h6 h8 h10
        go_enter Tryd.func14, Tryd.ntmps14
        go_wp2
        go_ret
        exact ⟨rfl, rfl⟩
end Go.Proofs.YtlnanenfpapfkaaDoor
