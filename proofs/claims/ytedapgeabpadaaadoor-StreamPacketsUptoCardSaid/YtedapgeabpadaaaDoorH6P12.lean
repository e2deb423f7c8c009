/- The walks of a writer's publish, end. -/
import Derived.Test.YtedapgeabpadaaaDoorH6P5
import Derived.Test.YtedapgeabpadaaaDoorH6P6
set_option linter.unusedVariables false
namespace Go.Proofs.YtedapgeabpadaaaDoor
open Go.Shelf Go.RowKit Pl

set_option maxRecDepth 100000 in
set_option maxHeartbeats 4000000 in
theorem wpublish_any (W0 : World) (b : Nat) (o : Ot) (p : Pk) (m : Hs) (w : World) (hP : PkIn .u8 W0 p m) (hs : o.s.size ≤ 1048576) (h : Wst W0 b o w) (hT : Tabs W0) :
    Calls Tryd.prog 43 #[.pointer (some ⟨b, 0, none⟩), pkV .u8 p m] w fun e w' => WPost W0 b (wPublish o p) w w' e := by
  have hB := Blk.new w (pkA .u8 p m) 45
  have hA := h.alloc (.cells (pkA .u8 p m) 45)
  have mA : ModT wT w (w.alloc (.cells (pkA .u8 p m) 45)) := ModT.of_below ((Below.refl _ _).alloc (Nat.le_refl _) _)
  obtain ⟨W, hW⟩ : ∃ W, w.alloc (.cells (pkA .u8 p m) 45) = W := ⟨_, rfl⟩
  rw [hW] at hB hA mA
  unfold pkA at hW
  have HW := Lib.hid hW
  have HB := Lib.hid hB
  have HA := Lib.hid hA
  have MA := Lib.hid mA
  have HP := Lib.hid hP
  have HS := Lib.hid hs
  have ct := Lib.hid (wtext_any W0 b o p.topic W (by have := hP.fits.topic; omega) (by omega) hA hT)
  have c5 : W.cell? ⟨w.heap.size, 5, none⟩ = some (.string p.topic) := hB.cell 5
  clear hW hB hA mA hP hs h
  unfold pkV pkA
  by_cases hq : 0 < p.q
  · go_enter Tryd.func43, Tryd.ntmps43
    go_wp2_with fail
    rw [HW.out]
    (with_reducible refine ct.out.mono ?_)
    rintro e w1 ⟨rfl, h1, m1⟩
    have B1 := Lib.hid (HB.out.modT m1 (by unfold wT; decide))
    have M1 := Lib.hid (MA.out.trans m1)
    have d3 : w1.cell? ⟨w.heap.size, 3, none⟩ = some (.int .i64 p.q) := B1.out.cell 3
    have d4 : w1.cell? ⟨w.heap.size, 4, none⟩ = some (.int .i64 p.id) := B1.out.cell 4
    have z1 := text_size o p.topic
    have ci := Lib.hid (wid_any W0 b _ p.id w1 (by have := HS.out; omega) h1)
    clear h1 m1
    go_wp2_with fail
    (with_reducible refine ci.out.mono ?_)
    rintro e w2 ⟨rfl, h2, m2⟩
    have B2 := Lib.hid (B1.out.modT m2 (by unfold wT; decide))
    have M2 := Lib.hid (M1.out.trans m2)
    have d9 : w2.cell? ⟨w.heap.size, 9, none⟩ = some (.slice m.p.A m.p.n m.p.cap) := B2.out.cell 9
    have z2 := id_size (wText o p.topic) p.id
    have cp := Lib.hid (wprops_any W0 b _ 3 m.p.A m.p.n m.p.cap p.ps w2 HP.out.pn HP.out.pc (by have := HP.out.fits.ps.1; have := HP.out.pn; omega) HP.out.pr HP.out.fits.ps.2 (by have := HS.out; omega) h2 hT)
    clear h2 m2
    go_wp2_with fail
    (with_reducible refine cp.out.mono ?_)
    rintro e w3 ⟨rfl, h3, m3⟩
    have B3 := Lib.hid (B2.out.modT m3 (by unfold wT; decide))
    have M3 := Lib.hid (M2.out.trans m3)
    have d6 : w3.cell? ⟨w.heap.size, 6, none⟩ = some (.string p.payload) := B3.out.cell 6
    have z3 := props_size 3 (wId (wText o p.topic) p.id) p.ps
    have cl := Lib.hid (wpart_any W0 b _ p.payload 0 w3 (by have := HS.out; have := HP.out.fits.payload; omega) h3)
    clear h3 m3
    go_wp2_with fail
    (with_reducible refine cl.out.mono ?_)
    rintro e w4 ⟨rfl, h4, m4⟩
    go_wp2
    go_end0
    refine ⟨rfl, ?_, M3.out.trans m4⟩
    have e : wPublish o p = (wProps 3 (wId (wText o p.topic) p.id) p.ps).add p.payload 0 := by unfold wPublish; rw [if_pos hq]
    rw [e]
    exact h4
  · go_enter Tryd.func43, Tryd.ntmps43
    go_wp2_with fail
    rw [HW.out]
    (with_reducible refine ct.out.mono ?_)
    rintro e w1 ⟨rfl, h2, m1⟩
    have B2 := Lib.hid (HB.out.modT m1 (by unfold wT; decide))
    have M2 := Lib.hid (MA.out.trans m1)
    have d3 : w1.cell? ⟨w.heap.size, 3, none⟩ = some (.int .i64 p.q) := B2.out.cell 3
    have d9 : w1.cell? ⟨w.heap.size, 9, none⟩ = some (.slice m.p.A m.p.n m.p.cap) := B2.out.cell 9
    have z2 := text_size o p.topic
    have cp := Lib.hid (wprops_any W0 b _ 3 m.p.A m.p.n m.p.cap p.ps w1 HP.out.pn HP.out.pc (by have := HP.out.fits.ps.1; have := HP.out.pn; omega) HP.out.pr HP.out.fits.ps.2 (by have := HS.out; omega) h2 hT)
    clear h2 m1
    go_wp2_with fail
    (with_reducible refine cp.out.mono ?_)
    rintro e w3 ⟨rfl, h3, m3⟩
    have B3 := Lib.hid (B2.out.modT m3 (by unfold wT; decide))
    have M3 := Lib.hid (M2.out.trans m3)
    have d6 : w3.cell? ⟨w.heap.size, 6, none⟩ = some (.string p.payload) := B3.out.cell 6
    have z3 := props_size 3 (wText o p.topic) p.ps
    have cl := Lib.hid (wpart_any W0 b _ p.payload 0 w3 (by have := HS.out; have := HP.out.fits.payload; omega) h3)
    clear h3 m3
    go_wp2_with fail
    (with_reducible refine cl.out.mono ?_)
    rintro e w4 ⟨rfl, h4, m4⟩
    go_wp2
    go_end0
    refine ⟨rfl, ?_, M3.out.trans m4⟩
    have e : wPublish o p = (wProps 3 (wText o p.topic) p.ps).add p.payload 0 := by unfold wPublish; rw [if_neg (by omega)]
    rw [e]
    exact h4
set_option maxRecDepth 100000 in
set_option maxHeartbeats 4000000 in
theorem wend_any (W0 : World) (b : Nat) (o : Ot) (p : Pk) (m : Hs) (w : World) (hP : PkIn .u8 W0 p m) (hs : o.s.size ≤ 1048576) (h : Wst W0 b o w) (hT : Tabs W0) :
    Calls Tryd.prog 45 #[.pointer (some ⟨b, 0, none⟩), pkV .u8 p m] w fun e w' => WPost W0 b (wEnd o p) w w' e := by
  have hB := Blk.new w (pkA .u8 p m) 45
  have hA := h.alloc (.cells (pkA .u8 p m) 45)
  have mA : ModT wT w (w.alloc (.cells (pkA .u8 p m) 45)) := ModT.of_below ((Below.refl _ _).alloc (Nat.le_refl _) _)
  obtain ⟨W, hW⟩ : ∃ W, w.alloc (.cells (pkA .u8 p m) 45) = W := ⟨_, rfl⟩
  rw [hW] at hB hA mA
  unfold pkA at hW
  have HW := Lib.hid hW
  have HB := Lib.hid hB
  have HA := Lib.hid hA
  have MA := Lib.hid mA
  have HP := Lib.hid hP
  have HS := Lib.hid hs
  have cb := Lib.hid (wbyte_any W0 b o p.code W (by omega) hA)
  have c7 : W.cell? ⟨w.heap.size, 7, none⟩ = some (.int .u8 p.code) := hB.cell 7
  have c9 : W.cell? ⟨w.heap.size, 9, none⟩ = some (.slice m.p.A m.p.n m.p.cap) := hB.cell 9
  have hpn := hP.pn
  have hcb := hP.fits.code
  obtain ⟨O, hO⟩ : ∃ O, wEnd o p = O := ⟨_, rfl⟩
  rw [hO]
  unfold wEnd at hO
  rw [hpn] at hO
  clear hW hB hA mA hP hs h hpn
  unfold pkV pkA
  by_cases hn : m.p.n = 0
  · rw [if_pos hn] at hO
    have hnI : ¬ (0 : Int) < (m.p.n : Int) := by omega
    have hnN : ¬ 0 < m.p.n := by omega
    by_cases hc : p.code = 0
    · rw [if_pos hc] at hO
      subst hO
      have hc1 : (p.code != 0) = false := by rw [hc]; rfl
      clear hc hn
      have hW2 := HW.out
      go_enter Tryd.func45, Tryd.ntmps45
      go_wp2
      go_end0
      exact ⟨rfl, HA.out, MA.out⟩
    · rw [if_neg hc] at hO
      subst hO
      have hc1 : (p.code != 0) = true := by rw [bne, beq_eq_false_iff_ne.2 hc]; rfl
      clear hc hn
      go_enter Tryd.func45, Tryd.ntmps45
      go_wp2_with fail
      rw [HW.out]
      (with_reducible refine cb.out.mono ?_)
      rintro e w1 ⟨rfl, h1, m1⟩
      have B1 := Lib.hid (HB.out.modT m1 (by unfold wT; decide))
      have M1 := Lib.hid (MA.out.trans m1)
      have H1 := Lib.hid h1
      have d0 : w1.cell? ⟨w.heap.size, 0, none⟩ = some (.int .i64 p.kind) := B1.out.cell 0
      have d9 : w1.cell? ⟨w.heap.size, 9, none⟩ = some (.slice m.p.A m.p.n m.p.cap) := B1.out.cell 9
      clear h1 m1
      go_wp2
      go_end0
      exact ⟨rfl, H1.out, M1.out⟩
  · rw [if_neg hn] at hO
    subst hO
    have hnI : (0 : Int) < (m.p.n : Int) := by omega
    have hnN : 0 < m.p.n := by omega
    clear hn
    by_cases hc : p.code = 0
    · have hc1 : (p.code != 0) = false := by rw [hc]; rfl
      clear hc
      go_enter Tryd.func45, Tryd.ntmps45
      go_wp2_with fail
      rw [HW.out]
      (with_reducible refine cb.out.mono ?_)
      rintro e w1 ⟨rfl, h1, m1⟩
      have B1 := Lib.hid (HB.out.modT m1 (by unfold wT; decide))
      have M1 := Lib.hid (MA.out.trans m1)
      have H1 := Lib.hid h1
      have d0 : w1.cell? ⟨w.heap.size, 0, none⟩ = some (.int .i64 p.kind) := B1.out.cell 0
      have d9 : w1.cell? ⟨w.heap.size, 9, none⟩ = some (.slice m.p.A m.p.n m.p.cap) := B1.out.cell 9
      have z2 := num_size 1 o p.code
      have cp := Lib.hid (wprops_any W0 b _ p.kind m.p.A m.p.n m.p.cap p.ps w1 HP.out.pn HP.out.pc (by have := HP.out.fits.ps.1; have := HP.out.pn; omega) HP.out.pr HP.out.fits.ps.2 (by have := HS.out; have : (1 : Int).toNat = 1 := rfl; omega) h1 hT)
      clear h1 m1
      go_wp2_with fail
      (with_reducible refine cp.out.mono ?_)
      rintro e w3 ⟨rfl, h3, m3⟩
      go_wp2
      go_end0
      exact ⟨rfl, h3, M1.out.trans m3⟩
    · have hc1 : (p.code != 0) = true := by rw [bne, beq_eq_false_iff_ne.2 hc]; rfl
      clear hc
      go_enter Tryd.func45, Tryd.ntmps45
      go_wp2_with fail
      rw [HW.out]
      (with_reducible refine cb.out.mono ?_)
      rintro e w1 ⟨rfl, h1, m1⟩
      have B1 := Lib.hid (HB.out.modT m1 (by unfold wT; decide))
      have M1 := Lib.hid (MA.out.trans m1)
      have H1 := Lib.hid h1
      have d0 : w1.cell? ⟨w.heap.size, 0, none⟩ = some (.int .i64 p.kind) := B1.out.cell 0
      have d9 : w1.cell? ⟨w.heap.size, 9, none⟩ = some (.slice m.p.A m.p.n m.p.cap) := B1.out.cell 9
      have z2 := num_size 1 o p.code
      have cp := Lib.hid (wprops_any W0 b _ p.kind m.p.A m.p.n m.p.cap p.ps w1 HP.out.pn HP.out.pc (by have := HP.out.fits.ps.1; have := HP.out.pn; omega) HP.out.pr HP.out.fits.ps.2 (by have := HS.out; have : (1 : Int).toNat = 1 := rfl; omega) h1 hT)
      clear h1 m1
      go_wp2_with fail
      (with_reducible refine cp.out.mono ?_)
      rintro e w3 ⟨rfl, h3, m3⟩
      go_wp2
      go_end0
      exact ⟨rfl, h3, M1.out.trans m3⟩
end Go.Proofs.YtedapgeabpadaaaDoor
