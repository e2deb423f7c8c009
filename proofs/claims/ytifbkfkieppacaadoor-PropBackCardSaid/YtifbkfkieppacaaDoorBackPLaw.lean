/- PropBack: the law's walk. -/
import Derived.Test.YtifbkfkieppacaaDoorPutsLaw
import Derived.Test.YtifbkfkieppacaaDoorGetsLaw
import Derived.Test.YtifbkfkieppacaaDoorPropBackP
namespace Go.Proofs.YtifbkfkieppacaaDoor
set_option linter.unusedVariables false
open Go.RowKit Pl Go.Shelf

theorem nrm_5 {p : Pp} (h : kindOf p.id = 5) : nrm p = ⟨p.id, 0, p.s, ⟨#[]⟩⟩ := by unfold nrm; rw [if_pos (.inl h)]; rfl
theorem nrm_6 {p : Pp} (h : kindOf p.id = 6) : nrm p = ⟨p.id, 0, p.s, ⟨#[]⟩⟩ := by unfold nrm; rw [if_pos (.inr h)]; rfl
theorem nrm_7 {p : Pp} (h : kindOf p.id = 7) : nrm p = ⟨p.id, 0, p.s, p.t⟩ := by unfold nrm; rw [if_neg (by omega), if_pos h]
theorem nrm_d {p : Pp} {k : Int} (h : kindOf p.id = k) (hk : ¬ k = 5 ∧ ¬ k = 6 ∧ ¬ k = 7) : nrm p = ⟨p.id, p.n, ⟨#[]⟩, ⟨#[]⟩⟩ := by unfold nrm; rw [if_neg (by omega), if_neg (by omega)]; rfl
theorem S4b_of {w : World} {b o k : Nat} {L : List Pp} {p q : Pp} (h : ∀ i p, L[i]? = some p → w.cell? ⟨b, o + i * 4, none⟩ = some (.int .i64 p.id) ∧ w.cell? ⟨b, o + i * 4 + 1, none⟩ = some (.int .i64 p.n) ∧ w.cell? ⟨b, o + i * 4 + 2, none⟩ = some (.string p.s) ∧ w.cell? ⟨b, o + i * 4 + 3, none⟩ = some (.string p.t)) (hp : L[k]? = some p) (hq : p = q) :
    w.cell? ⟨b, o + k * 4, none⟩ = some (.int .i64 q.id) ∧ w.cell? ⟨b, o + k * 4 + 1, none⟩ = some (.int .i64 q.n) ∧ w.cell? ⟨b, o + k * 4 + 2, none⟩ = some (.string q.s) ∧ w.cell? ⟨b, o + k * 4 + 3, none⟩ = some (.string q.t) := hq ▸ h k p hp
theorem getP_err {s : ByteArray} {a : Int} (h : (getP s a).2.2 ≠ 0) : (getP s a).1 = [] := by
  unfold getP at h ⊢
  split
  · rfl
  · rename_i h1
    rw [if_neg h1] at h
    split
    · rfl
    · rename_i h2
      rw [if_neg h2] at h
      simp only at h ⊢
      split
      · rfl
      · rename_i h3
        rw [if_neg h3] at h
        exact absurd rfl h
set_option maxRecDepth 100000 in
set_option maxHeartbeats 8000000 in
theorem pback_core (A : Option Addr) (n cap : Nat) (L : List Pp) (s : ByteArray) (hsz : s.size ≤ 140737488351232) (w : World) (hn : L.length = n) (hc : n ≤ cap) (hcm : cap ≤ maxLen) (h : PRow w A L) (hz : ∀ p ∈ L, p.fits) (hA : (A = none ∧ cap = 0) ∨ ∃ a, A = some a) (hT : Tabs w) :
    Calls Tryd.prog 5 #[.slice A n cap, .string s] w fun e w' => e = .returned (.bool true) ∧ Below w.heap.size w w' := by
  obtain ⟨M, hM⟩ : ∃ M, min n 80 = M := ⟨_, rfl⟩
  have hM80 : M ≤ 80 := by omega
  have CP := Lib.hid (props_any A n cap M L w hn hc hcm h hM hA)
  have hl : (L.take M).length = M := by rw [List.length_take]; omega
  obtain ⟨T, hT'⟩ : ∃ T, L.take M = T := ⟨_, rfl⟩
  have hzT : ∀ p ∈ T, p.fits := by rw [← hT']; exact fits_take hz
  rw [hT'] at CP hl
  have HL := Lib.hid hl
  have HZ := Lib.hid hzT
  have hbd := ppC_bd T
  obtain ⟨c, hcc⟩ : ∃ c, ppC T = c := ⟨_, rfl⟩
  obtain ⟨t, hs⟩ : ∃ s, ppS T = s := ⟨_, rfl⟩
  have CA : ∀ (A1 : Option Addr) (c1 : Nat) (X : World), M ≤ c1 → PRow X A1 T → Tabs X → Calls Tryd.prog 8 #[.slice A1 M c1] X fun e w' => e = .returned (.tuple #[.string t, .int .u8 c]) ∧ Below X.heap.size X w' := fun A1 c1 X h1 hp ht => by rw [← hs, ← hcc]; exact pput_any A1 M c1 T X hl h1 (by omega) hp hzT ht
  rw [hcc] at hbd
  obtain ⟨hb0, hb1⟩ := hbd
  obtain ⟨⟨L2, nx, c2⟩, hg⟩ : ∃ g, getP s 0 = g := ⟨_, rfl⟩
  have hcd := getP_codes s 0
  rw [hg] at hcd
  obtain ⟨⟨hc20, hc21⟩, hl2⟩ := hcd
  change 0 ≤ c2 at hc20
  change c2 ≤ 242 at hc21
  change L2.length ≤ 64 at hl2
  have CG2 : ∀ X : World, Tabs X → Calls Tryd.prog 11 #[.string s, .int .i64 0] X fun e w' => GetPost X w' e (L2, nx, c2) := fun X ht => by rw [← hg]; exact pget_any s 0 X hsz (by decide) (by decide) ht
  have CA := Lib.hid CA
  have CG2 := Lib.hid CG2
  have HT := Lib.hid hT
  have HC := Lib.hid hcc
  have HS := Lib.hid hs
  have HG2 := Lib.hid hg
  clear hn hc hcm h hA hM hl hT' hz hzT hcc hs hT hg
  by_cases h0 : c = 0
  · subst h0
    have hgb : getP t 0 = (T.map nrm, (t.size : Int), 0) := by rw [← HS.out]; exact getP_back HC.out
    have hts : t.size ≤ 140737488351232 := by
      obtain ⟨e1, e2⟩ := pp_ok (L := T) (by intro x; have := (pp_long x).1; rw [HC.out] at this; cases this) (by have h := HC.out; unfold ppC at h; split at h; cases h; exact h)
      rw [← HS.out, e2, ByteArray.size_append, mk_size]
      have := put_small T T.length
      have h64 : ¬ 64 < T.length := by intro x; have := (pp_long x).1; rw [HC.out] at this; cases this
      have := enc_small (putK T T.length).size
      omega
    have CG : ∀ X : World, Tabs X → Calls Tryd.prog 11 #[.string t, .int .i64 0] X fun e w' => GetPost X w' e (T.map nrm, (t.size : Int), 0) := fun X ht => by rw [← hgb]; exact pget_any t 0 X hts (by decide) (by decide) ht
    have CG := Lib.hid CG
    have HLM : Hid (M = (T.map nrm).length) := Lib.hid (by rw [List.length_map]; exact HL.out.symm)
    have htt : ((t.size : Int) != (t.size : Int)) = false := by simp
    clear hgb hts
    go_enter Tryd.func5, Tryd.ntmps5
    go_wp2_with fail
    (with_reducible refine CP.out.mono ?_)
    rintro e w1 ⟨v1, v2, rfl, own1, own2, b1⟩
    obtain ⟨A1, c1, rfl, hc1, r1⟩ := own_prow own1 HL.out.symm
    have B1 := Lib.hid b1
    have R1 := Lib.hid r1
    have HT1 := Lib.hid (HT.out.below b1)
    clear own1 own2 b1 r1
    go_wp2_with fail
    (with_reducible refine (CA.out _ _ _ hc1 R1.out HT1.out).mono ?_)
    rintro e w2 ⟨rfl, b2⟩
    have B2 := Lib.hid (B1.out.trans (b2.mono B1.out.size))
    have R1 := Lib.hid (R1.out.below b2)
    have HT2 := Lib.hid (HT1.out.below b2)
    clear b2
    go_wp2_with fail
    (with_reducible refine (pwakes_any _ HT2.out).mono ?_)
    rintro e w3 ⟨rfl, b3⟩
    have B3 := Lib.hid (B2.out.trans (b3.mono B2.out.size))
    have R1 := Lib.hid (R1.out.below b3)
    have HT3 := Lib.hid (HT2.out.below b3)
    clear b3
    go_wp2_with fail
    (with_reducible refine (CG.out _ HT3.out).mono ?_)
    rintro e w4 ⟨v4, rfl, o4, b4⟩
    have o4' : w4.ownsRow w3.heap.size 39 4 v4 M (flat (T.map nrm)) := by rw [HLM.out]; exact o4
    obtain ⟨A4, c4, rfl, hc4, r4⟩ := own_prow o4' HLM.out
    have B4 := Lib.hid (B3.out.trans (b4.mono B3.out.size))
    have R1 := Lib.hid (R1.out.below b4)
    have R4 := Lib.hid r4
    have HT4 := Lib.hid (HT3.out.below b4)
    clear o4 o4' b4 r4
    go_wp2
    go_loopw [56] (fun i wr => ∃ k : Nat, i = .int .i64 k ∧ k ≤ M ∧ Hid (Below w4.heap.size w4 wr)) (fun i _ => M - (intOf i).toNat)
    case atStart => exact ⟨0, rfl, by omega, Lib.hid (Below.refl _ _)⟩
    case round =>
      obtain ⟨k, rfl, hk, hb⟩ := hrel
      by_cases hlt : k < M
      · obtain ⟨b1, o1, rfl, hl1, hcl1⟩ := (R1.out.below hb.out) (by rw [HL.out]; omega)
        obtain ⟨p, hp⟩ : ∃ p, T[k]? = some p := ⟨_, List.getElem?_eq_getElem (by rw [HL.out]; omega)⟩
        obtain ⟨a0, a1, a2, a3⟩ := hcl1 k p hp
        have hkI : (k : Int) < (M : Int) := by omega
        obtain ⟨b4, o4, rfl, hl4, hcl4⟩ := (R4.out.below hb.out) (by rw [← HLM.out]; omega)
        have HR4 := Lib.hid hcl4
        have HQ : Hid ((T.map nrm)[k]? = some (nrm p)) := Lib.hid (by rw [List.getElem?_map, hp]; rfl)
        have HP := Lib.hid (Blk.new wr (ppA p) 39)
        have BY0 := Lib.hid ((Below.refl wr.heap.size wr).alloc (Nat.le_refl _) (.cells (ppA p) 39))
        have BY := Lib.hid (hb.out.alloc hb.out.size (.cells (ppA p) 39))
        have hY0 : wr.alloc (.cells (ppA p) 39) = wr.alloc (.cells #[.int .i64 p.id, .int .i64 p.n, .string p.s, .string p.t] 39) := rfl
        obtain ⟨Y, hY⟩ : ∃ Y, wr.alloc (.cells (ppA p) 39) = Y := ⟨_, rfl⟩
        rw [hY] at HP BY0 BY hY0
        have HY := Lib.hid hY0.symm
        have hPB : w4.heap.size ≤ wr.heap.size := hb.out.size
        have g0 := HP.out.cell 0
        have g1 := HP.out.cell 1
        have g2 := HP.out.cell 2
        have g3 := HP.out.cell 3
        simp only [ppA, List.getElem?_toArray, List.getElem?_cons_zero, List.getElem?_cons_succ] at g0 g1 g2 g3
        have f1 := HP.out.frozen 1
        have f2 := HP.out.frozen 2
        have f3 := HP.out.frozen 3
        obtain ⟨kd, hkd⟩ : ∃ kd, kindOf p.id = kd := ⟨_, rfl⟩
        have CK : ∀ X : World, Calls Tryd.prog 14 #[.int .i64 p.id] X fun e w' => e = .returned (.int .i64 kd) ∧ X = w' := fun X => by rw [← hkd]; exact kind_any p.id X
        have CK := Lib.hid CK
        have HKD := Lib.hid hkd
        clear hkd hcl1 hcl4 hp hY hY0
        by_cases h5 : kd = 5
        · subst h5
          have hq : nrm p = ⟨p.id, 0, p.s, ⟨#[]⟩⟩ := nrm_5 HKD.out
          have HNR := Lib.hid hq
          obtain ⟨x0, x1, x2, x3⟩ := S4b_of HR4.out HQ.out hq
          clear hq
          go_wp2_with fail
          rw [HY.out]
          (with_reducible refine (CK.out _).mono ?_)
          rintro e w5 ⟨rfl, rfl⟩
          go_wp2_with fail
          have HZ4 := Lib.hid ((HP.out.set 1 (.int .i64 0)).set 3 (.string ⟨#[]⟩))
          have BZ := Lib.hid ((BY.out.setCell (p := ⟨wr.heap.size, 1, none⟩) hPB (.int .i64 0)).setCell (p := ⟨wr.heap.size, 3, none⟩) hPB (.string ⟨#[]⟩))
          have BZ0 := Lib.hid ((BY0.out.setCell (p := ⟨wr.heap.size, 1, none⟩) (Nat.le_refl _) (.int .i64 0)).setCell (p := ⟨wr.heap.size, 3, none⟩) (Nat.le_refl _) (.string ⟨#[]⟩))
          obtain ⟨Z, hZ⟩ : ∃ Z, (Y.setCell ⟨wr.heap.size, 1, none⟩ (.int .i64 0)).setCell ⟨wr.heap.size, 3, none⟩ (.string ⟨#[]⟩) = Z := ⟨_, rfl⟩
          rw [hZ] at HZ4 BZ BZ0 ⊢
          clear hZ
          have y0 := HZ4.out.cell 0
          have y1 := HZ4.out.cell 1
          have y2 := HZ4.out.cell 2
          have y3 := HZ4.out.cell 3
          simp [ppA] at y0 y1 y2 y3
          have z0 := (BZ0.out.cell (p := ⟨b4, o4 + k * 4, none⟩) hl4).trans x0
          have z1 := (BZ0.out.cell (p := ⟨b4, o4 + k * 4 + 1, none⟩) hl4).trans x1
          have z2 := (BZ0.out.cell (p := ⟨b4, o4 + k * 4 + 2, none⟩) hl4).trans x2
          have z3 := (BZ0.out.cell (p := ⟨b4, o4 + k * 4 + 3, none⟩) hl4).trans x3
          have u1 : (p.s.toList == p.s.toList) = true := by simp
          have u2 : (p.t.toList == p.t.toList) = true := by simp
          clear x0 x1 x2 x3 g0 g1 g2 g3 f1 f2 f3 a0 a1 a2 a3
          go_quiet (fail)
          go_wp2
          go_roundw
          case rel => exact ⟨k + 1, by go_num, by omega, Lib.hid ⟨BZ.out.os, BZ.out.tape, BZ.out.output, BZ.out.size, BZ.out.block⟩⟩
          case measure => simp [intOf]; omega
        · by_cases h6 : kd = 6
          · subst h6
            have hq : nrm p = ⟨p.id, 0, p.s, ⟨#[]⟩⟩ := nrm_6 HKD.out
            have HNR := Lib.hid hq
            obtain ⟨x0, x1, x2, x3⟩ := S4b_of HR4.out HQ.out hq
            clear hq
            go_wp2_with fail
            rw [HY.out]
            (with_reducible refine (CK.out _).mono ?_)
            rintro e w5 ⟨rfl, rfl⟩
            go_wp2_with fail
            have HZ4 := Lib.hid ((HP.out.set 1 (.int .i64 0)).set 3 (.string ⟨#[]⟩))
            have BZ := Lib.hid ((BY.out.setCell (p := ⟨wr.heap.size, 1, none⟩) hPB (.int .i64 0)).setCell (p := ⟨wr.heap.size, 3, none⟩) hPB (.string ⟨#[]⟩))
            have BZ0 := Lib.hid ((BY0.out.setCell (p := ⟨wr.heap.size, 1, none⟩) (Nat.le_refl _) (.int .i64 0)).setCell (p := ⟨wr.heap.size, 3, none⟩) (Nat.le_refl _) (.string ⟨#[]⟩))
            obtain ⟨Z, hZ⟩ : ∃ Z, (Y.setCell ⟨wr.heap.size, 1, none⟩ (.int .i64 0)).setCell ⟨wr.heap.size, 3, none⟩ (.string ⟨#[]⟩) = Z := ⟨_, rfl⟩
            rw [hZ] at HZ4 BZ BZ0 ⊢
            clear hZ
            have y0 := HZ4.out.cell 0
            have y1 := HZ4.out.cell 1
            have y2 := HZ4.out.cell 2
            have y3 := HZ4.out.cell 3
            simp [ppA] at y0 y1 y2 y3
            have z0 := (BZ0.out.cell (p := ⟨b4, o4 + k * 4, none⟩) hl4).trans x0
            have z1 := (BZ0.out.cell (p := ⟨b4, o4 + k * 4 + 1, none⟩) hl4).trans x1
            have z2 := (BZ0.out.cell (p := ⟨b4, o4 + k * 4 + 2, none⟩) hl4).trans x2
            have z3 := (BZ0.out.cell (p := ⟨b4, o4 + k * 4 + 3, none⟩) hl4).trans x3
            have u1 : (p.s.toList == p.s.toList) = true := by simp
            have u2 : (p.t.toList == p.t.toList) = true := by simp
            clear x0 x1 x2 x3 g0 g1 g2 g3 f1 f2 f3 a0 a1 a2 a3
            go_quiet (fail)
            go_wp2
            go_roundw
            case rel => exact ⟨k + 1, by go_num, by omega, Lib.hid ⟨BZ.out.os, BZ.out.tape, BZ.out.output, BZ.out.size, BZ.out.block⟩⟩
            case measure => simp [intOf]; omega
          · by_cases h7 : kd = 7
            · subst h7
              have hq : nrm p = ⟨p.id, 0, p.s, p.t⟩ := nrm_7 HKD.out
              have HNR := Lib.hid hq
              obtain ⟨x0, x1, x2, x3⟩ := S4b_of HR4.out HQ.out hq
              clear hq
              go_wp2_with fail
              rw [HY.out]
              (with_reducible refine (CK.out _).mono ?_)
              rintro e w5 ⟨rfl, rfl⟩
              go_wp2_with fail
              have HZ4 := Lib.hid (HP.out.set 1 (.int .i64 0))
              have BZ := Lib.hid (BY.out.setCell (p := ⟨wr.heap.size, 1, none⟩) hPB (.int .i64 0))
              have BZ0 := Lib.hid (BY0.out.setCell (p := ⟨wr.heap.size, 1, none⟩) (Nat.le_refl _) (.int .i64 0))
              obtain ⟨Z, hZ⟩ : ∃ Z, Y.setCell ⟨wr.heap.size, 1, none⟩ (.int .i64 0) = Z := ⟨_, rfl⟩
              rw [hZ] at HZ4 BZ BZ0 ⊢
              clear hZ
              have y0 := HZ4.out.cell 0
              have y1 := HZ4.out.cell 1
              have y2 := HZ4.out.cell 2
              have y3 := HZ4.out.cell 3
              simp [ppA] at y0 y1 y2 y3
              have z0 := (BZ0.out.cell (p := ⟨b4, o4 + k * 4, none⟩) hl4).trans x0
              have z1 := (BZ0.out.cell (p := ⟨b4, o4 + k * 4 + 1, none⟩) hl4).trans x1
              have z2 := (BZ0.out.cell (p := ⟨b4, o4 + k * 4 + 2, none⟩) hl4).trans x2
              have z3 := (BZ0.out.cell (p := ⟨b4, o4 + k * 4 + 3, none⟩) hl4).trans x3
              have u1 : (p.s.toList == p.s.toList) = true := by simp
              have u2 : (p.t.toList == p.t.toList) = true := by simp
              clear x0 x1 x2 x3 g0 g1 g2 g3 f1 f2 f3 a0 a1 a2 a3
              go_quiet (fail)
              go_wp2
              go_roundw
              case rel => exact ⟨k + 1, by go_num, by omega, Lib.hid ⟨BZ.out.os, BZ.out.tape, BZ.out.output, BZ.out.size, BZ.out.block⟩⟩
              case measure => simp [intOf]; omega
            · have e5 : (kd == 5) = false := beq_eq_false_iff_ne.2 h5
              have e6 : (kd == 6) = false := beq_eq_false_iff_ne.2 h6
              have e7 : (kd == 7) = false := beq_eq_false_iff_ne.2 h7
              have HKN : Hid (¬ kd = 5 ∧ ¬ kd = 6 ∧ ¬ kd = 7) := Lib.hid ⟨h5, h6, h7⟩
              clear h5 h6 h7
              have hq : nrm p = ⟨p.id, p.n, ⟨#[]⟩, ⟨#[]⟩⟩ := nrm_d HKD.out HKN.out
              have HNR := Lib.hid hq
              obtain ⟨x0, x1, x2, x3⟩ := S4b_of HR4.out HQ.out hq
              clear hq
              go_wp2_with fail
              rw [HY.out]
              (with_reducible refine (CK.out _).mono ?_)
              rintro e w5 ⟨rfl, rfl⟩
              go_wp2_with fail
              have HZ4 := Lib.hid ((HP.out.set 2 (.string ⟨#[]⟩)).set 3 (.string ⟨#[]⟩))
              have BZ := Lib.hid ((BY.out.setCell (p := ⟨wr.heap.size, 2, none⟩) hPB (.string ⟨#[]⟩)).setCell (p := ⟨wr.heap.size, 3, none⟩) hPB (.string ⟨#[]⟩))
              have BZ0 := Lib.hid ((BY0.out.setCell (p := ⟨wr.heap.size, 2, none⟩) (Nat.le_refl _) (.string ⟨#[]⟩)).setCell (p := ⟨wr.heap.size, 3, none⟩) (Nat.le_refl _) (.string ⟨#[]⟩))
              obtain ⟨Z, hZ⟩ : ∃ Z, (Y.setCell ⟨wr.heap.size, 2, none⟩ (.string ⟨#[]⟩)).setCell ⟨wr.heap.size, 3, none⟩ (.string ⟨#[]⟩) = Z := ⟨_, rfl⟩
              rw [hZ] at HZ4 BZ BZ0 ⊢
              clear hZ
              have y0 := HZ4.out.cell 0
              have y1 := HZ4.out.cell 1
              have y2 := HZ4.out.cell 2
              have y3 := HZ4.out.cell 3
              simp [ppA] at y0 y1 y2 y3
              have z0 := (BZ0.out.cell (p := ⟨b4, o4 + k * 4, none⟩) hl4).trans x0
              have z1 := (BZ0.out.cell (p := ⟨b4, o4 + k * 4 + 1, none⟩) hl4).trans x1
              have z2 := (BZ0.out.cell (p := ⟨b4, o4 + k * 4 + 2, none⟩) hl4).trans x2
              have z3 := (BZ0.out.cell (p := ⟨b4, o4 + k * 4 + 3, none⟩) hl4).trans x3
              have u1 : (p.s.toList == p.s.toList) = true := by simp
              have u2 : (p.t.toList == p.t.toList) = true := by simp
              clear x0 x1 x2 x3 g0 g1 g2 g3 f1 f2 f3 a0 a1 a2 a3
              go_quiet (fail)
              go_wp2
              go_roundw
              case rel => exact ⟨k + 1, by go_num, by omega, Lib.hid ⟨BZ.out.os, BZ.out.tape, BZ.out.output, BZ.out.size, BZ.out.block⟩⟩
              case measure => simp [intOf]; omega
      · obtain rfl : k = M := by omega
        have BE := Lib.hid (B4.out.trans (hb.out.mono B4.out.size))
        go_wp2_with fail
        (with_reducible refine (CG2.out _ (HT.out.below BE.out)).mono ?_)
        rintro e w8 ⟨v8, rfl, o8, b8⟩
        obtain ⟨A8, c8, rfl, hc8, r8⟩ := own_prow o8 rfl
        have B8 := Lib.hid (Below.trans BE.out (b8.mono (Below.size BE.out)))
        have R8 := Lib.hid r8
        clear o8 b8 r8
        by_cases h20 : c2 = 0
        · subst h20
          obtain ⟨q1, ⟨k2, rfl, hk2, q2⟩, q3, q4⟩ := back_getP HG2.out
          clear q4
          have CB0 : ∀ (A1 : Option Addr) (c1 : Nat) (X : World), L2.length ≤ c1 → PRow X A1 L2 → Tabs X → Calls Tryd.prog 8 #[.slice A1 L2.length c1] X fun e w' => e = .returned (.tuple #[.string (s.extract 0 k2), .int .u8 0]) ∧ Below X.heap.size X w' := fun A1 c1 X h1 hp ht => by rw [q2, ← q1]; exact pput_any A1 L2.length c1 L2 X rfl h1 (by omega) hp q3 ht
          have CB0 := Lib.hid CB0
          have hk2I : (k2 : Int) ≤ (s.size : Int) := by omega
          have hx : ((s.extract 0 k2).toList == (s.extract 0 k2).toList) = true := by simp
          clear q1 q2 q3
          have CB := CB0.out A8 c8 w8 hc8 R8.out (HT.out.below B8.out)
          have CB := Lib.hid CB
          go_wp2_with fail
          (with_reducible refine CB.out.mono ?_)
          rintro e w9 ⟨rfl, b9⟩
          go_wp2
          go_ret
          exact ⟨rfl, B8.out.trans (b9.mono B8.out.size)⟩
        · have e20 : (c2 == 0) = false := beq_eq_false_iff_ne.2 h20
          have e21 : (c2 != 0) = true := by rw [bne, e20]; rfl
          have hL2 : L2 = [] := by
            have := getP_err (s := s) (a := 0) (by rw [HG2.out]; exact h20)
            rw [HG2.out] at this
            exact this
          subst hL2
          clear h20
          go_wp2
          go_ret
          exact ⟨rfl, B8.out⟩
  · have e0 : (c == 0) = false := beq_eq_false_iff_ne.2 h0
    clear h0
    go_enter Tryd.func5, Tryd.ntmps5
    go_wp2_with fail
    (with_reducible refine CP.out.mono ?_)
    rintro e w1 ⟨v1, v2, rfl, own1, own2, b1⟩
    obtain ⟨A1, c1, rfl, hc1, r1⟩ := own_prow own1 HL.out.symm
    have B1 := Lib.hid b1
    have R1 := Lib.hid r1
    have HT1 := Lib.hid (HT.out.below b1)
    clear own1 own2 b1 r1
    go_wp2_with fail
    (with_reducible refine (CA.out _ _ _ hc1 R1.out HT1.out).mono ?_)
    rintro e w2 ⟨rfl, b2⟩
    have B2 := Lib.hid (B1.out.trans (b2.mono B1.out.size))
    have R1 := Lib.hid (R1.out.below b2)
    have HT2 := Lib.hid (HT1.out.below b2)
    clear b2
    go_wp2_with fail
    (with_reducible refine (pwakes_any _ HT2.out).mono ?_)
    rintro e w3 ⟨rfl, b3⟩
    have B3 := Lib.hid (B2.out.trans (b3.mono B2.out.size))
    have R1 := Lib.hid (R1.out.below b3)
    have HT3 := Lib.hid (HT2.out.below b3)
    clear b3
    go_wp2_with fail
    (with_reducible refine (CG2.out _ HT3.out).mono ?_)
    rintro e w8 ⟨v8, rfl, o8, b8⟩
    obtain ⟨A8, c8, rfl, hc8, r8⟩ := own_prow o8 rfl
    have B8 := Lib.hid (Below.trans B3.out (b8.mono (Below.size B3.out)))
    have R8 := Lib.hid r8
    clear o8 b8 r8
    by_cases h20 : c2 = 0
    · subst h20
      obtain ⟨q1, ⟨k2, rfl, hk2, q2⟩, q3, q4⟩ := back_getP HG2.out
      clear q4
      have CB0 : ∀ (A1 : Option Addr) (c1 : Nat) (X : World), L2.length ≤ c1 → PRow X A1 L2 → Tabs X → Calls Tryd.prog 8 #[.slice A1 L2.length c1] X fun e w' => e = .returned (.tuple #[.string (s.extract 0 k2), .int .u8 0]) ∧ Below X.heap.size X w' := fun A1 c1 X h1 hp ht => by rw [q2, ← q1]; exact pput_any A1 L2.length c1 L2 X rfl h1 (by omega) hp q3 ht
      have CB0 := Lib.hid CB0
      have hk2I : (k2 : Int) ≤ (s.size : Int) := by omega
      have hx : ((s.extract 0 k2).toList == (s.extract 0 k2).toList) = true := by simp
      clear q1 q2 q3
      have CB := CB0.out A8 c8 w8 hc8 R8.out (HT.out.below B8.out)
      have CB := Lib.hid CB
      go_wp2_with fail
      (with_reducible refine CB.out.mono ?_)
      rintro e w9 ⟨rfl, b9⟩
      go_wp2
      go_ret
      exact ⟨rfl, B8.out.trans (b9.mono B8.out.size)⟩
    · have e20 : (c2 == 0) = false := beq_eq_false_iff_ne.2 h20
      have e21 : (c2 != 0) = true := by rw [bne, e20]; rfl
      have hL2 : L2 = [] := by
        have := getP_err (s := s) (a := 0) (by rw [HG2.out]; exact h20)
        rw [HG2.out] at this
        exact this
      subst hL2
      clear h20
      go_wp2
      go_ret
      exact ⟨rfl, B8.out⟩
theorem propBack_walk (v : Value) (L : List Pp) (s : ByteArray) (hs : s.size ≤ 140737488351232) (w : World) (h : SPropZ w v L) (hT : Tabs w) :
    Calls Tryd.prog 5 #[v, .string s] w fun e w' => e = .returned (.bool true) ∧ Below w.heap.size w w' := by
  rcases h with ⟨⟨rfl, rfl⟩ | ⟨a, cap, rfl, h1, h2, h3⟩, hz⟩
  · exact pback_core none 0 0 [] s hs w rfl (Nat.le_refl _) (by decide) (fun hp => absurd hp (by simp)) hz (.inl ⟨rfl, rfl⟩) hT
  · exact pback_core (some a) L.length cap L s hs w rfl h1 h2 h3 hz (.inr ⟨a, rfl⟩) hT
end Go.Proofs.YtifbkfkieppacaaDoor
