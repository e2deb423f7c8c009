/- The walk of prop.Get. -/
import Derived.Test.YtifbkfkieppacaaDoorPRValue
import Derived.BigQuiet
import Derived.Deep.QuietTactic
namespace Go.Proofs.YtifbkfkieppacaaDoor
set_option linter.unusedVariables false
open Go.RowKit Pl

/-- How many elements a slice has. -/
def lenOf : Value → Nat | .slice _ n _ => n | _ => 0
def GetPost (w w' : World) (e : Ending) (G : List Pp × Int × Int) : Prop := ∃ v, e = .returned (.tuple #[v, .int .i64 G.2.1, .int .u8 G.2.2]) ∧ w'.ownsRow w.heap.size 39 4 v G.1.length (flat G.1) ∧ Below w.heap.size w w'
theorem own_row {w : World} {base n cap : Nat} {e : TypeId} {A : Option Addr} {L : List Pp} (h : w.ownsRow base e 4 (.slice A n cap) n (flat L)) (hm : n = L.length) : PRow w A L := by
  obtain ⟨A', cap', he, _, r⟩ := own_prow h hm
  injection he with h1
  subst h1
  exact r
set_option maxRecDepth 100000 in
set_option maxHeartbeats 4000000 in
theorem pget_any (s : ByteArray) (at_ : Int) (w : World) (hs : s.size ≤ 140737488351232) (h0 : -9223372036854775808 ≤ at_) (h1 : at_ ≤ 9223372036854775807) (hT : Tabs w) :
    Calls Tryd.prog 11 #[.string s, .int .i64 at_] w fun e w' => GetPost w w' e (getP s at_) := by
  obtain ⟨⟨n, from_, c⟩, hg⟩ : ∃ g, getV s at_ = g := ⟨_, rfl⟩
  have CG := get_all s at_ w hs h0 h1
  rw [hg] at CG
  have CG := Lib.hid CG
  have HG := Lib.hid hg
  clear hg h0 h1
  by_cases hc : c = 0
  · subst hc
    obtain ⟨i, j, rfl, rfl, hij, hj, _, hn0, hn1⟩ := getV_to HG.out
    obtain ⟨m, rfl⟩ := Int.eq_ofNat_of_zero_le hn0
    by_cases hlt : (s.size : Int) - j < m
    · have HV : Hid (getP s i = ([], 0, 242)) := Lib.hid (getP_none HG.out hlt)
      clear hij
      go_enter Tryd.func11, Tryd.ntmps11
      go_wp2_with fail
      refine CG.out.mono ?_
      rintro e w1 ⟨rfl, rfl⟩
      go_wp2
      go_ret3
      rw [HV.out]
      exact ⟨_, rfl, World.ownsRow_nil _ _ _ _, Below.refl _ _⟩
    · have hm : j + m ≤ s.size := by omega
      obtain ⟨sub, hsub⟩ : ∃ sub, s.extract j (j + m) = sub := ⟨_, rfl⟩
      have hss : sub.size = m := by rw [← hsub]; simp; omega
      have HSUB := Lib.hid hsub
      have hd0 : decide ((s.size : Int) - j < m) = false := by simpa using hlt
      go_enter Tryd.func11, Tryd.ntmps11
      go_wp2_with fail
      refine CG.out.mono ?_
      rintro e w1 ⟨rfl, rfl⟩
      have b0 : Below w.heap.size w (w.alloc (.cells (rdA sub 0 false) 69)) := (Below.refl _ _).alloc (Nat.le_refl _) _
      have hR0 : Blk (w.alloc (.cells (rdA sub 0 false) 69)) w.heap.size (rdA sub 0 false) 69 := Blk.new _ _ _
      have HB0 := Lib.hid b0
      have HR0 := Lib.hid hR0
      have HTT := Lib.hid hT
      clear b0 hR0 hT hij
      obtain ⟨i0, hi, hz0, hz1, hz2⟩ := info_parts info_p1
      go_wp2
      go_loopw [11] (fun v wr => ∃ (L : List Pp) (k f : Nat), Hid (f + L.length = 66) ∧ L.length ≤ 64 ∧ k ≤ m ∧ Hid (pgs sub f L k = pgs sub 66 [] 0) ∧ Hid (wr.ownsRow w.heap.size 39 4 v L.length (flat L)) ∧ Hid (Blk wr w.heap.size (rdA sub k false) 69) ∧ Hid (Below w.heap.size w wr)) (fun v _ => 66 - lenOf v)
      case atStart => exact ⟨[], 0, 66, Lib.hid rfl, by decide, by omega, Lib.hid rfl, Lib.hid (World.ownsRow_nil _ _ _ _), HR0, HB0⟩
      case round =>
        obtain ⟨L, k, f, hf, hL, hk, hpg, hown, hblk, hb⟩ := hrel
        obtain ⟨A, cap, rfl, hcap, hrow⟩ := own_prow hown.out rfl
        have HROW := Lib.hid hrow
        have r0 := hblk.out.cell 0
        have r1 := hblk.out.cell 1
        simp only [rdA, List.getElem?_toArray, List.getElem?_cons_zero, List.getElem?_cons_succ] at r0 r1
        clear hrow hsub
        have HF := hf
        obtain ⟨f', rfl⟩ : ∃ f', f = f' + 1 := ⟨f - 1, by have := hf.out; omega⟩
        have HNE := own_ne hown.out hblk.out (by decide)
        by_cases hkm : k < m
        · have hkB : decide (k < m) = true := by simpa using hkm
          have HK := Lib.hid (show ¬ (sub.size : Int) ≤ k by omega)
          by_cases h64 : 64 ≤ L.length
          · have h64I : (64 : Int) ≤ (L.length : Int) := by omega
            have HV : Hid (getP s i = ([], 0, 149)) := Lib.hid (getP_bad HG.out hm (by rw [HSUB.out, ← hpg.out]; exact pgs_full (by have := HK.out; omega) h64) (by decide))
            go_wp2_with fail
            go_quiet (fail)
            go_wp2
            go_ret3
            rw [HV.out]
            exact ⟨_, rfl, World.ownsRow_nil _ _ _ _, hb.out.os, hb.out.tape, hb.out.output, hb.out.size, hb.out.block⟩
          · have h64I : ¬ (64 : Int) ≤ (L.length : Int) := by omega
            have H64 := Lib.hid h64
            obtain ⟨⟨id, nx, d⟩, hg2⟩ : ∃ g, getV sub k = g := ⟨_, rfl⟩
            have CNA : ∀ X : World, Blk X w.heap.size (rdA sub k false) 69 → _ := fun X hX => number_any 25 #[] w.heap.size sub k id nx d X hX (enters_of Tryd.func25 (by kernel_rfl) rfl) (fun Y hY => by
              have h := to_below (get_all sub k Y (by omega) (by omega) (by omega))
              rw [hg2] at h
              exact h)
            have HG2 := Lib.hid hg2
            have CNA := Lib.hid CNA
            clear hg2
            go_wp2_with fail
            go_quiet (fail)
            have xb : Blk (wr.drewN nq) w.heap.size (rdA sub k false) 69 := hblk.out
            have xo : (wr.drewN nq).ownsRow w.heap.size 39 4 (.slice A L.length cap) L.length (flat L) := hown.out
            have xw : Below w.heap.size w (wr.drewN nq) := ⟨hb.out.os, hb.out.tape, hb.out.output, hb.out.size, hb.out.block⟩
            obtain ⟨X, hX⟩ : ∃ X, wr.drewN nq = X := ⟨_, rfl⟩
            rw [hX] at xb xo xw ⊢
            have XB := Lib.hid xb
            have XO := Lib.hid xo
            have XW := Lib.hid xw
            have CN := CNA.out X xb
            clear hX xb xo xw r0 r1
            by_cases hd : d = 0
            · subst hd
              rw [if_pos rfl, if_pos rfl, show ((0 : Int) != 0) = false from rfl] at CN
              have CN := Lib.hid CN
              go_wp2_with fail
              refine CN.out.mono ?_
              rintro e w2 ⟨rfl, b2, m2⟩
              have HW2 := Lib.hid (XW.out.trans (m2.below XW.out.size (fun k e => by omega)))
              have HO2 := Lib.hid (own_mod XO.out m2 (fun g e c => HNE (e.trans (by rw [c]))))
              have HQ0 := Lib.hid (Blk.new w2 (ppA ⟨id, 0, noS, noS⟩) 39)
              have HR2 := Lib.hid (b2.alloc (.cells (ppA ⟨id, 0, noS, noS⟩) 39))
              have HO3 := Lib.hid (HO2.out.alloc (.cells (ppA ⟨id, 0, noS, noS⟩) 39))
              have HW3 := Lib.hid (HW2.out.alloc HW2.out.size (.cells (ppA ⟨id, 0, noS, noS⟩) 39))
              have hlt2 := b2.lt
              have hY0 : w2.alloc (.cells (ppA ⟨id, 0, noS, noS⟩) 39) = w2.alloc (.cells #[.int .i64 id, .int .i64 0, .string ⟨#[]⟩, .string ⟨#[]⟩] 39) := rfl
              obtain ⟨Y, hY⟩ : ∃ Y, w2.alloc (.cells (ppA ⟨id, 0, noS, noS⟩) 39) = Y := ⟨_, rfl⟩
              rw [hY] at HQ0 HR2 HO3 HW3 hY0
              have HY := Lib.hid hY0.symm
              have r2 := b2.cell 2
              have q0 := HQ0.out.cell 0
              simp only [rdA, ppA, List.getElem?_toArray, List.getElem?_cons_zero, List.getElem?_cons_succ] at r2 q0
              obtain ⟨i', j', ei', rfl, hij', hj', _, hn0', hn1'⟩ := getV_to HG2.out
              obtain rfl : k = i' := by omega
              clear ei'
              have HQR : Hid (w.heap.size ≠ w2.heap.size) := Lib.hid (by omega)
              clear b2 m2 hY hY0
              obtain ⟨kd, hkd⟩ : ∃ kd, kindOf id = kd := ⟨_, rfl⟩
              have CK : ∀ X : World, Calls Tryd.prog 14 #[.int .i64 id] X fun e w' => e = .returned (.int .i64 kd) ∧ X = w' := fun X => by rw [← hkd]; exact kind_any id X
              have CK := Lib.hid CK
              have HKD := Lib.hid hkd
              clear hkd
              by_cases h0 : kd = 0
              · subst h0
                have HV : Hid (getP s i = ([], 0, 129)) := Lib.hid (getP_bad HG.out hm (by rw [HSUB.out, ← hpg.out]; exact pgs_bad (by have := HK.out; omega) (by have := H64.out; omega) HG2.out (.inr HKD.out)) (by decide))
                go_wp2_with fail
                rw [HY.out]
                refine (CK.out _).mono ?_
                rintro e w3 ⟨rfl, rfl⟩
                go_wp2
                go_ret3
                rw [HV.out]
                exact ⟨_, rfl, World.ownsRow_nil _ _ _ _, HW3.out⟩
              · have e0 : (kd == 0) = false := by rw [beq_eq_false_iff_ne]; exact h0
                go_wp2_with fail
                rw [HY.out]
                refine (CK.out _).mono ?_
                rintro e w3 ⟨rfl, rfl⟩
                have hrow := own_row HO3.out rfl
                have CH := has_any A L.length cap L id Y rfl (by omega) hrow
                change Calls _ _ _ _ (fun e w' => e = .returned (.bool (dupL L id)) ∧ Below Y.heap.size Y w') at CH
                obtain ⟨dp, hdp⟩ : ∃ dp, dupL L id = dp := ⟨_, rfl⟩
                rw [hdp] at CH
                have CH := Lib.hid CH
                have HDP := Lib.hid hdp
                have H0 := Lib.hid h0
                clear hdp hrow
                cases dp
                · go_wp2_with fail
                  refine CH.out.mono ?_
                  rintro e w4 ⟨rfl, b4⟩
                  have HR4 := Lib.hid (HR2.out.of_below b4)
                  have HQ4 := Lib.hid (HQ0.out.of_below b4)
                  have HO4 := Lib.hid (own_mod HO3.out (Mod.of_below (S := fun _ => False) b4) (fun _ _ c => c))
                  have HW4 := Lib.hid (HW3.out.trans (b4.mono HW3.out.size))
                  clear b4
                  have CV := prvalue_any w.heap.size w2.heap.size sub j' id w4 (by omega) (by omega) (by omega) HR4.out HQ4.out HQR.out (NoTab.new HTT.out (Nat.le_refl _)) (NoTab.new HTT.out (by omega)) (HTT.out.below HW4.out)
                  have HNE4 := Lib.hid (own_ne HO4.out HR4.out (by decide))
                  obtain ⟨rv, hrv⟩ : ∃ rv, rdv sub id j' = rv := ⟨_, rfl⟩
                  rw [hrv] at CV
                  have CV := Lib.hid CV
                  have HRV := Lib.hid hrv
                  clear hrv
                  cases rv with
                  | none =>
                    have HV : Hid (getP s i = ([], 0, 129)) := Lib.hid (getP_bad HG.out hm (by rw [HSUB.out, ← hpg.out, pgs_rd (by have := HK.out; omega) (by have := H64.out; omega) HG2.out (by rw [HKD.out]; exact H0.out) HDP.out, HRV.out]) (by decide))
                    go_wp2_with fail
                    refine CV.out.mono ?_
                    rintro e w5 ⟨rfl, ⟨a5, b5⟩, _, m5⟩
                    have r5 := b5.cell 2
                    simp only [rdA, List.getElem?_toArray, List.getElem?_cons_zero, List.getElem?_cons_succ] at r5
                    have HW5 := Lib.hid (HW4.out.trans (m5.below HW4.out.size (fun k e => by rcases e with e | e <;> omega)))
                    clear b5 m5
                    go_wp2
                    go_ret3
                    rw [HV.out]
                    exact ⟨_, rfl, World.ownsRow_nil _ _ _ _, HW5.out⟩
                  | some pt =>
                    obtain ⟨p, to⟩ := pt
                    obtain ⟨ia, ja, ea, rfl, hij2, hj2, epid⟩ := rdv_to HRV.out
                    have hPG : Hid (pgs sub f' (L ++ [p]) ja = pgs sub 66 [] 0) := Lib.hid (by rw [← hpg.out, pgs_rd (by have := HK.out; omega) (by have := H64.out; omega) HG2.out (by rw [HKD.out]; exact H0.out) HDP.out, HRV.out])
                    clear ea epid
                    go_wp2_with fail
                    refine CV.out.mono ?_
                    rintro e w5 ⟨rfl, b5, q5, m5⟩
                    have r5 := b5.cell 2
                    have s0 := q5.cell 0
                    have s1 := q5.cell 1
                    have s2 := q5.cell 2
                    have s3 := q5.cell 3
                    simp only [rdA, ppA, List.getElem?_toArray, List.getElem?_cons_zero, List.getElem?_cons_succ] at r5 s0 s1 s2 s3
                    have HW5 := Lib.hid (HW4.out.trans (m5.below HW4.out.size (fun k e => by rcases e with e | e <;> omega)))
                    have hNR : ∀ g, (Value.slice A L.length cap).ownBlock = some g → ¬ (g = w.heap.size ∨ g = w2.heap.size) := fun g e c => by
                      rcases c with c | c
                      · exact HNE4.out (e.trans (by rw [c]))
                      · have := (HO2.out.lt g e).2
                        omega
                    have HO5 := Lib.hid ((own_mod HO4.out m5 hNR).alloc (.cells (ppA p) 39))
                    have HB5 := Lib.hid (Blk.new w5 (ppA p) 39)
                    have HR5 := Lib.hid (b5.alloc (.cells (ppA p) 39))
                    have HW6 := Lib.hid (HW5.out.alloc HW5.out.size (.cells (ppA p) 39))
                    have hB6 := HW6.out.size
                    have HNR := Lib.hid hNR
                    have h6b : (L.length + 1) * 48 ≤ 140737488355328 := by omega
                    clear b5 q5 m5 hNR
                    go_wp2_with (at_builtin; go_loud (refine wpList_pushB (.tmp 77) (.tmp 79) 23 39 i0 _ 4 48 w5.heap.size (ppA p) rfl rfl Tryd.underlying23 hi hz0 hz1 hz2 rfl (by decide) rfl (by intro u hu; simp [ppA] at hu; rcases hu with rfl | rfl | rfl | rfl <;> rfl) w.heap.size _ L.length (flat L) rfl rfl HO5.out HB5.out hB6 (by unfold maxLen; omega) h6b ?_; intro v' w6 own6 hg6))
                    have HO6 := Lib.hid own6
                    have HR6 := Lib.hid (HR5.out.grown hg6 (fun e => HNR.out _ e (.inl rfl)))
                    have HW7 := Lib.hid (HW6.out.grown hg6 HW6.out.size (fun g e => (HO5.out.lt g e).1))
                    obtain ⟨A', cap', rfl, _, _⟩ := own_prow (L := L ++ [p]) (by rw [← flat_snoc]; exact own6) (by simp)
                    clear own6 hg6
                    go_roundw
                    case rel => exact ⟨L ++ [p], ja, f', Lib.hid (by have := hf.out; simp; omega), by simp; omega, by omega, hPG, Lib.hid (by rw [← flat_snoc, List.length_append]; exact HO6.out), HR6, HW7⟩
                    case measure => simp [lenOf]; omega
                · have HV : Hid (getP s i = ([], 0, 130)) := Lib.hid (getP_bad HG.out hm (by rw [HSUB.out, ← hpg.out]; exact pgs_dup (by have := HK.out; omega) (by have := H64.out; omega) HG2.out (by rw [HKD.out]; exact H0.out) HDP.out) (by decide))
                  go_wp2_with fail
                  refine CH.out.mono ?_
                  rintro e w4 ⟨rfl, b4⟩
                  go_wp2
                  go_ret3
                  rw [HV.out]
                  exact ⟨_, rfl, World.ownsRow_nil _ _ _ _, HW3.out.trans (b4.mono HW3.out.size)⟩
            · have e1 : (d != 0) = true := by rw [bne, beq_eq_false_iff_ne.2 hd]; rfl
              rw [if_neg hd, if_neg hd, e1] at CN
              have CN := Lib.hid CN
              have HV : Hid (getP s i = ([], 0, 129)) := Lib.hid (getP_bad HG.out hm (by rw [HSUB.out, ← hpg.out]; exact pgs_bad (by have := HK.out; omega) (by have := H64.out; omega) HG2.out (.inl hd)) (by decide))
              clear e1
              go_wp2_with fail
              refine CN.out.mono ?_
              rintro e w2 ⟨rfl, b2, m2⟩
              have r2 := b2.cell 2
              have hlt2 := b2.lt
              simp only [rdA, List.getElem?_toArray, List.getElem?_cons_zero, List.getElem?_cons_succ] at r2
              have B3 := Lib.hid ((XW.out.trans (m2.below XW.out.size (fun k e => by omega))).alloc (Nat.le_trans XW.out.size m2.size) (.cells (ppA ⟨0, 0, noS, noS⟩) 39))
              clear b2 m2
              go_wp2
              go_ret3
              rw [HV.out]
              exact ⟨_, rfl, World.ownsRow_nil _ _ _ _, B3.out⟩
        · obtain rfl : k = m := by omega
          have hkB : decide (k < k) = false := by simp
          have HV : Hid (getP s i = (L, (j : Int) + k, 0)) := Lib.hid (getP_ok HG.out hm (by rw [HSUB.out, ← hpg.out]; exact pgs_end (by omega)))
          go_wp2_with fail
          go_quiet (fail)
          go_wp2
          go_ret3
          rw [HV.out]
          exact ⟨_, rfl, hown.out, hb.out.os, hb.out.tape, hb.out.output, hb.out.size, hb.out.block⟩
  · have e1 : (c != 0) = true := by rw [bne, beq_eq_false_iff_ne.2 hc]; rfl
    have HV : Hid (getP s at_ = ([], 0, c)) := Lib.hid (getP_code HG.out hc)
    go_enter Tryd.func11, Tryd.ntmps11
    go_wp2_with fail
    refine CG.out.mono ?_
    rintro e w1 ⟨rfl, rfl⟩
    go_wp2
    go_ret3
    rw [HV.out]
    exact ⟨_, rfl, World.ownsRow_nil _ _ _ _, Below.refl _ _⟩
end Go.Proofs.YtifbkfkieppacaaDoor
