/- ChaseSafe: the law's walk. -/
import Derived.Test.YtenoaonlngndpaaDoorH2P10
namespace Go.Proofs.YtenoaonlngndpaaDoor
set_option linter.unusedVariables false
set_option linter.unusedSimpArgs false
open Go.RowKit Go.Maps Pl Go.Shelf

/-- Numbers as an argument. -/
def IRow (w : World) (v : Value) (cs : List Int) : Prop :=
  ∃ A cap, v = .slice A cs.length cap ∧ cs.length ≤ cap ∧ cap ≤ maxLen ∧ (∀ x ∈ cs, -9223372036854775808 ≤ x ∧ x ≤ 9223372036854775807) ∧
    (0 < cs.length → ∃ b o, A = some ⟨b, o, none⟩ ∧ b < w.heap.size ∧ ∀ i x, cs[i]? = some x → w.cell? ⟨b, o + i, none⟩ = some (.int .i64 x))
set_option maxHeartbeats 8000000 in
set_option maxRecDepth 100000 in
theorem chaseSafe_walk (v0 : Value) (l : List Ad) (name : ByteArray) (hn : name.size ≤ 140737488351232) (v2 : Value) (ps : List Int) (w : World) (h0 : AvRow w v0 l ∧ ∀ a ∈ l, AvFits a) (h2 : IRow w v2 ps) (hT : Tabs w) :
    Calls Tryd.prog 5 #[v0, .string name, v2] w fun e w' => e = .returned (.bool true) ∧ Below w.heap.size w w' := by
  have HT := Lib.hid hT
  have CB := Lib.hid (base_any l v0 w h0.1 h0.2 hT)
  obtain ⟨A, cap, rfl, q1, q2, hrg, hc⟩ := h2
  unfold maxLen at q2
  have HC := Lib.hid hc
  have HRG := Lib.hid hrg
  clear hT h0 hc hrg
  go_enter Tryd.func5, Tryd.ntmps5
  go_wp2_with fail
  refine CB.out.mono ?_
  rintro e w1 ⟨bp, mb, n, dp, E, rfl, hk, hn12, -, -, -, hb⟩
  have HK := Lib.hid hk
  have HB := Lib.hid hb
  obtain ⟨K, hK⟩ : ∃ K, baseK l = K := ⟨_, rfl⟩
  rw [hK] at HK
  clear hk hb CB hK
  by_cases hp : ps.length = 0
  · have d0 : ((ps.length : Int) == 0) = true := by rw [beq_iff_eq]; omega
    have hpI : (ps.length : Int) = 0 := by omega
    have CW := Lib.hid (lwakes_any w1 (HT.out.below HB.out))
    go_wp2_with fail
    refine CW.out.mono ?_
    rintro e w2 ⟨rfl, b2⟩
    have HB2 := Lib.hid (HB.out.trans (b2.mono HB.out.size))
    clear b2
    go_wp2_with fail
    go_ret
    exact ⟨rfl, HB2.out⟩
  have d0 : ((ps.length : Int) == 0) = false := by rw [beq_eq_false_iff_ne]; omega
  have CN := Lib.hid (checkname_any name w1 (by omega) (HT.out.below HB.out))
  cases hnm : nameB name
  · have hcn : nameC name = 144 := by unfold nameC; rw [hnm]; rfl
    rw [hcn] at CN
    clear hnm hcn
    go_wp2_with fail
    refine CN.out.mono ?_
    rintro e w2 ⟨rfl, b2⟩
    have HB2 := Lib.hid (HB.out.trans (b2.mono HB.out.size))
    have CW := Lib.hid (lwakes_any w2 (HT.out.below HB2.out))
    clear b2
    go_wp2_with fail
    refine CW.out.mono ?_
    rintro e w3 ⟨rfl, b3⟩
    have HB3 := Lib.hid (HB2.out.trans (b3.mono HB2.out.size))
    clear b3
    go_wp2_with fail
    go_ret
    exact ⟨rfl, HB3.out⟩
  have hcn : nameC name = 0 := by unfold nameC; rw [hnm]; rfl
  rw [hcn] at CN
  have HNM := Lib.hid hnm
  clear hnm hcn
  obtain ⟨b, o, rfl, hbl, hcl⟩ := HC.out (by omega)
  obtain ⟨p0, hp0⟩ : ∃ x, ps[0]? = some x := ⟨_, List.getElem?_eq_getElem (by omega)⟩
  have hr0 := HRG.out p0 (List.mem_of_getElem? hp0)
  have c0 := hcl 0 p0 hp0
  go_wp2_with fail
  refine CN.out.mono ?_
  rintro e w2 ⟨rfl, b2⟩
  have HB2 := Lib.hid (HB.out.trans (b2.mono HB.out.size))
  have HK2 := Lib.hid (HK.out.below b2)
  have c0 := (HB2.out.cell (p := ⟨b, o + 0, none⟩) hbl).trans c0
  rw [Nat.add_zero] at c0
  have hpI : 0 < (ps.length : Int) := by omega
  obtain ⟨at0, hat⟩ : ∃ a : Int, max 0 p0 % 8 = a := ⟨_, rfl⟩
  have ha0 : 0 ≤ at0 := by omega
  have ha1 : at0 < 8 := by omega
  obtain ⟨H, hH⟩ : ∃ a : Int, min ((ps.length : Int) - 1) 12 = a := ⟨_, rfl⟩
  have hH0 : 0 ≤ H := by omega
  have hH1 : H ≤ 12 := by omega
  have hHl : H < ps.length := by omega
  have CW := Lib.hid (wants_any w.heap.size bp mb n K at0 H name w2 HK2.out (by omega) (by omega) (by omega) (by omega) (by omega) (HT.out.below HB2.out))
  have HPO := Lib.hid (show plOk at0 name H = true by unfold plOk; rw [HNM.out, decide_eq_true ha0, decide_eq_true ha1, decide_eq_true hH0]; rfl)
  have HR0 := Lib.hid (reach_start (K := K) HPO.out hH0)
  have HCL := Lib.hid hcl
  have hnb : name.size ≤ 140737488351232 := hn
  obtain ⟨wt, hwt⟩ : ∃ b, wants K at0 name H = b := ⟨_, rfl⟩
  rw [hwt] at CW
  have HWT := Lib.hid hwt
  clear b2 CN hcl hwt
  go_wp2_with fail
  refine CW.out.mono ?_
  rintro e w4 ⟨rfl, b4⟩
  have HB4 := Lib.hid (HB2.out.trans (b4.mono HB2.out.size))
  have HK4 := Lib.hid (HK2.out.below b4)
  have HAT := Lib.hid hat
  clear b4 CW HK2 c0 hat hH hpI d0
  go_wp2_with fail
  go_loopw [1, 9, 12] (fun tv bv iv wr => ∃ (t : ByteArray) (b : Int) (k : Nat), tv = .string t ∧ bv = .int .i64 b ∧ iv = .int .i64 k ∧ (k : Int) ≤ H ∧ 0 ≤ b ∧ b < 8 ∧ t.size ≤ 140737488351232 ∧ Hid (Pl.Reach K at0 name H b t k) ∧ Hid (Below w4.heap.size w4 wr)) (fun _ _ iv _ => (H - intOf iv).toNat)
  case atStart => exact ⟨name, at0, 0, rfl, by rw [HAT.out], rfl, hH0, ha0, ha1, hnb, HR0, Lib.hid (Below.refl _ _)⟩
  case round =>
    obtain ⟨t, b', k, rfl, rfl, rfl, hkH, hb0, hb1, htz, hR, hW⟩ := hrel
    have HWW := Lib.hid (HB4.out.trans (hW.out.mono HB4.out.size))
    have CO := Lib.hid (kbof_any w.heap.size bp mb n K b' wr (HK4.out.below hW.out) (wf_8 hb0 hb1))
    have HFT := Lib.hid (HK4.out.ok.fits b')
    go_wp2_with fail
    refine CO.out.mono ?_
    rintro e w5 ⟨vf, vl, rfl, had, b5⟩
    obtain ⟨a, ha⟩ : ∃ a, (K b').getD zAd = a := ⟨_, rfl⟩
    obtain ⟨bk, hbk⟩ : ∃ bk, (K b').isSome = bk := ⟨_, rfl⟩
    have hls := lks_get K b'
    have hfs := fls_get K b'
    rw [ha] at had HFT hls hfs ⊢
    rw [hbk]
    obtain ⟨af, kf, rfl, z1, z2, -⟩ := had.fs.form
    obtain ⟨al, kl, rfl, z3, z4, -⟩ := had.ls.form
    unfold maxLen at z2 z4
    have kX := blk_at w5 (adA a (.slice af a.fs.length kf) (.slice al a.ls.length kl)) 47 rfl
    have bX := (Below.refl w5.heap.size w5).alloc (Nat.le_refl _) (.cells (adA a (.slice af a.fs.length kf) (.slice al a.ls.length kl)) 47)
    obtain ⟨X, hX⟩ : ∃ X, w5.alloc (.cells (adA a (.slice af a.fs.length kf) (.slice al a.ls.length kl)) 47) = X := ⟨_, rfl⟩
    rw [hX] at kX bX
    have HX := Lib.hid ((hW.out.trans (b5.mono hW.out.size)).trans (bX.mono (Nat.le_trans hW.out.size b5.size)))
    have HWX := Lib.hid (HB4.out.trans (HX.out.mono HB4.out.size))
    have HAD := Lib.hid (had.below bX)
    have HKX := Lib.hid kX
    have x2 := kX.cell 2
    simp only [adA, List.getElem?_toArray, List.getElem?_cons_zero, List.getElem?_cons_succ] at x2
    have HLS := Lib.hid hls
    have HFS := Lib.hid hfs
    unfold adA at hX ⊢
    have hnf := HFT.out.nf
    have hnl := HFT.out.nl
    have hbkn : Hid (bk = false → K b' = none) := Lib.hid (fun c => by rw [c] at hbk; cases hKb : K b' with
      | none => rfl
      | some y => rw [hKb] at hbk; cases hbk)
    clear had b5 bX kX CO hls hfs ha hbk
    cases bk
    · obtain rfl : wt = true := by rw [← HWT.out]; exact reach_want hR.out (.inl (hbkn.out rfl))
      have CW := Lib.hid (lwakes_any X (HT.out.below HWX.out))
      go_wp2_with fail
      refine CW.out.mono ?_
      rintro e w6 ⟨rfl, b6⟩
      have HB6 := Lib.hid (HWX.out.trans (b6.mono HWX.out.size))
      clear b6
      go_wp2_with fail
      go_ret
      exact ⟨rfl, HB6.out⟩
    · go_wp2_with fail
      clear hX x2
      go_loopw [65] (fun jv w6 => ∃ (j : Nat), jv = .int .i64 j ∧ j ≤ a.fs.length ∧ Hid (Below X.heap.size X w6)) (fun jv _ => a.fs.length - (intOf jv).toNat)
      case atStart => exact ⟨0, rfl, Nat.zero_le _, Lib.hid (Below.refl _ _)⟩
      case round =>
        obtain ⟨j, rfl, hj, hV⟩ := hrel
        by_cases hjl : j < a.fs.length
        · have hjM : (j : Int) < (a.fs.length : Int) := by omega
          obtain ⟨f, hf⟩ : ∃ f, a.fs[j]? = some f := ⟨_, List.getElem?_eq_getElem (by omega)⟩
          obtain ⟨g, o', rfl, hg, m0⟩ := dstr_cell HAD.out.fs hf
          have m0 := (hV.out.cell (p := ⟨g, o' + j, none⟩) hg).trans m0
          have hfz := HFT.out.fs f (List.mem_of_getElem? hf)
          have HVV := Lib.hid (HWX.out.trans (hV.out.mono HWX.out.size))
          have CM := Lib.hid (match_any f t wr (by omega) (by omega) (HT.out.below HVV.out))
          have hf := Lib.hid hf
          clear hg
          cases hmt : mtB f t
          · rw [hmt] at CM
            clear hmt
            go_wp2_with fail
            refine CM.out.mono ?_
            rintro e w7 ⟨rfl, b7⟩
            have HB7 := Lib.hid (hV.out.trans (b7.mono hV.out.size))
            clear b7
            go_wp2_with fail
            go_roundw
            case rel => exact ⟨j + 1, by go_num, by omega, HB7⟩
            case measure => simp [intOf]; omega
          · obtain rfl : wt = true := by rw [← HWT.out]; exact reach_want hR.out (.inr ⟨f, by rw [← HFS.out]; exact List.mem_of_getElem? hf.out, hmt⟩)
            rw [hmt] at CM
            clear hmt
            go_wp2_with fail
            refine CM.out.mono ?_
            rintro e w7 ⟨rfl, b7⟩
            have HB7 := Lib.hid (HVV.out.trans (b7.mono HVV.out.size))
            have CW := Lib.hid (lwakes_any w7 (HT.out.below HB7.out))
            clear b7
            go_wp2_with fail
            refine CW.out.mono ?_
            rintro e w8 ⟨rfl, b8⟩
            have HB8 := Lib.hid (HB7.out.trans (b8.mono HB7.out.size))
            clear b8
            go_wp2_with fail
            go_ret
            exact ⟨rfl, HB8.out⟩
        · obtain rfl : j = a.fs.length := by omega
          have HVV := Lib.hid (HWX.out.trans (hV.out.mono HWX.out.size))
          have y3 := (HKX.out.of_below hV.out).cell 3
          simp only [adA, List.getElem?_toArray, List.getElem?_cons_zero, List.getElem?_cons_succ] at y3
          have CW := Lib.hid (lwakes_any wr (HT.out.below HVV.out))
          by_cases hkk : H ≤ (k : Int)
          · have d1 : decide (H ≤ (k : Int)) = true := by simpa using hkk
            go_wp2_with fail
            refine CW.out.mono ?_
            rintro e w8 ⟨rfl, b8⟩
            have HB8 := Lib.hid (HVV.out.trans (b8.mono HVV.out.size))
            clear b8
            go_wp2_with fail
            go_ret
            exact ⟨rfl, HB8.out⟩
          have d1 : decide (H ≤ (k : Int)) = false := by simpa using hkk
          by_cases hll : a.ls.length = 0
          · have d2 : ((a.ls.length : Int) == 0) = true := by rw [beq_iff_eq]; omega
            go_wp2_with fail
            refine CW.out.mono ?_
            rintro e w8 ⟨rfl, b8⟩
            have HB8 := Lib.hid (HVV.out.trans (b8.mono HVV.out.size))
            clear b8
            go_wp2_with fail
            go_ret
            exact ⟨rfl, HB8.out⟩
          have d2 : ((a.ls.length : Int) == 0) = false := by rw [beq_eq_false_iff_ne]; omega
          obtain ⟨p, hp⟩ : ∃ p, ps[k + 1]? = some p := ⟨_, List.getElem?_eq_getElem (by omega)⟩
          have hpr := HRG.out p (List.mem_of_getElem? hp)
          have c1 := (HVV.out.cell (p := ⟨b, o + (k + 1), none⟩) hbl).trans (HCL.out (k + 1) p hp)
          obtain ⟨m, hm⟩ : ∃ m : Nat, max 0 p % (a.ls.length : Int) = (m : Int) := ⟨(max 0 p % (a.ls.length : Int)).toNat, by have := Int.emod_nonneg (max 0 p) (show (a.ls.length : Int) ≠ 0 by omega); omega⟩
          have hml : m < a.ls.length := by have := Int.emod_lt_of_pos (max 0 p) (show (0 : Int) < (a.ls.length : Int) by omega); omega
          have hmI : (m : Int) < (a.ls.length : Int) := by omega
          obtain ⟨lk, hlk⟩ : ∃ x, a.ls[m]? = some x := ⟨_, List.getElem?_eq_getElem hml⟩
          obtain ⟨g, o', rfl, hg, m0, m1, m2, m3, m4, m5⟩ := dlk_cells HAD.out.ls hlk
          have up := fun i => hV.out.cell (p := ⟨g, i, none⟩) hg
          have m0 := (up _).trans m0
          have m1 := (up _).trans m1
          have m2 := (up _).trans m2
          have m3 := (up _).trans m3
          have m4 := (up _).trans m4
          have m5 := (up _).trans m5
          have hk1 : (k : Int) + 1 < (ps.length : Int) := by omega
          have hlp : (0 : Int) < (a.ls.length : Int) := by omega
          have HLK := Lib.hid hlk
          have l5 : w5.heap.size < wr.heap.size := (HKX.out.of_below hV.out).lt
          have lg : g < wr.heap.size := Nat.lt_of_lt_of_le hg hV.out.size
          have lb : b < wr.heap.size := Nat.lt_of_lt_of_le hbl HVV.out.size
          have hk2 : 0 ≤ (k : Int) + 1 := by omega
          have hk3 : IntKind.i64.wrap ((k : Int) + 1) = (k : Int) + 1 := IntWalk.i64_in _ (by omega)
          have hk4 : ((k : Int) + 1).toNat = k + 1 := by omega
          clear up hg hlk hp
          go_wp2_with fail
          go_region
          clear hk3 hk4 hk2 hml hmI m0 m1 m2 m3 m4 m5 c1 y3 d2 l5 lg lb
          obtain ⟨peer, rule⟩ := lk
          simp only
          have hlo := lks_ok HK4.out.ok (x := b') (l := ⟨peer, rule⟩) (by rw [← HLS.out]; exact List.mem_of_getElem? HLK.out)
          simp only at hlo
          have kZ := blk_at wr #[.int .i64 peer, .string rule.pat, .int .i64 rule.dir, .int .i64 rule.qos, .string rule.loc, .string rule.rem] 55 rfl
          have bZ := ((Below.refl wr.heap.size wr).alloc (Nat.le_refl _) (.cells #[.int .i64 peer, .string rule.pat, .int .i64 rule.dir, .int .i64 rule.qos, .string rule.loc, .string rule.rem] 55)).drew
          have kZ := kZ.drew
          obtain ⟨Z, hZ⟩ : ∃ Z, (wr.alloc (.cells #[.int .i64 peer, .string rule.pat, .int .i64 rule.dir, .int .i64 rule.qos, .string rule.loc, .string rule.rem] 55)).drew = Z := ⟨_, rfl⟩
          rw [hZ] at kZ bZ ⊢
          have HVZ := Lib.hid (hV.out.trans (bZ.mono hV.out.size))
          have HWZ := Lib.hid (HWX.out.trans (HVZ.out.mono HWX.out.size))
          have n0 := kZ.cell 0
          have n1 := kZ.cell 1
          have n2 := kZ.cell 2
          have n3 := kZ.cell 3
          have n4 := kZ.cell 4
          have n5 := kZ.cell 5
          simp only [List.getElem?_toArray, List.getElem?_cons_zero, List.getElem?_cons_succ] at n0 n1 n2 n3 n4 n5
          have CT := Lib.hid (toremote_any rule t Z hlo.1 htz (HT.out.below HWZ.out))
          unfold ruV at CT
          have KZ := Lib.hid kZ
          clear hZ bZ kZ
          go_wp2_with fail
          refine CT.out.mono ?_
          rintro e w8 ⟨rfl, b8⟩
          have HB8 := Lib.hid (HWZ.out.trans (b8.mono HWZ.out.size))
          have HV8 := Lib.hid (HVZ.out.trans (b8.mono HVZ.out.size))
          have hts := toRem_size rule t
          obtain ⟨t2, ht2⟩ : ∃ x, (toRem rule t).1 = x := ⟨_, rfl⟩
          obtain ⟨ok, hok⟩ : ∃ x, (toRem rule t).2 = x := ⟨_, rfl⟩
          rw [ht2] at hts
          rw [ht2, hok]
          have HT2 := Lib.hid ht2
          have HOK := Lib.hid hok
          have n0 := (KZ.out.of_below b8).cell 0
          simp only [List.getElem?_toArray, List.getElem?_cons_zero, List.getElem?_cons_succ] at n0
          clear n1 n2 n3 n4 n5 b8 ht2 hok CT
          obtain ⟨-, hp0', hp1'⟩ := hlo
          cases ok
          · have CW := Lib.hid (lwakes_any w8 (HT.out.below HB8.out))
            go_wp2_with fail
            refine CW.out.mono ?_
            rintro e w9 ⟨rfl, b9⟩
            have HB9 := Lib.hid (HB8.out.trans (b9.mono HB8.out.size))
            clear b9
            go_wp2_with fail
            go_ret
            exact ⟨rfl, HB9.out⟩
          · have hRS := Lib.hid (reach_step (l := ⟨peer, rule⟩) HPO.out hH0 (by omega) hR.out (by omega) (by rw [← HLS.out]; exact List.mem_of_getElem? HLK.out) HOK.out)
            rw [HT2.out] at hRS
            have hXX := Lib.hid (HX.out.trans (HV8.out.mono HX.out.size))
            go_wp2_with fail
            go_roundw
            case rel => exact ⟨t2, peer, k + 1, rfl, rfl, by go_num, by omega, hp0', hp1', by omega, Lib.hid (by have := hRS.out; simpa using this), hXX⟩
            case measure => simp [intOf]; omega
end Go.Proofs.YtenoaonlngndpaaDoor
