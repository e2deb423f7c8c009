/- The walk of the document's Get of properties. -/
import Derived.Test.YtifbkfkieppacaaDoorRefRead
import Derived.Test.YtifbkfkieppacaaDoorRefPutV
import Derived.Test.YtifbkfkieppacaaDoorPGet
namespace Go.Proofs.YtifbkfkieppacaaDoor
set_option linter.unusedVariables false
open Go.RowKit Pl

def RGetPost (w w' : World) (e : Ending) (G : List Pp × Int × Int) : Prop := ∃ v, e = .returned (.tuple #[v, .int .i64 G.2.1, .int .i64 G.2.2]) ∧ w'.ownsRow w.heap.size 47 4 v G.1.length (flat G.1) ∧ Below w.heap.size w w'
theorem dup_all (L : List Pp) (id : Int) : dup L L.length id = dupL L id := by unfold dup dupL; rw [List.take_length]
set_option maxRecDepth 100000 in
set_option maxHeartbeats 4000000 in
theorem refpget_any (s : ByteArray) (at_ : Int) (w : World) (hs : s.size ≤ 140737488351232) (h0 : -9223372036854775808 ≤ at_) (h1 : at_ ≤ 9223372036854775807) :
    Calls Tryd.prog 12 #[.string s, .int .i64 at_] w fun e w' => RGetPost w w' e (getP s at_) := by
  obtain ⟨⟨n, from_, c⟩, hg⟩ : ∃ g, getV s at_ = g := ⟨_, rfl⟩
  have CG := refget_all s at_ w hs h0 h1
  rw [hg] at CG
  have CG := Lib.hid CG
  have HG := Lib.hid hg
  clear hg h0 h1
  by_cases hc : c = 0
  · subst hc
    obtain ⟨i, j, rfl, rfl, hij, hj, _, hn0, hn1⟩ := getV_to HG.out
    obtain ⟨m, rfl⟩ := Int.eq_ofNat_of_zero_le hn0
    by_cases hlt : (s.size : Int) - j < m
    · have HV : Hid (getP s i = ([], 0, 242)) := Lib.hid (getP_none HG.out hlt)
      clear hij
      go_enter Tryd.func12, Tryd.ntmps12
      go_wp2_with fail
      refine CG.out.mono ?_
      rintro e w1 ⟨rfl, rfl⟩
      go_wp2
      go_ret3
      rw [HV.out]
      exact ⟨_, rfl, World.ownsRow_nil _ _ _ _, Below.refl _ _⟩
    · have hm : j + m ≤ s.size := by omega
      obtain ⟨sub, hsub⟩ : ∃ sub, s.extract j (j + m) = sub := ⟨_, rfl⟩
      have hss : sub.size = m := by rw [← hsub]; simp; omega
      have HSUB := Lib.hid hsub
      have hd0 : decide ((s.size : Int) - j < m) = false := by simpa using hlt
      go_enter Tryd.func12, Tryd.ntmps12
      go_wp2_with fail
      refine CG.out.mono ?_
      rintro e w1 ⟨rfl, rfl⟩
      clear hij
      obtain ⟨i0, hi, hz0, hz1, hz2⟩ := info_parts info_p2
      go_wp2
      try simp only [hsub]
      go_loopw [11, 12] (fun v a wr => ∃ (L : List Pp) (k f : Nat), a = .int .i64 k ∧ Hid (f + L.length = 66) ∧ L.length ≤ 64 ∧ k ≤ m ∧ Hid (pgs sub f L k = pgs sub 66 [] 0) ∧ Hid (wr.ownsRow w.heap.size 47 4 v L.length (flat L)) ∧ Hid (Below w.heap.size w wr)) (fun v _ _ => 66 - lenOf v)
      case atStart => exact ⟨[], 0, 66, rfl, Lib.hid rfl, by decide, by omega, Lib.hid rfl, Lib.hid (World.ownsRow_nil _ _ _ _), Lib.hid (Below.refl _ _)⟩
      case round =>
        obtain ⟨L, k, f, rfl, hf, hL, hk, hpg, hown, hb⟩ := hrel
        obtain ⟨A, cap, rfl, hcap, hrow⟩ := own_prow hown.out rfl
        have HROW := Lib.hid hrow
        clear hrow hsub
        have HF := hf
        obtain ⟨f', rfl⟩ : ∃ f', f = f' + 1 := ⟨f - 1, by have := hf.out; omega⟩
        by_cases hkm : k < m
        · have hkB : (k : Int) < (m : Int) := by omega
          have HK := Lib.hid (show ¬ (sub.size : Int) ≤ k by omega)
          by_cases h64 : 64 ≤ L.length
          · have h64I : (64 : Int) ≤ (L.length : Int) := by omega
            have HV : Hid (getP s i = ([], 0, 149)) := Lib.hid (getP_bad HG.out hm (by rw [HSUB.out, ← hpg.out]; exact pgs_full (by have := HK.out; omega) h64) (by decide))
            go_wp2
            go_ret3
            rw [HV.out]
            exact ⟨_, rfl, World.ownsRow_nil _ _ _ _, hb.out⟩
          · have h64I : ¬ (64 : Int) ≤ (L.length : Int) := by omega
            have H64 := Lib.hid h64
            obtain ⟨⟨id, nx, d⟩, hg2⟩ : ∃ g, getV sub k = g := ⟨_, rfl⟩
            have CNA := refget_all sub k wr (by omega) (by omega) (by omega)
            rw [hg2] at CNA
            have HG2 := Lib.hid hg2
            have CNA := Lib.hid CNA
            obtain ⟨kd, hkd⟩ : ∃ kd, kindOf id = kd := ⟨_, rfl⟩
            have CK : ∀ X : World, Calls Tryd.prog 21 #[.int .i64 id] X fun e w' => e = .returned (.int .i64 kd) ∧ Below X.heap.size X w' := fun X => by rw [← hkd]; exact refkind_any id X
            have CK := Lib.hid CK
            have HKD := Lib.hid hkd
            clear hg2 hkd
            by_cases hd : d = 0
            · subst hd
              obtain ⟨i', j', ei', rfl, hij', hj', _, hn0', hn1'⟩ := getV_to HG2.out
              obtain rfl : k = i' := by omega
              clear ei'
              by_cases h0 : kd = 0
              · subst h0
                have HV : Hid (getP s i = ([], 0, 129)) := Lib.hid (getP_bad HG.out hm (by rw [HSUB.out, ← hpg.out]; exact pgs_bad (by have := HK.out; omega) (by have := H64.out; omega) HG2.out (.inr HKD.out)) (by decide))
                go_wp2_with fail
                (with_reducible refine CNA.out.mono ?_)
                rintro e w2 ⟨rfl, rfl⟩
                go_wp2_with fail
                (with_reducible refine (CK.out _).mono ?_)
                rintro e w3 ⟨rfl, b3⟩
                go_wp2
                go_ret3
                rw [HV.out]
                exact ⟨_, rfl, World.ownsRow_nil _ _ _ _, hb.out.trans (b3.mono hb.out.size)⟩
              · have e0 : (kd == 0) = false := by rw [beq_eq_false_iff_ne]; exact h0
                go_wp2_with fail
                (with_reducible refine CNA.out.mono ?_)
                rintro e w2 ⟨rfl, rfl⟩
                go_wp2_with fail
                (with_reducible refine (CK.out _).mono ?_)
                rintro e w3 ⟨rfl, b3⟩
                have HO3 := Lib.hid (own_mod hown.out (Mod.of_below (S := fun _ => False) b3) (fun _ _ c => c))
                have HW3 := Lib.hid (hb.out.trans (b3.mono hb.out.size))
                have CH := twice_any A L.length cap L.length L id w3 rfl (by omega) (Nat.le_refl _) (own_row HO3.out rfl)
                rw [dup_all] at CH
                obtain ⟨dp, hdp⟩ : ∃ dp, dupL L id = dp := ⟨_, rfl⟩
                rw [hdp] at CH
                have CH := Lib.hid CH
                have HDP := Lib.hid hdp
                have H0 := Lib.hid h0
                clear hdp b3
                cases dp
                · have CV := refread_any sub j' id w3 (by omega) (by omega) (by omega)
                  obtain ⟨rv, hrv⟩ : ∃ rv, rdv sub id j' = rv := ⟨_, rfl⟩
                  rw [hrv] at CV
                  have CV := Lib.hid CV
                  have HRV := Lib.hid hrv
                  clear hrv
                  go_wp2_with fail
                  (with_reducible refine CH.out.mono ?_)
                  rintro e w4 ⟨rfl, rfl⟩
                  cases rv with
                  | none =>
                    have HV : Hid (getP s i = ([], 0, 129)) := Lib.hid (getP_bad HG.out hm (by rw [HSUB.out, ← hpg.out, pgs_rd (by have := HK.out; omega) (by have := H64.out; omega) HG2.out (by rw [HKD.out]; exact H0.out) HDP.out, HRV.out]) (by decide))
                    go_wp2_with fail
                    (with_reducible refine CV.out.mono ?_)
                    rintro e w5 ⟨⟨⟨qi, qn, qs, qt⟩, to, rfl⟩, b5⟩
                    have HW5 := Lib.hid ((HW3.out.trans (b5.mono HW3.out.size)).alloc (Nat.le_trans HW3.out.size b5.size) (.cells (ppA ⟨qi, qn, qs, qt⟩) 47))
                    clear b5
                    unfold ppV ppA
                    go_wp2
                    go_ret3
                    rw [HV.out]
                    exact ⟨_, rfl, World.ownsRow_nil _ _ _ _, HW5.out⟩
                  | some pt =>
                    obtain ⟨p, to⟩ := pt
                    obtain ⟨ia, ja, ea, rfl, hij2, hj2, epid⟩ := rdv_to HRV.out
                    have hPG : Hid (pgs sub f' (L ++ [p]) ja = pgs sub 66 [] 0) := Lib.hid (by rw [← hpg.out, pgs_rd (by have := HK.out; omega) (by have := H64.out; omega) HG2.out (by rw [HKD.out]; exact H0.out) HDP.out, HRV.out])
                    clear ea epid
                    go_wp2_with fail
                    (with_reducible refine CV.out.mono ?_)
                    rintro e w5 ⟨rfl, b5⟩
                    have HO5 := Lib.hid (((own_mod HO3.out (Mod.of_below (S := fun _ => False) b5) (fun _ _ c => c)).alloc (.cells (ppA p) 47)).alloc (.cells (ppA p) 47))
                    have HQ5 := Lib.hid (Blk.new w5 (ppA p) 47)
                    have hB5 := Blk.new (w5.alloc (.cells (ppA p) 47)) (ppA p) 47
                    rw [show (w5.alloc (.cells (ppA p) 47)).heap.size = w5.heap.size + 1 from by simp] at hB5
                    have HB5 := Lib.hid hB5
                    have HW6 := Lib.hid (((HW3.out.trans (b5.mono HW3.out.size)).alloc (Nat.le_trans HW3.out.size b5.size) (.cells (ppA p) 47)).alloc (Nat.le_trans (Nat.le_trans HW3.out.size b5.size) (by simp)) (.cells (ppA p) 47))
                    have hB6 := HW6.out.size
                    have h6b : (L.length + 1) * 48 ≤ 140737488355328 := by omega
                    have s0 := HQ5.out.cell 0
                    have s1 := HQ5.out.cell 1
                    have s2 := HQ5.out.cell 2
                    have s3 := HQ5.out.cell 3
                    simp only [ppA, List.getElem?_toArray, List.getElem?_cons_zero, List.getElem?_cons_succ] at s0 s1 s2 s3
                    clear b5 s0 s1 s2 s3 hB5
                    unfold ppV ppA
                    go_wp2_with (at_builtin; go_loud (refine wpList_pushB (.tmp 82) (.tmp 84) 24 47 i0 _ 4 48 (w5.heap.size + 1) (ppA p) rfl rfl Tryd.underlying24 hi hz0 hz1 hz2 rfl (by decide) rfl (by intro u hu; simp [ppA] at hu; rcases hu with rfl | rfl | rfl | rfl <;> rfl) w.heap.size _ L.length (flat L) rfl rfl HO5.out HB5.out hB6 (by unfold maxLen; omega) h6b ?_; intro v' w6 own6 hg6))
                    have HO6 := Lib.hid own6
                    have HW7 := Lib.hid (HW6.out.grown hg6 HW6.out.size (fun g e => (HO5.out.lt g e).1))
                    obtain ⟨A', cap', rfl, _, _⟩ := own_prow (L := L ++ [p]) (by rw [← flat_snoc]; exact own6) (by simp)
                    clear own6 hg6
                    go_roundw
                    case rel => exact ⟨L ++ [p], ja, f', by go_num, Lib.hid (by have := hf.out; simp; omega), by simp; omega, by omega, hPG, Lib.hid (by rw [← flat_snoc, List.length_append]; exact HO6.out), HW7⟩
                    case measure => simp [lenOf]; omega
                · have HV : Hid (getP s i = ([], 0, 130)) := Lib.hid (getP_bad HG.out hm (by rw [HSUB.out, ← hpg.out]; exact pgs_dup (by have := HK.out; omega) (by have := H64.out; omega) HG2.out (by rw [HKD.out]; exact H0.out) HDP.out) (by decide))
                  go_wp2_with fail
                  (with_reducible refine CH.out.mono ?_)
                  rintro e w4 ⟨rfl, rfl⟩
                  go_wp2
                  go_ret3
                  rw [HV.out]
                  exact ⟨_, rfl, World.ownsRow_nil _ _ _ _, HW3.out⟩
            · have e1 : (d != 0) = true := by rw [bne, beq_eq_false_iff_ne.2 hd]; rfl
              have HV : Hid (getP s i = ([], 0, 129)) := Lib.hid (getP_bad HG.out hm (by rw [HSUB.out, ← hpg.out]; exact pgs_bad (by have := HK.out; omega) (by have := H64.out; omega) HG2.out (.inl hd)) (by decide))
              go_wp2_with fail
              (with_reducible refine CNA.out.mono ?_)
              rintro e w2 ⟨rfl, rfl⟩
              go_wp2_with fail
              (with_reducible refine (CK.out _).mono ?_)
              rintro e w3 ⟨rfl, b3⟩
              go_wp2
              go_ret3
              rw [HV.out]
              exact ⟨_, rfl, World.ownsRow_nil _ _ _ _, hb.out.trans (b3.mono hb.out.size)⟩
        · obtain rfl : k = m := by omega
          have HV : Hid (getP s i = (L, (j : Int) + k, 0)) := Lib.hid (getP_ok HG.out hm (by rw [HSUB.out, ← hpg.out]; exact pgs_end (by omega)))
          go_wp2
          go_ret3
          rw [HV.out]
          exact ⟨_, rfl, hown.out, hb.out⟩
  · have e1 : (c != 0) = true := by rw [bne, beq_eq_false_iff_ne.2 hc]; rfl
    have HV : Hid (getP s at_ = ([], 0, c)) := Lib.hid (getP_code HG.out hc)
    go_enter Tryd.func12, Tryd.ntmps12
    go_wp2_with fail
    refine CG.out.mono ?_
    rintro e w1 ⟨rfl, rfl⟩
    go_wp2
    go_ret3
    rw [HV.out]
    exact ⟨_, rfl, World.ownsRow_nil _ _ _ _, Below.refl _ _⟩
end Go.Proofs.YtifbkfkieppacaaDoor
