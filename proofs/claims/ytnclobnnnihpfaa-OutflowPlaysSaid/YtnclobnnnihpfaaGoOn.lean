/- outflow.Flow's goOn. -/
import Derived.Test.YtnclobnnnihpfaaFlowL
namespace Go.Proofs.Ytnclobnnnihpfaa
set_option linter.unusedVariables false
open Go.RowKit Go.Maps

/-- How many wait, as the world has it. -/
def wtLen (fp : Nat) (w : World) : Nat := match w.cell? ⟨fp, 4, none⟩ with
  | some (.slice _ n _) => n
  | _ => 0
theorem FlowAt.len {B fp pb mb : Nat} {s : FS} {w : World} (h : FlowAt B fp pb mb s w) : wtLen fp w = s.wt.length := by
  obtain ⟨vf, vw, h⟩ := h
  have c4 := h.blk.cell 4
  obtain ⟨ao, cap, rfl, -⟩ := h.wt.form
  unfold wtLen
  rw [c4]
  rfl
theorem Sl.drewN {B n size : Nat} {w : World} {e : TypeId} {v : Value} {xs : List Value} (h : Sl B w e size v n xs) (k : Nat) : Sl B (w.drewN k) e size v n xs := h.same (w' := w.drewN k) (fun _ _ => by rfl)
theorem FlowV.drewN {B fp pb mb : Nat} {s : FS} {vf vw : Value} {w : World} (h : FlowV B fp pb mb s vf vw w) (n : Nat) : FlowV B fp pb mb s vf vw (w.drewN n) :=
  ⟨h.ok, h.hB, h.blk, h.fl.drewN n, h.wt.drewN n, h.pool.drewN n⟩
theorem drewN_below (w : World) (n : Nat) : Below w.heap.size w (w.drewN n) := ⟨rfl, rfl, rfl, Nat.le_refl _, fun _ _ => rfl⟩
theorem OutAt.drewN {C : Nat} {w : World} {v : Value} {L : List OP} (h : OutAt C w v L) (n : Nat) : OutAt C (w.drewN n) v L := h.below (drewN_below w n)
/-- The first that waits is taken. -/
theorem FlowV.pop {B fp pb mb : Nat} {s : FS} {m : OM} {r : List OM} {vf vw vw' : Value} {w : World} (h : FlowV B fp pb mb s vf vw w) (hw : s.wt = m :: r) (h' : Sl B w 43 5 vw' r.length ((wtL (m :: r)).drop 5)) :
    FlowV B fp pb mb (pop0 s r) vf vw' (w.setCell ⟨fp, 4, none⟩ vw') ∧ Fr B (flowS mb) w (w.setCell ⟨fp, 4, none⟩ vw') := by
  obtain ⟨p1, p2, p3, p4, p5⟩ := h.parts 4 vw'
  exact ⟨⟨h.ok.pop0 hw, h.hB, p1, p2, h'.set 4 _ (h'.ne h.blk (by decide)), p4⟩, p5⟩
/-- What goOn turns. -/
def goS (mb : Nat) (v0 : Value) (k : Nat) (o : Obj) : Prop := flowS mb k o ∨ v0.ownBlock = some k
set_option maxHeartbeats 4000000 in
set_option maxRecDepth 100000 in
theorem goOn_any (B C fp pb mb : Nat) (s : FS) (v0 : Value) (L0 : List OP) (w : World) (h : FlowAt B fp pb mb s w) (ho : OutAt C w v0 L0) (hl : L0.length ≤ 65) (hBC : B ≤ C) (hC : C ≤ w.heap.size) :
    Calls Try.prog 30 #[.pointer (some ⟨fp, 0, none⟩), v0] w fun e w' => ∃ v', e = .returned v' ∧ FlowAt B fp pb mb (goOn s).1 w' ∧ OutAt C w' v' (L0 ++ (goOn s).2) ∧ Fr B (goS mb v0) w w' := by
  have H := Lib.hid h
  have HO := Lib.hid ho
  have hl0 := h.ok.wt
  clear h ho
  go_enter Try.func30, Try.ntmps30
  go_wp2_with fail
  go_loopw [1] (fun v wr => ∃ (s' : FS) (L' : List OP), Hid (FlowAt B fp pb mb s' wr) ∧ Hid (OutAt C wr v (L0 ++ L')) ∧ Hid (goOn s = ((goOn s').1, L' ++ (goOn s').2)) ∧ Hid (Fr B (goS mb v0) w wr) ∧ Hid (v.ownBlock = v0.ownBlock ∨ ∀ k, v.ownBlock = some k → w.heap.size ≤ k) ∧ L'.length + s'.wt.length ≤ s.wt.length) (fun _ wr => wtLen fp wr)
  case atStart => exact ⟨s, [], H, Lib.hid (by rw [List.append_nil]; exact HO.out), Lib.hid rfl, Lib.hid (Fr.refl _ _ _), Lib.hid (.inl rfl), by simp⟩
  case round =>
    obtain ⟨s', L', hF, hL, hG, hFr, hv, hlen⟩ := hrel
    obtain ⟨vf, vw, hV⟩ := hF.out
    have HV := Lib.hid hV
    clear hV
    have c0 := HV.out.blk.cell 0
    have c1 := HV.out.blk.cell 1
    have c2 := HV.out.blk.cell 2
    have c3 := HV.out.blk.cell 3
    have c4 := HV.out.blk.cell 4
    simp only [List.getElem?_toArray, List.getElem?_cons_zero, List.getElem?_cons_succ] at c0 c1 c2 c3 c4
    cases hon : s'.on with
    | false =>
      rw [hon] at c2
      have Hx := Lib.hid (goOn_off hon)
      clear hon
      go_wp2
      go_ret
      have e := hG.out
      rw [Hx.out] at e
      rw [e]
      exact ⟨_, rfl, hF.out, by rw [List.append_nil]; exact hL.out, hFr.out⟩
    | true =>
      rw [hon] at c2
      have Hon := Lib.hid hon
      clear hon
      cases hw : s'.wt with
      | nil =>
        have hwt := HV.out.wt
        rw [hw] at hwt
        obtain ⟨ao, cap, e4, -⟩ := hwt.form
        simp only [List.length_nil] at e4
        subst e4
        have Hx := Lib.hid (goOn_empty hw)
        clear hwt hw
        go_wp2
        go_ret
        have e := hG.out
        rw [Hx.out] at e
        rw [e]
        exact ⟨_, rfl, hF.out, by rw [List.append_nil]; exact hL.out, hFr.out⟩
      | cons m r =>
        have hwt := HV.out.wt
        rw [hw] at hwt
        rw [hw] at hlen
        simp only [List.length_cons] at hwt hlen
        obtain ⟨g, o, cap, e4, hBg, hgl, hcap, hcm, hcl⟩ := hwt.at (by omega)
        subst e4
        have m0 := hcl 0 (.string m.topic) rfl
        have m1 := hcl 1 (.string m.payload) rfl
        have m2 := hcl 2 (.int .i64 m.qos) rfl
        have m3 := hcl 3 (.bool m.retain) rfl
        have m4 := hcl 4 (.string m.tag) rfl
        simp only [Nat.add_zero] at m0
        have HWT := Lib.hid hwt
        have HW := Lib.hid hw
        have HLEN := Lib.hid (FlowAt.len hF.out)
        have hmq := HV.out.ok.wq m (by rw [hw]; exact List.mem_cons_self ..)
        have hrl : r.length ≤ 256 := by omega
        unfold maxLen at hcm
        clear hwt hw hcl
        go_wp2
        have hY := (Below.refl wr.heap.size wr).alloc (Nat.le_refl _) (.cells #[.string m.topic, .string m.payload, .int .i64 m.qos, .bool m.retain, .string m.tag] 43)
        have hb := blk_at wr #[.string m.topic, .string m.payload, .int .i64 m.qos, .bool m.retain, .string m.tag] 43 rfl
        obtain ⟨Y, hYe⟩ : ∃ Y, wr.alloc (.cells #[.string m.topic, .string m.payload, .int .i64 m.qos, .bool m.retain, .string m.tag] 43) = Y := ⟨_, rfl⟩
        rw [hYe] at hY hb ⊢
        have HVY := Lib.hid (HV.out.below hY)
        have HLY := Lib.hid (hL.out.below hY)
        have HFY := Lib.hid (hFr.out.trans (Fr.of_below (S := goS mb v0) hY HV.out.sz))
        have HMB := Lib.hid hb
        have hsz : wr.heap.size < Y.heap.size := hb.lt
        have hwz : w.heap.size ≤ wr.heap.size := hFr.out.below.size
        have d0 := HVY.out.blk.cell 0
        have d1 := HVY.out.blk.cell 1
        have d3 := HVY.out.blk.cell 3
        have d4 := HVY.out.blk.cell 4
        have n2 := HMB.out.cell 2
        simp only [List.getElem?_toArray, List.getElem?_cons_zero, List.getElem?_cons_succ] at d0 d1 d3 d4 n2
        clear hYe hY hb c0 c1 c2 c3 c4 m0 m1 m2 m3 m4 hF HV hL hFr
        by_cases hq : 0 < m.qos
        · by_cases hf : s'.most ≤ s'.fl.length
          · have Hx := Lib.hid (goOn_full HW.out hq hf)
            obtain ⟨ao, fcap, e3, -⟩ := HVY.out.fl.form
            rw [e3] at d3
            have E3 := Lib.hid e3
            clear e3
            go_quiet (fail)
            go_wp2
            go_ret
            have e := hG.out
            rw [Hx.out] at e
            rw [e]
            exact ⟨_, rfl, ⟨_, _, HVY.out.drewN nq⟩, by rw [List.append_nil]; exact HLY.out.drewN nq, HFY.out.drewN nq⟩
          · have Hx := Lib.hid (goOn_1 Hon.out HW.out hq hf)
            have Hk1 := Lib.hid (HVY.out.ok.pop1 HW.out hq hf)
            obtain ⟨ao, fcap, e3, -⟩ := HVY.out.fl.form
            rw [e3] at d3
            have E3 := Lib.hid e3
            have hml : s'.fl.length ≤ 63 := by have := HVY.out.ok.m1; omega
            clear e3
            go_quiet (fail)
            have HVN := Lib.hid (HVY.out.drewN nq)
            have HLN := Lib.hid (HLY.out.drewN nq)
            have HFN := Lib.hid (HFY.out.drewN nq)
            have HMN := Lib.hid (show Blk (Y.drewN nq) wr.heap.size _ _ from HMB.out)
            have hzn : (Y.drewN nq).heap.size = Y.heap.size := rfl
            obtain ⟨Y1, hY1⟩ : ∃ Y1, Y.drewN nq = Y1 := ⟨_, rfl⟩
            rw [hY1] at HVN HLN HFN HMN hzn ⊢
            have hsz1 : wr.heap.size < Y1.heap.size := by omega
            have x0 := HVN.out.blk.cell 0
            have x3 := HVN.out.blk.cell 3
            have x4 := HVN.out.blk.cell 4
            have y4 := HVN.out.blk.frozen 4
            have z2 := HMN.out.cell 2
            simp only [List.getElem?_toArray, List.getElem?_cons_zero, List.getElem?_cons_succ] at x0 x3 x4 z2
            clear d0 d1 d3 d4 n2 hY1 hzn HVY HLY HFY HMB HWT
            have HWS := Lib.hid (by have := HVN.out.wt; rw [HW.out] at this; exact this)
            obtain ⟨im, him, himz, hims, himb⟩ := info_parts info_m
            go_wp2_with (first | (refine wpList_tail_sl _ 67 im rfl rfl Try.underlying67 him hims r.length _ _ rfl HWS.out ?_; intro g' o' c' hsl hg'; have HSL := Lib.hid hsl; clear hsl hg') | (fail))
            obtain ⟨Z, hZ⟩ : ∃ Z, Y1.setCell ⟨fp, 4, none⟩ (.slice (some ⟨g', o', none⟩) r.length c') = Z := ⟨_, rfl⟩
            have hpp := HVN.out.pop HW.out HSL.out
            have hmz := HMN.out.other (R' := fp) (blk_ne HMN.out HVN.out.blk (by decide)) 4 (.slice (some ⟨g', o', none⟩) r.length c')
            rw [hZ] at hpp hmz ⊢
            obtain ⟨hV1, hf1⟩ := hpp
            have HV1 := Lib.hid hV1
            have HF1 := Lib.hid hf1
            have HMZ := Lib.hid hmz
            have hkt := HVN.out.ok.t1
            have hkt0 := HVN.out.ok.t0
            clear hV1 hf1 hmz x0 x3 x4 y4 z2 hZ
            have hpl : PoolAt B pb mb s'.taken (oids s'.fl) Z := HV1.out.pool
            (with_reducible refine (ptake_any B pb mb s'.taken (oids s'.fl) Z hpl (by rw [oids_length]; omega) hkt0 hkt).mono ?_)
            rintro e w2 ⟨rfl, hp2, hf2⟩
            have HP2 := Lib.hid hp2
            have HB2 := Lib.hid (HV1.out.blk.pool hf2 HV1.out.pool (by decide))
            have HS2 := Lib.hid (HV1.out.fl.pool hf2 HV1.out.pool (by decide))
            have HW2 := Lib.hid (HV1.out.wt.pool hf2 HV1.out.pool (by decide))
            have HM2 := Lib.hid (HMZ.out.pool hf2 HV1.out.pool (by decide))
            have HF2 := Lib.hid (HF1.out.trans (hf2.pool HV1.out.pool))
            obtain ⟨id, hid⟩ : ∃ id, nextId (oids s'.fl) s'.taken = id := ⟨_, rfl⟩
            rw [hid] at HP2 ⊢
            have HID := Lib.hid hid
            have b6 := HM2.out.cell 2
            simp only [List.getElem?_toArray, List.getElem?_cons_zero, List.getElem?_cons_succ] at b6
            clear hp2 hf2 hid HV1 HF1 HMZ
            go_wp2
            have HMD := Lib.hid (HM2.out.drew)
            have hgS : ∀ w', w2.drew.grownBy w' vf.ownBlock → Blk w' wr.heap.size #[.string m.topic, .string m.payload, .int .i64 m.qos, .bool m.retain, .string m.tag] 43 := fun w' hg => Blk.grown (w := w2.drew) HM2.out hg (HS2.out.ne HM2.out (by decide))
            obtain ⟨i1, hi1, hi1z, hi1s, hi1b⟩ := info_parts info_f
            obtain ⟨li, hli, hl1⟩ := map_some info_fls
            have hBz : B ≤ w2.drew.heap.size := Nat.le_trans HP2.out.1 (Nat.le_of_lt HP2.out.2.2.1.lt)
            have h63 : s'.fl.length + 1 ≤ 64 := by omega
            refine wp_region_held (S := (fun X => Blk X wr.heap.size #[.string m.topic, .string m.payload, .int .i64 m.qos, .bool m.retain, .string m.tag] 43)) (by kernel_rfl) ?_
            change wpAnyH _ _ _ _ _ _ _ _ w2.drew
            refine wpAnyH_takeD (i := 0) (d := 59) (v := .pointer (some ⟨fp, 0, none⟩)) rfl rfl (by kernel_rfl) (by kernel_rfl) (by kernel_rfl) (fun _ _ _ h => h) (y_move _ rfl rfl rfl) HMD.out ?_
            simp only [Act.put, List.setIfInBounds_toArray, List.set_cons_succ, List.set_cons_zero]
            refine wpAnyH_takeD (i := 1) (d := 60) (v := .pointer (some ⟨fp, 0, none⟩)) rfl rfl (by kernel_rfl) (by kernel_rfl) (by kernel_rfl) (fun _ _ _ h => h) (y_move _ rfl rfl rfl) HMD.out ?_
            simp only [Act.put, List.setIfInBounds_toArray, List.set_cons_succ, List.set_cons_zero]
            refine wpAnyH_takeD (i := 2) (d := 61) (v := .pointer (some ⟨fp, 0, none⟩)) rfl rfl (by kernel_rfl) (by kernel_rfl) (by kernel_rfl) (fun _ _ _ h => h) (y_nil _ rfl rfl rfl) HMD.out ?_
            simp only [Act.put, List.setIfInBounds_toArray, List.set_cons_succ, List.set_cons_zero]
            refine wpAnyH_takeD (i := 3) (d := 62) (v := .pointer (some ⟨fp, 3, none⟩)) rfl rfl (by kernel_rfl) (by kernel_rfl) (by kernel_rfl) (fun _ _ _ h => h) (y_field _ rfl rfl rfl (fun w => by go_simp)) HMD.out ?_
            simp only [Act.put, List.setIfInBounds_toArray, List.set_cons_succ, List.set_cons_zero]
            refine wpAnyH_takeD (i := 5) (d := 64) (v := .int .i64 id) rfl rfl (by kernel_rfl) (by kernel_rfl) (by kernel_rfl) (fun _ _ _ h => h) (y_move _ rfl rfl rfl) HMD.out ?_
            simp only [Act.put, List.setIfInBounds_toArray, List.set_cons_succ, List.set_cons_zero]
            refine wpAnyH_takeD (i := 6) (d := 65) (v := .agg #[.string m.topic, .string m.payload, .int .i64 m.qos, .bool m.retain, .string m.tag]) rfl rfl (by kernel_rfl) (by kernel_rfl) (by kernel_rfl) (fun _ _ _ h => h) (y_load _ rfl rfl rfl (fun w hw => run_loadAt_row w wr.heap.size 43 43 _ (0, 0) _ hw Try.underlying43 rfl om_size)) HMD.out ?_
            simp only [Act.put, List.setIfInBounds_toArray, List.set_cons_succ, List.set_cons_zero]
            refine wpAnyH_takeD (i := 7) (d := 66) (v := .agg (ofA ⟨id, m, false⟩)) rfl rfl (by kernel_rfl) (by kernel_rfl) (by kernel_rfl) (fun _ _ _ h => h) (y_build _ rfl rfl (by kernel_rfl)) HMD.out ?_
            simp only [Act.put, List.setIfInBounds_toArray, List.set_cons_succ, List.set_cons_zero]
            change wpAnyH _ _ _ _ _ 6 (lst 13 [0, 1, 2, 3, 5, 6, 7]) _ _
            refine load_make_append (D := [63, 67]) (k := 3) (i0 := 4) (i1 := 8) (i2 := 9) (d1 := 63) (d2 := 67) (d3 := 68) (b := fp) (f := 3) (B := B) (sz := 7) (n := s'.fl.length) (T := 40) (e := 45) (v := vf) (xs := (flL s'.fl)) (new := (ofA ⟨id, m, false⟩)) (by kernel_rfl) (by decide) (by decide) (by simp) (by simp) (by decide) (by decide) (mk_load _ rfl rfl rfl rfl (by decide) rfl Try.underlying40) (mk_make _ rfl rfl rfl rfl (by decide) rfl Try.underlying40 hi1 hi1z hi1s (by decide) (by decide) (by kernel_rfl)) ⟨_, _, _, _, _, rfl, rfl, rfl, rfl, Try.underlying40, hi1, hi1z, hi1s, hi1b, rfl, by omega⟩ (by decide) rfl (ofA_one _) (by unfold maxLen; omega) hBz (HB2.out.cell 3) HS2.out.drew hgS ?_
            intro v9 w9 hs9 hg9 ho9
            simp only [Act.put, List.setIfInBounds_toArray, List.set_cons_succ, List.set_cons_zero]
            change wpAnyH _ _ _ _ _ 3 (lst 13 [0, 1, 2, 3, 4, 5, 6, 7, 8, 9]) _ _
            refine wpAnyH_takeD (i := 10) (d := 69) (v := .pointer (some ⟨fp, 0, none⟩)) rfl rfl (by kernel_rfl) (by kernel_rfl) (by kernel_rfl) (fun _ _ _ h => h) (y_nil _ rfl rfl rfl) (hgS _ hg9) ?_
            simp only [Act.put, List.setIfInBounds_toArray, List.set_cons_succ, List.set_cons_zero]
            refine wpAnyH_takeD (i := 11) (d := 70) (v := .pointer (some ⟨fp, 3, none⟩)) rfl rfl (by kernel_rfl) (by kernel_rfl) (by kernel_rfl) (fun _ _ _ h => h) (y_field _ rfl rfl rfl (fun w => by go_simp)) (hgS _ hg9) ?_
            simp only [Act.put, List.setIfInBounds_toArray, List.set_cons_succ, List.set_cons_zero]
            change wpAnyH _ _ _ _ _ 1 (lst 13 [0, 1, 2, 3, 4, 5, 6, 7, 8, 9, 10, 11]) _ _
            obtain ⟨ao9, cap9, ev9, -⟩ := hs9.form
            refine wpAnyH_store (i := 12) (t := 70) (u := 68) (b := fp) (f := 3) (v := v9) (v0 := vf) _ rfl rfl rfl rfl hli hl1 (by kernel_rfl) (by kernel_rfl) rfl rfl (by rw [ev9]; rfl) ((Blk.grown (w := w2.drew) HB2.out hg9 (HS2.out.ne HB2.out (by decide))).cell 3) ((Blk.grown (w := w2.drew) HB2.out hg9 (HS2.out.ne HB2.out (by decide))).frozen 3) ?_ ?_
            · exact (hgS _ hg9).other (blk_ne (hgS _ hg9) (Blk.grown (w := w2.drew) HB2.out hg9 (HS2.out.ne HB2.out (by decide))) (by decide)) 3 v9
            have hdone := flow_done (B := B) (vw' := .slice (some ⟨g', o', none⟩) r.length c') Hk1.out HVN.out.hB HID.out HB2.out HS2.out HW2.out HP2.out hg9 hs9
            have hm4 := (hgS _ hg9).other (R' := fp) (blk_ne (hgS _ hg9) (Blk.grown (w := w2.drew) HB2.out hg9 (HS2.out.ne HB2.out (by decide))) (by decide)) 3 v9
            obtain ⟨w4, hw4⟩ : ∃ w4, w9.setCell ⟨fp, 3, none⟩ v9 = w4 := ⟨_, rfl⟩
            rw [hw4] at hdone hm4 ⊢
            obtain ⟨hV4, hf4⟩ := hdone
            have HV4 := Lib.hid hV4
            have HF4 := Lib.hid (HF2.out.trans hf4)
            have HL4 := Lib.hid (HLN.out.fr HF4.out (fun k cs _ => flowS_not (by unfold flowT; decide)) (fun k cs => flowS_not (by unfold flowT; decide)))
            have HM4 := Lib.hid hm4
            have q0 := hm4.cell 0
            have q1 := hm4.cell 1
            have q2 := hm4.cell 2
            have q3 := hm4.cell 3
            have q4 := hm4.cell 4
            simp only [List.getElem?_toArray, List.getElem?_cons_zero, List.getElem?_cons_succ] at q0 q1 q2 q3 q4
            have CP := Lib.hid (mpacket_any m id false w4)
            clear hw4 hV4 hf4 hm4 hs9 hg9 ho9 ev9 hgS b6 HMD HB2 HS2 HW2 HM2 HF2 HP2 hpl
            go_wp2_with fail
            refine CP.out.mono ?_
            rintro e w5 ⟨pv, rfl, hpv, hb5⟩
            have hCw4 : C ≤ w4.heap.size := by have := HF4.out.below.size; omega
            have HPV := Lib.hid (hpv.mono hCw4)
            have HB5 := Lib.hid hb5
            obtain ⟨ip, hip, hipz, hips, hipb⟩ := info_parts info_pk
            have HNB := Lib.hid (blk_at w5 (pkA 3 false m.retain m.qos id m.topic m.payload pv) 37 rfl)
            have hal := (Below.refl w5.heap.size w5).alloc (Nat.le_refl _) (.cells (pkA 3 false m.retain m.qos id m.topic m.payload pv) 37)
            have hw5 : w4.heap.size ≤ w5.heap.size := hb5.size
            have HO6 := Lib.hid ((HL4.out.below hb5).below hal)
            have HP6 := Lib.hid (show OpAt C _ (.pub m id false) pv from OpAt.below (p := .pub m id false) (show OpAt C w5 (.pub m id false) pv from HPV.out) hal)
            have HV6 := Lib.hid ((HV4.out.below hb5).below hal)
            have HF6 := Lib.hid (((HFN.out.trans (HF4.out.weaken (S' := goS mb v0) (Nat.le_refl _) (fun _ _ _ c => .inl c))).trans (Fr.of_below (S := goS mb v0) hb5 (by have := HV4.out.sz; omega))).trans (Fr.of_below (S := goS mb v0) hal (by have := HV4.out.sz; omega)))
            obtain ⟨w6, hw6⟩ : ∃ w6, w5.alloc (.cells (pkA 3 false m.retain m.qos id m.topic m.payload pv) 37) = w6 := ⟨_, rfl⟩
            rw [hw6] at HNB HO6 HP6 HV6 HF6
            have HE6 := Lib.hid hw6
            have hl6 : (L0 ++ L').length ≤ 1048576 := by rw [List.length_append]; omega
            have hC6 : C ≤ w6.heap.size := by have := HF6.out.below.size; omega
            have hz6 : w.heap.size ≤ w6.heap.size := HF6.out.below.size
            clear hpv hb5 hal hw6 q0 q1 q2 q3 q4 CP HL4 HM4 HLN HFN HVN HMN
            go_wp2_with (first | (refine wpList_pkS _ (pkA 3 false m.retain m.qos id m.topic m.payload pv) rfl rfl rfl rfl w6 HE6.out ?_) | (refine wpList_out _ _ C u1 (L0 ++ L') (.pub m id false) pv w5.heap.size rfl rfl rfl rfl HO6.out HP6.out HNB.out hC6 hl6 ?_; intro v7 w7 ho7 hg7 hb7; have HO7 := Lib.hid ho7; have HG7 := Lib.hid hg7; have HV7 := Lib.hid hb7; clear ho7 hg7 hb7) | (fail))
            obtain ⟨xs6, hs6⟩ := HO6.out.sl
            have hfl7 : FlowAt B fp pb mb (pop1 s' m r) w7 := ⟨_, _, HV6.out.grown hs6 HG7.out⟩
            refine ⟨⟨pop1 s' m r, L' ++ [.pub m id false], Lib.hid hfl7, Lib.hid (by rw [← List.append_assoc]; exact HO7.out), Lib.hid ?_, Lib.hid ?_, Lib.hid ?_, ?_⟩, ?_⟩
            · rw [hG.out, Hx.out, HID.out, List.append_assoc]; rfl
            · refine HF6.out.grown HG7.out (by omega) (fun k hk => by have := (hs6.lt k hk).1; omega) (fun k o hk _ => ?_)
              rcases hv.out with c | c
              · exact .inl (.inr (c ▸ hk))
              · exact .inr (c k hk)
            · rcases HV7.out with c | c
              · rcases hv.out with d | d
                · exact .inl (c.trans d)
                · exact .inr (fun k hk => d k (c ▸ hk))
              · exact .inr (fun k hk => by rw [c] at hk; injection hk with hk; omega)
            · show (L' ++ [_]).length + r.length ≤ _
              rw [List.length_append]; simp only [List.length_cons, List.length_nil]; omega
            · rw [hfl7.len, HLEN.out, HW.out]
              show r.length < (m :: r).length
              simp
        · have Hx := Lib.hid (goOn_0 Hon.out HW.out hq)
          have hd : decide (0 < m.qos) = false := by simpa using hq
          have hq0 : m.qos ≤ 0 := by omega
          go_quiet (fail)
          have HVN := Lib.hid (HVY.out.drewN nq)
          have HLN := Lib.hid (HLY.out.drewN nq)
          have HFN := Lib.hid (HFY.out.drewN nq)
          have HMN := Lib.hid (show Blk (Y.drewN nq) wr.heap.size _ _ from HMB.out)
          have hzn : (Y.drewN nq).heap.size = Y.heap.size := rfl
          obtain ⟨Y1, hY1⟩ : ∃ Y1, Y.drewN nq = Y1 := ⟨_, rfl⟩
          rw [hY1] at HVN HLN HFN HMN hzn ⊢
          have hsz1 : wr.heap.size < Y1.heap.size := by omega
          have x0 := HVN.out.blk.cell 0
          have x3 := HVN.out.blk.cell 3
          have x4 := HVN.out.blk.cell 4
          have y4 := HVN.out.blk.frozen 4
          have z2 := HMN.out.cell 2
          simp only [List.getElem?_toArray, List.getElem?_cons_zero, List.getElem?_cons_succ] at x0 x3 x4 z2
          clear d0 d1 d3 d4 n2 hY1 hzn HVY HLY HFY HMB HWT
          have HWS := Lib.hid (by have := HVN.out.wt; rw [HW.out] at this; exact this)
          obtain ⟨im, him, himz, hims, himb⟩ := info_parts info_m
          obtain ⟨li, hli, hl1⟩ := map_some info_oms
          go_wp2_with (first
            | (refine wpList_tail_sl _ 67 im rfl rfl Try.underlying67 him hims r.length _ _ rfl HWS.out ?_
               intro g' o' c' hsl hg'
               have HSL := Lib.hid hsl
               clear hsl hg')
            | (refine wpList_storeN rfl 67 (.tmp 47) (.tmp 45) rfl rfl fp 4 (.slice (some ⟨g', o', none⟩) r.length c') _ rfl rfl rfl hli hl1 x4 y4 ?_
               intro Z hZ
               have hpp := HVN.out.pop HW.out HSL.out
               have hmz := HMN.out.other (R' := fp) (blk_ne HMN.out HVN.out.blk (by decide)) 4 (.slice (some ⟨g', o', none⟩) r.length c')
               rw [hZ] at hpp hmz
               have HV4 := Lib.hid hpp.1
               have HF4 := Lib.hid hpp.2
               have HL4 := Lib.hid (HLN.out.fr hpp.2 (fun k cs _ => flowS_not (by unfold flowT; decide)) (fun k cs => flowS_not (by unfold flowT; decide)))
               have q0 := hmz.cell 0
               have q1 := hmz.cell 1
               have q2 := hmz.cell 2
               have q3 := hmz.cell 3
               have q4 := hmz.cell 4
               simp only [List.getElem?_toArray, List.getElem?_cons_zero, List.getElem?_cons_succ] at q0 q1 q2 q3 q4
               have CP := Lib.hid (mpacket_any m 0 false Z)
               have w4 := Z
               clear w4 hZ hpp hmz x0 x3 x4 y4 z2)
            | (fail))
          refine CP.out.mono ?_
          rintro e w5 ⟨pv, rfl, hpv, hb5⟩
          have hCZ : C ≤ Z.heap.size := by have := HF4.out.below.size; omega
          have HPV := Lib.hid (hpv.mono hCZ)
          have HB5 := Lib.hid hb5
          obtain ⟨ip, hip, hipz, hips, hipb⟩ := info_parts info_pk
          have HNB := Lib.hid (blk_at w5 (pkA 3 false m.retain m.qos 0 m.topic m.payload pv) 37 rfl)
          have hal := (Below.refl w5.heap.size w5).alloc (Nat.le_refl _) (.cells (pkA 3 false m.retain m.qos 0 m.topic m.payload pv) 37)
          have hw5 : Z.heap.size ≤ w5.heap.size := hb5.size
          have HO6 := Lib.hid ((HL4.out.below hb5).below hal)
          have HP6 := Lib.hid (show OpAt C _ (.pub m 0 false) pv from OpAt.below (p := .pub m 0 false) (show OpAt C w5 (.pub m 0 false) pv from HPV.out) hal)
          have HV6 := Lib.hid ((HV4.out.below hb5).below hal)
          have HF6 := Lib.hid (((HFN.out.trans (HF4.out.weaken (S' := goS mb v0) (Nat.le_refl _) (fun _ _ _ c => .inl c))).trans (Fr.of_below (S := goS mb v0) hb5 (by have := HV4.out.sz; omega))).trans (Fr.of_below (S := goS mb v0) hal (by have := HV4.out.sz; omega)))
          obtain ⟨w6, hw6⟩ : ∃ w6, w5.alloc (.cells (pkA 3 false m.retain m.qos 0 m.topic m.payload pv) 37) = w6 := ⟨_, rfl⟩
          rw [hw6] at HNB HO6 HP6 HV6 HF6
          have HE6 := Lib.hid hw6
          have hl6 : (L0 ++ L').length ≤ 1048576 := by rw [List.length_append]; omega
          have hC6 : C ≤ w6.heap.size := by have := HF6.out.below.size; omega
          have hz6 : w.heap.size ≤ w6.heap.size := HF6.out.below.size
          clear hpv hb5 hal hw6 q0 q1 q2 q3 q4 CP HL4 HFN HVN HMN
          go_wp2_with (first | (refine wpList_pkS _ (pkA 3 false m.retain m.qos 0 m.topic m.payload pv) rfl rfl rfl rfl w6 HE6.out ?_) | (refine wpList_out _ _ C u1 (L0 ++ L') (.pub m 0 false) pv w5.heap.size rfl rfl rfl rfl HO6.out HP6.out HNB.out hC6 hl6 ?_; intro v7 w7 ho7 hg7 hb7; have HO7 := Lib.hid ho7; have HG7 := Lib.hid hg7; have HV7 := Lib.hid hb7; clear ho7 hg7 hb7) | (fail))
          obtain ⟨xs6, hs6⟩ := HO6.out.sl
          have hfl7 : FlowAt B fp pb mb (pop0 s' r) w7 := ⟨_, _, HV6.out.grown hs6 HG7.out⟩
          refine ⟨⟨pop0 s' r, L' ++ [.pub m 0 false], Lib.hid hfl7, Lib.hid (by rw [← List.append_assoc]; exact HO7.out), Lib.hid ?_, Lib.hid ?_, Lib.hid ?_, ?_⟩, ?_⟩
          · rw [hG.out, Hx.out, List.append_assoc]; rfl
          · refine HF6.out.grown HG7.out (by omega) (fun k hk => by have := (hs6.lt k hk).1; omega) (fun k o hk _ => ?_)
            rcases hv.out with c | c
            · exact .inl (.inr (c ▸ hk))
            · exact .inr (c k hk)
          · rcases HV7.out with c | c
            · rcases hv.out with d | d
              · exact .inl (c.trans d)
              · exact .inr (fun k hk => d k (c ▸ hk))
            · exact .inr (fun k hk => by rw [c] at hk; injection hk with hk; omega)
          · show (L' ++ [_]).length + r.length ≤ _
            rw [List.length_append]; simp only [List.length_cons, List.length_nil]; omega
          · rw [hfl7.len, HLEN.out, HW.out]
            show r.length < (m :: r).length
            simp
end Go.Proofs.Ytnclobnnnihpfaa
