/- The document's flow: goOn. -/
import Derived.Test.YtnclobnnnihpfaaReB
import Derived.Test.YtnclobnnnihpfaaGoOn
namespace Go.Proofs.Ytnclobnnnihpfaa
set_option linter.unusedVariables false
open Go.RowKit Go.Maps

theorem DFlowAt.len {B fp pb : Nat} {s : FS} {w : World} (h : DFlowAt B fp pb s w) : wtLen fp w = s.wt.length := by
  obtain ⟨vf, vw, vl, L, h⟩ := h
  have c4 := h.blk.cell 4
  obtain ⟨ao, cap, rfl, -⟩ := h.wt.form
  unfold wtLen
  rw [c4]
  rfl
theorem DFlowV.drewN {B fp pb : Nat} {s : FS} {vf vw vl : Value} {L : List Int} {w : World} (h : DFlowV B fp pb s vf vw vl L w) (n : Nat) : DFlowV B fp pb s vf vw vl L (w.drewN n) :=
  ⟨h.ok, h.hB, h.blk, h.fl.drewN n, h.wt.drewN n, h.pool.drewN n⟩
theorem ROutAt.drewN {C : Nat} {w : World} {v : Value} {L : List OP} (h : ROutAt C w v L) (n : Nat) : ROutAt C (w.drewN n) v L := h.below (drewN_below w n)
/-- The first that waits is taken. -/
theorem DFlowV.pop {B fp pb : Nat} {s : FS} {m : OM} {r : List OM} {vf vw vl vw' : Value} {L : List Int} {w : World} (h : DFlowV B fp pb s vf vw vl L w) (hw : s.wt = m :: r) (h' : Sl B w 82 5 vw' r.length ((wtL (m :: r)).drop 5)) :
    DFlowV B fp pb (pop0 s r) vf vw' vl L (w.setCell ⟨fp, 4, none⟩ vw') ∧ Fr B refS w (w.setCell ⟨fp, 4, none⟩ vw') := by
  obtain ⟨p1, p2, p3, p4, p5⟩ := h.parts 4 vw'
  exact ⟨⟨h.ok.pop0 hw, h.hB, p1, p2, h'.set 4 _ (h'.ne h.blk (by decide)), p4⟩, p5⟩
theorem DPool.grown {B pb : Nat} {t : Int} {l L : List Int} {vl : Value} {w w' : World} {row : Option Nat} (h : DPool B pb t l vl L w) (hg : w.grownBy w' row) (h1 : row ≠ some pb) (h2 : ∀ k, vl.ownBlock = some k → row ≠ some k) : DPool B pb t l vl L w' :=
  ⟨h.hP, h.blk.grown hg h1, h.ls.grown hg h2, h.pm⟩
/-- A flight more. -/
theorem rflow_done {B fp pb : Nat} {s : FS} {m : OM} {r : List OM} {id : Int} {vf vw' vl v9 : Value} {L : List Int} {w2 w9 : World} (hok : FOk (pop1 s m r)) (hB : B ≤ fp) (hid : nextId (oids s.fl) s.taken = id)
    (hb : Blk w2 fp #[.pointer (some ⟨pb, 0, none⟩), .int .i64 s.most, .bool s.on, vf, vw'] 80) (hs : Sl B w2 102 7 vf s.fl.length (flL s.fl)) (hw : Sl B w2 82 5 vw' r.length (wtL r))
    (hp : DPool B pb id (oids s.fl ++ [id]) vl L w2) (hg : w2.drew.grownBy w9 vf.ownBlock) (h9 : Sl B w9 102 7 v9 (s.fl.length + 1) (flL s.fl ++ (ofA ⟨id, m, false⟩).toList)) :
    DFlowV B fp pb (pop1 s m r) v9 vw' vl L (w9.setCell ⟨fp, 3, none⟩ v9) ∧ Fr B refS w2 (w9.setCell ⟨fp, 3, none⟩ v9) := by
  subst hid
  have hb9 := Blk.grown (w := w2.drew) hb hg (hs.ne hb (by decide))
  have hw9 : Sl B w9 82 5 vw' r.length (wtL r) := Sl.grown (w := w2.drew) hw hg (fun k hk => hw.ne2 hs (by decide) k hk)
  have hp9 := DPool.grown (w := w2.drew) (show DPool B pb _ _ vl L w2.drew from ⟨hp.hP, hp.blk, hp.ls, hp.pm⟩) hg (hs.ne hp.blk (by decide)) (fun k hk => hp.ls.ne2 hs (by decide) k hk)
  have hf9 : Fr B refS w2 w9 := (Fr.refl B _ w2).drew.grown hg (Nat.le_trans hB (Nat.le_of_lt hb.lt)) (fun k hk => (hs.lt k hk).1) (fun k o hk ho => by
    obtain ⟨cur, e⟩ := hs.obj k o hk ho
    subst e
    exact .inl (refS_cells (.inr (.inr (.inl rfl)))))
  refine ⟨⟨hok, hB, hb9.set 3 v9, ?_, hw9.set 3 v9 (hw9.ne hb9 (by decide)), hp9.hP, hp9.blk.other (blk_ne hp9.blk hb9 (by decide)) 3 v9, hp9.ls.set 3 v9 (hp9.ls.ne hb9 (by decide)), ?_⟩, hf9.set hb9 hB (fun _ _ => refS_cells (.inl rfl)) 3 v9⟩
  · have := h9.set (R := fp) 3 v9 (h9.ne hb9 (by decide))
    rw [← flL_snoc] at this
    show Sl B _ _ 7 v9 (s.fl ++ [_]).length (flL (s.fl ++ [_]))
    rw [List.length_append]
    exact this
  · have := hp9.pm
    show L.Perm (oids (s.fl ++ [_]))
    unfold oids at this ⊢
    rw [List.map_append]
    exact this
/-- What goes out grows: the flow stays. -/
theorem DFlowV.grown {B C fp pb n : Nat} {s : FS} {vf vw vl v : Value} {L : List Int} {xs : List Value} {w w' : World} (h : DFlowV B fp pb s vf vw vl L w) (hs : Sl C w 56 26 v n xs) (hg : w.grownBy w' v.ownBlock) : DFlowV B fp pb s vf vw vl L w' :=
  ⟨h.ok, h.hB, h.blk.grown hg (hs.ne h.blk (by decide)), h.fl.grown hg (fun k hk => h.fl.ne2 hs (by decide) k hk), h.wt.grown hg (fun k hk => h.wt.ne2 hs (by decide) k hk), h.pool.grown hg (hs.ne h.pool.blk (by decide)) (fun k hk => h.pool.ls.ne2 hs (by decide) k hk)⟩
/-- What goOn turns. -/
def rgoS (v0 : Value) (k : Nat) (o : Obj) : Prop := refS k o ∨ v0.ownBlock = some k
/-- .. and comes to. -/
def RGoPost (B C fp pb : Nat) (s : FS) (v0 : Value) (L0 : List OP) (w : World) (e : Ending) (w' : World) : Prop := ∃ v', e = .returned v' ∧ DFlowAt B fp pb (goOn s).1 w' ∧ ROutAt C w' v' (L0 ++ (goOn s).2) ∧ Fr B (rgoS v0) w w'
theorem rgoPost_mk {B C fp pb : Nat} {s s1 : FS} {L0 L1 : List OP} {v0 v' : Value} {w w' : World} (he : goOn s = (s1, L1)) (h1 : DFlowAt B fp pb s1 w') (h2 : ROutAt C w' v' (L0 ++ L1)) (h3 : Fr B (rgoS v0) w w') : RGoPost B C fp pb s v0 L0 w (.returned v') w' := by
  refine ⟨v', rfl, ?_, ?_, h3⟩
  · rw [he]; exact h1
  · rw [he]; exact h2
/-- 'p := Publish(..); []Packet{p}': the worlds. -/
theorem rpk_laid (w5 : World) (cs : Array Value) (Y Z w6 : World) (hY : w5.alloc (.cells rzpk 56) = Y) (hZ : Y.setRow w5.heap.size cs = Z) (h6 : Z.alloc (.cells cs 56) = w6) :
    Blk Y w5.heap.size rzpk 56 ∧ Blk Z w5.heap.size cs 56 ∧ Blk w6 Z.heap.size cs 56 ∧ Below w5.heap.size w5 w6 := by
  subst hY hZ h6
  have b1 := blk_at w5 rzpk 56 rfl
  have hb := below_setRow ((Below.refl w5.heap.size w5).alloc (Nat.le_refl _) (.cells rzpk 56)) (Nat.le_refl _) cs
  exact ⟨b1, b1.setRow, blk_at _ _ _ rfl, hb.alloc hb.size _⟩
set_option maxHeartbeats 4000000 in
set_option maxRecDepth 100000 in
theorem rgoOn_any (B C fp pb : Nat) (s : FS) (v0 : Value) (L0 : List OP) (w : World) (h : DFlowAt B fp pb s w) (ho : ROutAt C w v0 L0) (hl : L0.length ≤ 65) (hBC : B ≤ C) (hC : C ≤ w.heap.size) :
    Calls Try.prog 36 #[.pointer (some ⟨fp, 0, none⟩), v0] w (RGoPost B C fp pb s v0 L0 w) := by
  have H := Lib.hid h
  have HO := Lib.hid ho
  have hl0 := h.ok.wt
  obtain ⟨vf0, vw0, vl0, LL0, h⟩ := h
  have c2 := h.blk.cell 2
  simp only [List.getElem?_toArray, List.getElem?_cons_zero, List.getElem?_cons_succ] at c2
  clear h ho
  cases hon : s.on with
  | false =>
    rw [hon] at c2
    have Hx := Lib.hid (goOn_off hon)
    clear hon
    go_enter Try.func36, Try.ntmps36
    go_wp2
    go_ret
    exact rgoPost_mk Hx.out H.out (by rw [List.append_nil]; exact HO.out) (Fr.refl _ _ _)
  | true =>
  rw [hon] at c2
  have HON := Lib.hid hon
  clear hon
  go_enter Try.func36, Try.ntmps36
  go_wp2_with fail
  clear c2
  go_loopw [1] (fun v wr => ∃ (s' : FS) (L' : List OP), Hid (s'.on = true) ∧ Hid (DFlowAt B fp pb s' wr) ∧ Hid (ROutAt C wr v (L0 ++ L')) ∧ Hid (goOn s = ((goOn s').1, L' ++ (goOn s').2)) ∧ Hid (Fr B (rgoS v0) w wr) ∧ Hid (v.ownBlock = v0.ownBlock ∨ ∀ k, v.ownBlock = some k → w.heap.size ≤ k) ∧ L'.length + s'.wt.length ≤ s.wt.length) (fun _ wr => wtLen fp wr)
  case atStart => exact ⟨s, [], HON, H, Lib.hid (by rw [List.append_nil]; exact HO.out), Lib.hid rfl, Lib.hid (Fr.refl _ _ _), Lib.hid (.inl rfl), by simp⟩
  case round =>
    obtain ⟨s', L', Hon, hF, hL, hG, hFr, hv, hlen⟩ := hrel
    obtain ⟨vf, vw, vl, LL, hV⟩ := hF.out
    have HV := Lib.hid hV
    clear hV
    have c0 := HV.out.blk.cell 0
    have c1 := HV.out.blk.cell 1
    have c3 := HV.out.blk.cell 3
    have c4 := HV.out.blk.cell 4
    simp only [List.getElem?_toArray, List.getElem?_cons_zero, List.getElem?_cons_succ] at c0 c1 c3 c4
    cases hw : s'.wt with
    | nil =>
      have hwt := HV.out.wt
      rw [hw] at hwt
      obtain ⟨ao, cap, e4, -⟩ := hwt.form
      simp only [List.length_nil] at e4
      subst e4
      have Hx := Lib.hid (goOn_empty hw)
      clear hwt hw
      go_wp2
      go_ret
      have e := hG.out
      rw [Hx.out] at e
      exact rgoPost_mk e hF.out (by rw [List.append_nil]; exact hL.out) hFr.out
    | cons m r =>
      have hwt := HV.out.wt
      rw [hw] at hwt
      rw [hw] at hlen
      simp only [List.length_cons] at hwt hlen
      obtain ⟨g, o, cap, e4, hBg, hgl, hcap, hcm, hcl⟩ := hwt.at (by omega)
      subst e4
      have m0 := hcl 0 (.string m.topic) rfl
      have m1 := hcl 1 (.string m.payload) rfl
      have m2 := hcl 2 (.int .i64 m.qos) rfl
      have m3 := hcl 3 (.bool m.retain) rfl
      have m4 := hcl 4 (.string m.tag) rfl
      simp only [Nat.add_zero] at m0
      have HWT := Lib.hid hwt
      have HW := Lib.hid hw
      have HLEN := Lib.hid (DFlowAt.len hF.out)
      have hmq := HV.out.ok.wq m (by rw [hw]; exact List.mem_cons_self ..)
      have hrl : r.length ≤ 256 := by omega
      unfold maxLen at hcm
      clear hwt hw hcl
      go_wp2
      have hY := (Below.refl wr.heap.size wr).alloc (Nat.le_refl _) (.cells #[.string m.topic, .string m.payload, .int .i64 m.qos, .bool m.retain, .string m.tag] 82)
      have hb := blk_at wr #[.string m.topic, .string m.payload, .int .i64 m.qos, .bool m.retain, .string m.tag] 82 rfl
      obtain ⟨Y, hYe⟩ : ∃ Y, wr.alloc (.cells #[.string m.topic, .string m.payload, .int .i64 m.qos, .bool m.retain, .string m.tag] 82) = Y := ⟨_, rfl⟩
      rw [hYe] at hY hb ⊢
      have HVY := Lib.hid (HV.out.below hY)
      have HLY := Lib.hid (hL.out.below hY)
      have HFY := Lib.hid (hFr.out.trans (Fr.of_below (S := rgoS v0) hY HV.out.sz))
      have HMB := Lib.hid hb
      have hsz : wr.heap.size < Y.heap.size := hb.lt
      have hwz : w.heap.size ≤ wr.heap.size := hFr.out.below.size
      have d0 := HVY.out.blk.cell 0
      have d1 := HVY.out.blk.cell 1
      have d3 := HVY.out.blk.cell 3
      have d4 := HVY.out.blk.cell 4
      have n2 := HMB.out.cell 2
      simp only [List.getElem?_toArray, List.getElem?_cons_zero, List.getElem?_cons_succ] at d0 d1 d3 d4 n2
      clear hYe hY hb c0 c1 c3 c4 m0 m1 m2 m3 m4 hF HV hL hFr
      by_cases hq : 0 < m.qos
      · by_cases hf : s'.most ≤ s'.fl.length
        · have Hx := Lib.hid (goOn_full HW.out hq hf)
          obtain ⟨ao, fcap, e3, -⟩ := HVY.out.fl.form
          rw [e3] at d3
          have E3 := Lib.hid e3
          clear e3
          go_quiet (fail)
          go_wp2
          go_ret
          have e := hG.out
          rw [Hx.out] at e
          exact rgoPost_mk e ⟨_, _, _, _, HVY.out.drewN nq⟩ (by rw [List.append_nil]; exact HLY.out.drewN nq) (HFY.out.drewN nq)
        · have Hx := Lib.hid (goOn_1 Hon.out HW.out hq hf)
          have Hk1 := Lib.hid (HVY.out.ok.pop1 HW.out hq hf)
          obtain ⟨ao, fcap, e3, -⟩ := HVY.out.fl.form
          rw [e3] at d3
          have E3 := Lib.hid e3
          have hml : s'.fl.length ≤ 63 := by have := HVY.out.ok.m1; omega
          clear e3
          go_quiet (fail)
          have HVN := Lib.hid (HVY.out.drewN nq)
          have HLN := Lib.hid (HLY.out.drewN nq)
          have HFN := Lib.hid (HFY.out.drewN nq)
          have HMN := Lib.hid (show Blk (Y.drewN nq) wr.heap.size _ _ from HMB.out)
          have hzn : (Y.drewN nq).heap.size = Y.heap.size := rfl
          obtain ⟨Y1, hY1⟩ : ∃ Y1, Y.drewN nq = Y1 := ⟨_, rfl⟩
          rw [hY1] at HVN HLN HFN HMN hzn ⊢
          have hsz1 : wr.heap.size < Y1.heap.size := by omega
          have x0 := HVN.out.blk.cell 0
          have x3 := HVN.out.blk.cell 3
          have x4 := HVN.out.blk.cell 4
          have y4 := HVN.out.blk.frozen 4
          have z2 := HMN.out.cell 2
          simp only [List.getElem?_toArray, List.getElem?_cons_zero, List.getElem?_cons_succ] at x0 x3 x4 z2
          clear d0 d1 d3 d4 n2 hY1 hzn HVY HLY HFY HMB HWT
          have HWS := Lib.hid (by have := HVN.out.wt; rw [HW.out] at this; exact this)
          obtain ⟨im, him, himz, hims, himb⟩ := info_parts rinfo_m
          obtain ⟨li, hli, hl1⟩ := map_some rinfo_oms
          have hqz : (m.qos == 0) = false := by rw [beq_eq_false_iff_ne]; omega
          go_wp2_with (first
            | (refine wpList_tail_sl _ 78 im rfl rfl Try.underlying78 him hims r.length _ _ rfl HWS.out ?_
               intro g' o' c' hsl hg'
               have HSL := Lib.hid hsl
               clear hsl hg')
            | (refine wpList_storeN rfl 78 (.tmp 51) (.tmp 49) rfl rfl fp 4 (.slice (some ⟨g', o', none⟩) r.length c') _ rfl rfl rfl hli hl1 x4 y4 ?_
               intro Z hZ
               have hpp := HVN.out.pop HW.out HSL.out
               have hmz := HMN.out.other (R' := fp) (blk_ne HMN.out HVN.out.blk (by decide)) 4 (.slice (some ⟨g', o', none⟩) r.length c')
               rw [hZ] at hpp hmz
               have HV1 := Lib.hid hpp.1
               have HF1 := Lib.hid hpp.2
               have HMZ := Lib.hid hmz
               have z0 : Z.cell? ⟨fp, 0, none⟩ = some (.pointer (some ⟨pb, 0, none⟩)) := HV1.out.blk.cell 0
               have z2' : Z.cell? ⟨wr.heap.size, 2, none⟩ = some (.int .i64 m.qos) := HMZ.out.cell 2
               have CT := Lib.hid (rtake_any B pb s'.taken (oids s'.fl) LL vl Z HV1.out.pool (by rw [oids_length]; omega) HVN.out.ok.t0 HVN.out.ok.t1)
               clear hZ hpp hmz x0 x3 x4 y4 z2)
            | (fail))
          refine CT.out.mono ?_
          rintro e w2 ⟨rfl, vl2, hp2, hf2⟩
          have HP2 := Lib.hid hp2
          have HB2 := Lib.hid (HV1.out.blk.only hf2 HV1.out.pool (by decide))
          have HS2 := Lib.hid (HV1.out.fl.only hf2 HV1.out.pool (by decide))
          have HW2 := Lib.hid (HV1.out.wt.only hf2 HV1.out.pool (by decide))
          have HM2 := Lib.hid (HMZ.out.only hf2 HV1.out.pool (by decide))
          have HF2 := Lib.hid (HF1.out.trans (hf2.only HV1.out.pool))
          obtain ⟨id, hid⟩ : ∃ id, nextId (oids s'.fl) s'.taken = id := ⟨_, rfl⟩
          rw [hid] at HP2 ⊢
          have HID := Lib.hid hid
          clear hp2 hf2 hid HV1 HF1 HMZ z0 z2' CT
          go_wp2
          have HMD := Lib.hid (HM2.out.drew)
          have hgS : ∀ w', w2.drew.grownBy w' vf.ownBlock → Blk w' wr.heap.size #[.string m.topic, .string m.payload, .int .i64 m.qos, .bool m.retain, .string m.tag] 82 := fun w' hg => Blk.grown (w := w2.drew) HM2.out hg (HS2.out.ne HM2.out (by decide))
          obtain ⟨i1, hi1, hi1z, hi1s, hi1b⟩ := info_parts rinfo_f
          obtain ⟨lf, hlf, hlf1⟩ := map_some rinfo_fls
          have hBz : B ≤ w2.drew.heap.size := Nat.le_trans HP2.out.hP (Nat.le_of_lt HP2.out.blk.lt)
          have h63 : s'.fl.length + 1 ≤ 64 := by omega
          refine wp_region_held (S := (fun X => Blk X wr.heap.size #[.string m.topic, .string m.payload, .int .i64 m.qos, .bool m.retain, .string m.tag] 82)) (by kernel_rfl) ?_
          change wpAnyH _ _ _ _ _ _ _ _ w2.drew
          refine wpAnyH_takeD (i := 0) (d := 69) (v := .pointer (some ⟨fp, 0, none⟩)) rfl rfl (by kernel_rfl) (by kernel_rfl) (by kernel_rfl) (fun _ _ _ h => h) (y_move _ rfl rfl rfl) HMD.out ?_
          simp only [Act.put, List.setIfInBounds_toArray, List.set_cons_succ, List.set_cons_zero]
          refine wpAnyH_takeD (i := 1) (d := 70) (v := .pointer (some ⟨fp, 0, none⟩)) rfl rfl (by kernel_rfl) (by kernel_rfl) (by kernel_rfl) (fun _ _ _ h => h) (y_move _ rfl rfl rfl) HMD.out ?_
          simp only [Act.put, List.setIfInBounds_toArray, List.set_cons_succ, List.set_cons_zero]
          refine wpAnyH_takeD (i := 2) (d := 71) (v := .pointer (some ⟨fp, 0, none⟩)) rfl rfl (by kernel_rfl) (by kernel_rfl) (by kernel_rfl) (fun _ _ _ h => h) (y_nil _ rfl rfl rfl) HMD.out ?_
          simp only [Act.put, List.setIfInBounds_toArray, List.set_cons_succ, List.set_cons_zero]
          refine wpAnyH_takeD (i := 3) (d := 72) (v := .pointer (some ⟨fp, 3, none⟩)) rfl rfl (by kernel_rfl) (by kernel_rfl) (by kernel_rfl) (fun _ _ _ h => h) (y_field _ rfl rfl rfl (fun w => by go_simp)) HMD.out ?_
          simp only [Act.put, List.setIfInBounds_toArray, List.set_cons_succ, List.set_cons_zero]
          refine wpAnyH_takeD (i := 5) (d := 74) (v := .int .i64 id) rfl rfl (by kernel_rfl) (by kernel_rfl) (by kernel_rfl) (fun _ _ _ h => h) (y_move _ rfl rfl rfl) HMD.out ?_
          simp only [Act.put, List.setIfInBounds_toArray, List.set_cons_succ, List.set_cons_zero]
          refine wpAnyH_takeD (i := 6) (d := 75) (v := .agg #[.string m.topic, .string m.payload, .int .i64 m.qos, .bool m.retain, .string m.tag]) rfl rfl (by kernel_rfl) (by kernel_rfl) (by kernel_rfl) (fun _ _ _ h => h) (y_load _ rfl rfl rfl (fun w hw => run_loadAt_row w wr.heap.size 82 82 _ (0, 0) _ hw Try.underlying82 rfl rom_size)) HMD.out ?_
          simp only [Act.put, List.setIfInBounds_toArray, List.set_cons_succ, List.set_cons_zero]
          refine wpAnyH_takeD (i := 7) (d := 76) (v := .agg (ofA ⟨id, m, false⟩)) rfl rfl (by kernel_rfl) (by kernel_rfl) (by kernel_rfl) (fun _ _ _ h => h) (y_build _ rfl rfl (by kernel_rfl)) HMD.out ?_
          simp only [Act.put, List.setIfInBounds_toArray, List.set_cons_succ, List.set_cons_zero]
          change wpAnyH _ _ _ _ _ 6 (lst 13 [0, 1, 2, 3, 5, 6, 7]) _ _
          refine load_make_append (D := [73, 77]) (k := 3) (i0 := 4) (i1 := 8) (i2 := 9) (d1 := 73) (d2 := 77) (d3 := 78) (b := fp) (f := 3) (B := B) (sz := 7) (n := s'.fl.length) (T := 77) (e := 102) (v := vf) (xs := (flL s'.fl)) (new := (ofA ⟨id, m, false⟩)) (by kernel_rfl) (by decide) (by decide) (by simp) (by simp) (by decide) (by decide) (mk_load _ rfl rfl rfl rfl (by decide) rfl Try.underlying77) (mk_make _ rfl rfl rfl rfl (by decide) rfl Try.underlying77 hi1 hi1z hi1s (by decide) (by decide) (by kernel_rfl)) ⟨_, _, _, _, _, rfl, rfl, rfl, rfl, Try.underlying77, hi1, hi1z, hi1s, hi1b, rfl, by omega⟩ (by decide) rfl (ofA_one _) (by unfold maxLen; omega) hBz (HB2.out.cell 3) HS2.out.drew hgS ?_
          intro v9 w9 hs9 hg9 ho9
          simp only [Act.put, List.setIfInBounds_toArray, List.set_cons_succ, List.set_cons_zero]
          change wpAnyH _ _ _ _ _ 3 (lst 13 [0, 1, 2, 3, 4, 5, 6, 7, 8, 9]) _ _
          refine wpAnyH_takeD (i := 10) (d := 79) (v := .pointer (some ⟨fp, 0, none⟩)) rfl rfl (by kernel_rfl) (by kernel_rfl) (by kernel_rfl) (fun _ _ _ h => h) (y_nil _ rfl rfl rfl) (hgS _ hg9) ?_
          simp only [Act.put, List.setIfInBounds_toArray, List.set_cons_succ, List.set_cons_zero]
          refine wpAnyH_takeD (i := 11) (d := 80) (v := .pointer (some ⟨fp, 3, none⟩)) rfl rfl (by kernel_rfl) (by kernel_rfl) (by kernel_rfl) (fun _ _ _ h => h) (y_field _ rfl rfl rfl (fun w => by go_simp)) (hgS _ hg9) ?_
          simp only [Act.put, List.setIfInBounds_toArray, List.set_cons_succ, List.set_cons_zero]
          change wpAnyH _ _ _ _ _ 1 (lst 13 [0, 1, 2, 3, 4, 5, 6, 7, 8, 9, 10, 11]) _ _
          obtain ⟨ao9, cap9, ev9, -⟩ := hs9.form
          refine wpAnyH_store (i := 12) (t := 80) (u := 78) (b := fp) (f := 3) (v := v9) (v0 := vf) _ rfl rfl rfl rfl hlf hlf1 (by kernel_rfl) (by kernel_rfl) rfl rfl (by rw [ev9]; rfl) ((Blk.grown (w := w2.drew) HB2.out hg9 (HS2.out.ne HB2.out (by decide))).cell 3) ((Blk.grown (w := w2.drew) HB2.out hg9 (HS2.out.ne HB2.out (by decide))).frozen 3) ?_ ?_
          · exact (hgS _ hg9).other (blk_ne (hgS _ hg9) (Blk.grown (w := w2.drew) HB2.out hg9 (HS2.out.ne HB2.out (by decide))) (by decide)) 3 v9
          have hdone := rflow_done (B := B) (vw' := .slice (some ⟨g', o', none⟩) r.length c') Hk1.out HVN.out.hB HID.out HB2.out HS2.out HW2.out HP2.out hg9 hs9
          have hm4 := (hgS _ hg9).other (R' := fp) (blk_ne (hgS _ hg9) (Blk.grown (w := w2.drew) HB2.out hg9 (HS2.out.ne HB2.out (by decide))) (by decide)) 3 v9
          obtain ⟨w4, hw4⟩ : ∃ w4, w9.setCell ⟨fp, 3, none⟩ v9 = w4 := ⟨_, rfl⟩
          rw [hw4] at hdone hm4 ⊢
          obtain ⟨hV4, hf4⟩ := hdone
          have HV4 := Lib.hid hV4
          have HF4 := Lib.hid (HF2.out.trans hf4)
          have HL4 := Lib.hid (HLN.out.fr HF4.out (fun k cs _ => refS_not (by unfold refT; decide)) (fun k cs => refS_not (by unfold refT; decide)))
          have q0 := hm4.cell 0
          have q1 := hm4.cell 1
          have q2 := hm4.cell 2
          have q3 := hm4.cell 3
          have q4 := hm4.cell 4
          simp only [List.getElem?_toArray, List.getElem?_cons_zero, List.getElem?_cons_succ] at q0 q1 q2 q3 q4
          have CP := Lib.hid (rpub_any m id false w4)
          clear hw4 hV4 hf4 hm4 hs9 hg9 ho9 ev9 hgS HMD HB2 HS2 HW2 HM2 HF2 HP2
          go_wp2_with fail
          refine CP.out.mono ?_
          rintro e w5 ⟨pv, rfl, hpv, hb5⟩
          have hCw4 : C ≤ w4.heap.size := by have := HF4.out.below.size; omega
          have HPV := Lib.hid (hpv.mono hCw4)
          have hw5 : w4.heap.size ≤ w5.heap.size := hb5.size
          obtain ⟨Y5, hY5⟩ : ∃ Y5, w5.alloc (.cells rzpk 56) = Y5 := ⟨_, rfl⟩
          obtain ⟨Z5, hZ5⟩ : ∃ Z5, Y5.setRow w5.heap.size (rpkA 3 false m.retain m.qos id m.topic m.payload pv) = Z5 := ⟨_, rfl⟩
          obtain ⟨w6, hw6⟩ : ∃ w6, Z5.alloc (.cells (rpkA 3 false m.retain m.qos id m.topic m.payload pv) 56) = w6 := ⟨_, rfl⟩
          obtain ⟨l1, l2, l3, l4⟩ := rpk_laid w5 (rpkA 3 false m.retain m.qos id m.topic m.payload pv) Y5 Z5 w6 hY5 hZ5 hw6
          have L1 := Lib.hid l1
          have L2 := Lib.hid l2
          have L3 := Lib.hid l3
          have L4 := Lib.hid l4
          have HZ5 := Lib.hid hZ5
          have HE6 := Lib.hid hw6
          have HO6 := Lib.hid ((HL4.out.below hb5).below l4)
          have HP6 := Lib.hid (show ROpAt C w6 (.pub m id false) pv from ROpAt.below (p := .pub m id false) (show ROpAt C w5 (.pub m id false) pv from HPV.out) l4)
          have HV6 := Lib.hid ((HV4.out.below hb5).below l4)
          have HF6 := Lib.hid (((HFN.out.trans (HF4.out.weaken (S' := rgoS v0) (Nat.le_refl _) (fun _ _ _ c => .inl c))).trans (Fr.of_below (S := rgoS v0) hb5 (by have := HV4.out.sz; omega))).trans (Fr.of_below (S := rgoS v0) l4 (by have := HV4.out.sz; omega)))
          have PO := Lib.hid (show (rpkA 3 false m.retain m.qos id m.topic m.payload pv).all (·.oneCell') = true from rpk_one _ _ _ _ _ _ _ _ (by rcases HPV.out with ⟨_, c⟩ | ⟨_, g, _, c, _⟩ <;> (rw [c]; rfl)))
          have hl6 : (L0 ++ L').length ≤ 1048576 := by rw [List.length_append]; omega
          have hC6 : C ≤ w6.heap.size := by have := HF6.out.below.size; omega
          have hz6 : w.heap.size ≤ w6.heap.size := HF6.out.below.size
          unfold rzpk rpkA at hY5
          clear l1 l2 l3 l4 hZ5 hw6 hpv hb5 q0 q1 q2 q3 q4 CP HL4 HFN HVN HMN
          go_wp2_with (first | (refine wpList_store_rowZ rfl 56 (.tmp 9) (.tmp 83) rfl rfl w5.heap.size (rpkA 3 false m.retain m.qos id m.topic m.payload pv) rfl rfl 56 rzpk L1.out dpk_size rfl PO.out Z5 HZ5.out ?_) | (refine wpList_load_row rfl 56 (.tmp 9) rfl w5.heap.size rfl 56 (rpkA 3 false m.retain m.qos id m.topic m.payload pv) (0, 0) _ L2.out Try.underlying56 rfl dpk_size ?_) | (refine rwpList_pkS _ (rpkA 3 false m.retain m.qos id m.topic m.payload pv) rfl rfl rfl rfl w6 HE6.out ?_) | (refine rwpList_out _ _ C u1 (L0 ++ L') (.pub m id false) pv Z5.heap.size rfl rfl rfl rfl HO6.out HP6.out L3.out hC6 hl6 ?_; intro v7 w7 ho7 hg7 hb7; have HO7 := Lib.hid ho7; have HG7 := Lib.hid hg7; have HV7 := Lib.hid hb7; clear ho7 hg7 hb7) | (fail))
          obtain ⟨xs6, hs6⟩ := HO6.out.sl
          have hfl7 : DFlowAt B fp pb (pop1 s' m r) w7 := ⟨_, _, _, _, HV6.out.grown hs6 HG7.out⟩
          go_roundw
          case rel =>
            refine ⟨pop1 s' m r, L' ++ [.pub m id false], Lib.hid Hon.out, Lib.hid hfl7, Lib.hid (by rw [← List.append_assoc]; exact HO7.out), Lib.hid ?_, Lib.hid ?_, Lib.hid ?_, ?_⟩
            · rw [hG.out, Hx.out, HID.out, List.append_assoc]; rfl
            · refine HF6.out.grown HG7.out (by omega) (fun k hk => by have := (hs6.lt k hk).1; omega) (fun k o hk _ => ?_)
              rcases hv.out with c | c
              · exact .inl (.inr (c ▸ hk))
              · exact .inr (c k hk)
            · rcases HV7.out with c | c
              · rcases hv.out with d | d
                · exact .inl (c.trans d)
                · exact .inr (fun k hk => d k (c ▸ hk))
              · exact .inr (fun k hk => by rw [c] at hk; injection hk with hk; omega)
            · show (L' ++ [_]).length + r.length ≤ _
              rw [List.length_append]; simp only [List.length_cons, List.length_nil]; omega
          case measure =>
            rw [hfl7.len, HLEN.out, HW.out]
            show r.length < (m :: r).length
            simp
      · have Hx := Lib.hid (goOn_0 Hon.out HW.out hq)
        have hd : decide (0 < m.qos) = false := by simpa using hq
        have hq0 : m.qos = 0 := by have := hmq.1; omega
        have hqz : (m.qos == 0) = true := by rw [hq0]; rfl
        have HQ0 := Lib.hid hq0
        clear hq0
        go_quiet (fail)
        have HVN := Lib.hid (HVY.out.drewN nq)
        have HLN := Lib.hid (HLY.out.drewN nq)
        have HFN := Lib.hid (HFY.out.drewN nq)
        have HMN := Lib.hid (show Blk (Y.drewN nq) wr.heap.size _ _ from HMB.out)
        have hzn : (Y.drewN nq).heap.size = Y.heap.size := rfl
        obtain ⟨Y1, hY1⟩ : ∃ Y1, Y.drewN nq = Y1 := ⟨_, rfl⟩
        rw [hY1] at HVN HLN HFN HMN hzn ⊢
        have hsz1 : wr.heap.size < Y1.heap.size := by omega
        have x0 := HVN.out.blk.cell 0
        have x3 := HVN.out.blk.cell 3
        have x4 := HVN.out.blk.cell 4
        have y4 := HVN.out.blk.frozen 4
        have z2 := HMN.out.cell 2
        simp only [List.getElem?_toArray, List.getElem?_cons_zero, List.getElem?_cons_succ] at x0 x3 x4 z2
        clear d0 d1 d3 d4 n2 hY1 hzn HVY HLY HFY HMB HWT
        have HWS := Lib.hid (by have := HVN.out.wt; rw [HW.out] at this; exact this)
        obtain ⟨im, him, himz, hims, himb⟩ := info_parts rinfo_m
        obtain ⟨li, hli, hl1⟩ := map_some rinfo_oms
        go_wp2_with (first
          | (refine wpList_tail_sl _ 78 im rfl rfl Try.underlying78 him hims r.length _ _ rfl HWS.out ?_
             intro g' o' c' hsl hg'
             have HSL := Lib.hid hsl
             clear hsl hg')
          | (refine wpList_storeN rfl 78 (.tmp 51) (.tmp 49) rfl rfl fp 4 (.slice (some ⟨g', o', none⟩) r.length c') _ rfl rfl rfl hli hl1 x4 y4 ?_
             intro w4 hZ
             have hpp := HVN.out.pop HW.out HSL.out
             have hmz := HMN.out.other (R' := fp) (blk_ne HMN.out HVN.out.blk (by decide)) 4 (.slice (some ⟨g', o', none⟩) r.length c')
             rw [hZ] at hpp hmz
             have HV4 := Lib.hid hpp.1
             have HF4 := Lib.hid hpp.2
             have HL4 := Lib.hid (HLN.out.fr hpp.2 (fun k cs _ => refS_not (by unfold refT; decide)) (fun k cs => refS_not (by unfold refT; decide)))
             have q0 := hmz.cell 0
             have q1 := hmz.cell 1
             have q2 := hmz.cell 2
             have q3 := hmz.cell 3
             have q4 := hmz.cell 4
             simp only [List.getElem?_toArray, List.getElem?_cons_zero, List.getElem?_cons_succ] at q0 q1 q2 q3 q4
             have CP := Lib.hid (rpub_any m 0 false w4)
             clear hZ hpp hmz x0 x3 x4 y4 z2)
          | (fail))
        refine CP.out.mono ?_
        rintro e w5 ⟨pv, rfl, hpv, hb5⟩
        have hCw4 : C ≤ w4.heap.size := by have := HF4.out.below.size; omega
        have HPV := Lib.hid (hpv.mono hCw4)
        have hw5 : w4.heap.size ≤ w5.heap.size := hb5.size
        obtain ⟨Y5, hY5⟩ : ∃ Y5, w5.alloc (.cells rzpk 56) = Y5 := ⟨_, rfl⟩
        obtain ⟨Z5, hZ5⟩ : ∃ Z5, Y5.setRow w5.heap.size (rpkA 3 false m.retain m.qos 0 m.topic m.payload pv) = Z5 := ⟨_, rfl⟩
        obtain ⟨w6, hw6⟩ : ∃ w6, Z5.alloc (.cells (rpkA 3 false m.retain m.qos 0 m.topic m.payload pv) 56) = w6 := ⟨_, rfl⟩
        obtain ⟨l1, l2, l3, l4⟩ := rpk_laid w5 (rpkA 3 false m.retain m.qos 0 m.topic m.payload pv) Y5 Z5 w6 hY5 hZ5 hw6
        have L1 := Lib.hid l1
        have L2 := Lib.hid l2
        have L3 := Lib.hid l3
        have L4 := Lib.hid l4
        have HZ5 := Lib.hid hZ5
        have HE6 := Lib.hid hw6
        have HO6 := Lib.hid ((HL4.out.below hb5).below l4)
        have HP6 := Lib.hid (show ROpAt C w6 (.pub m 0 false) pv from ROpAt.below (p := .pub m 0 false) (show ROpAt C w5 (.pub m 0 false) pv from HPV.out) l4)
        have HV6 := Lib.hid ((HV4.out.below hb5).below l4)
        have HF6 := Lib.hid (((HFN.out.trans (HF4.out.weaken (S' := rgoS v0) (Nat.le_refl _) (fun _ _ _ c => .inl c))).trans (Fr.of_below (S := rgoS v0) hb5 (by have := HV4.out.sz; omega))).trans (Fr.of_below (S := rgoS v0) l4 (by have := HV4.out.sz; omega)))
        have PO := Lib.hid (show (rpkA 3 false m.retain m.qos 0 m.topic m.payload pv).all (·.oneCell') = true from rpk_one _ _ _ _ _ _ _ _ (by rcases HPV.out with ⟨_, c⟩ | ⟨_, g, _, c, _⟩ <;> (rw [c]; rfl)))
        have hl6 : (L0 ++ L').length ≤ 1048576 := by rw [List.length_append]; omega
        have hC6 : C ≤ w6.heap.size := by have := HF6.out.below.size; omega
        have hz6 : w.heap.size ≤ w6.heap.size := HF6.out.below.size
        unfold rzpk rpkA at hY5
        clear l1 l2 l3 l4 hZ5 hw6 hpv hb5 q0 q1 q2 q3 q4 CP HL4 HFN HVN HMN
        go_wp2_with (first | (refine wpList_store_rowZ rfl 56 (.tmp 6) (.tmp 56) rfl rfl w5.heap.size (rpkA 3 false m.retain m.qos 0 m.topic m.payload pv) rfl rfl 56 rzpk L1.out dpk_size rfl PO.out Z5 HZ5.out ?_) | (refine wpList_load_row rfl 56 (.tmp 6) rfl w5.heap.size rfl 56 (rpkA 3 false m.retain m.qos 0 m.topic m.payload pv) (0, 0) _ L2.out Try.underlying56 rfl dpk_size ?_) | (refine rwpList_pkS _ (rpkA 3 false m.retain m.qos 0 m.topic m.payload pv) rfl rfl rfl rfl w6 HE6.out ?_) | (refine rwpList_out _ _ C u1 (L0 ++ L') (.pub m 0 false) pv Z5.heap.size rfl rfl rfl rfl HO6.out HP6.out L3.out hC6 hl6 ?_; intro v7 w7 ho7 hg7 hb7; have HO7 := Lib.hid ho7; have HG7 := Lib.hid hg7; have HV7 := Lib.hid hb7; clear ho7 hg7 hb7) | (fail))
        obtain ⟨xs6, hs6⟩ := HO6.out.sl
        have hfl7 : DFlowAt B fp pb (pop0 s' r) w7 := ⟨_, _, _, _, HV6.out.grown hs6 HG7.out⟩
        go_roundw
        case rel =>
          refine ⟨pop0 s' r, L' ++ [.pub m 0 false], Lib.hid Hon.out, Lib.hid hfl7, Lib.hid (by rw [← List.append_assoc]; exact HO7.out), Lib.hid ?_, Lib.hid ?_, Lib.hid ?_, ?_⟩
          · rw [hG.out, Hx.out, List.append_assoc]; rfl
          · refine HF6.out.grown HG7.out (by omega) (fun k hk => by have := (hs6.lt k hk).1; omega) (fun k o hk _ => ?_)
            rcases hv.out with c | c
            · exact .inl (.inr (c ▸ hk))
            · exact .inr (c k hk)
          · rcases HV7.out with c | c
            · rcases hv.out with d | d
              · exact .inl (c.trans d)
              · exact .inr (fun k hk => d k (c ▸ hk))
            · exact .inr (fun k hk => by rw [c] at hk; injection hk with hk; omega)
          · show (L' ++ [_]).length + r.length ≤ _
            rw [List.length_append]; simp only [List.length_cons, List.length_nil]; omega
        case measure =>
          rw [hfl7.len, HLEN.out, HW.out]
          show r.length < (m :: r).length
          simp
end Go.Proofs.Ytnclobnnnihpfaa
