/- outflow.Flow's Send. -/
import Derived.Test.YtnclobnnnihpfaaGoOn
namespace Go.Proofs.Ytnclobnnnihpfaa
set_option linter.unusedVariables false
open Go.RowKit Go.Maps

theorem goS_nil {mb k : Nat} {o : Obj} (h : goS mb (.slice none 0 0) k o) : flowS mb k o := by
  rcases h with h | h
  · exact h
  · cases h
/-- A message more waits. -/
theorem flow_add {B fp pb mb : Nat} {s : FS} {m : OM} {vf vw v9 : Value} {w2 w9 : World} (hV : FlowV B fp pb mb s vf vw w2) (hok : FOk { s with wt := s.wt ++ [m] })
    (hg : w2.drew.grownBy w9 vw.ownBlock) (h9 : Sl B w9 43 5 v9 (s.wt.length + 1) (wtL s.wt ++ (omA m).toList)) :
    FlowV B fp pb mb { s with wt := s.wt ++ [m] } vf v9 (w9.setCell ⟨fp, 4, none⟩ v9) ∧ Fr B (flowS mb) w2 (w9.setCell ⟨fp, 4, none⟩ v9) := by
  obtain ⟨_, hB, hb, hf, hs, hp⟩ := hV
  have hb9 := Blk.grown (w := w2.drew) hb hg (hs.ne hb (by decide))
  have hf9 : Sl B w9 45 7 vf s.fl.length (flL s.fl) := Sl.grown (w := w2.drew) hf hg (fun k hk => hf.ne2 hs (by decide) k hk)
  have hp9 : Blk w9 pb _ _ := Blk.grown (w := w2.drew) hp.2.2.1 hg (hs.ne hp.2.2.1 (by decide))
  have hi9 : Ids mb _ w9 := hp.2.2.2.same (hg.block mb hp.2.2.2.lt (by
    intro c
    obtain ⟨o, ho⟩ : ∃ o, w2.heap[mb]? = some o := ⟨_, Array.getElem?_eq_getElem hp.2.2.2.lt⟩
    obtain ⟨cur, e1⟩ := hs.obj mb o c.symm ho
    obtain ⟨es, cl, e2⟩ := hp.2.2.2.obj
    rw [e2] at ho
    cases ho
    cases e1))
  have hr9 : Fr B (flowS mb) w2 w9 := (Fr.refl B _ w2).drew.grown hg (Nat.le_trans hB (Nat.le_of_lt hb.lt)) (fun k hk => (hs.lt k hk).1) (fun k o hk ho => by
    obtain ⟨cur, e⟩ := hs.obj k o hk ho
    subst e
    exact .inl (flowS_cells (.inr (.inr (.inr rfl)))))
  refine ⟨⟨hok, hB, hb9.set 4 v9, hf9.set 4 v9 (hf9.ne hb9 (by decide)), ?_, hp.1, hp.2.1, hp9.other (blk_ne hp9 hb9 (by decide)) 4 v9, hi9.same (Below.heap_setCell _ _ _ _ (hi9.ne hb9))⟩, hr9.set hb9 hB (fun _ _ => flowS_cells (.inl rfl)) 4 v9⟩
  have := h9.set (R := fp) 4 v9 (h9.ne hb9 (by decide))
  rw [← wtL_snoc] at this
  show Sl B _ _ 5 v9 (s.wt ++ [_]).length (wtL (s.wt ++ [_]))
  rw [List.length_append]
  exact this
set_option maxHeartbeats 4000000 in
set_option maxRecDepth 100000 in
theorem fsend_any (B fp pb mb : Nat) (s : FS) (m : OM) (w : World) (h : FlowAt B fp pb mb s w) :
    Calls Try.prog 15 #[.pointer (some ⟨fp, 0, none⟩), .agg (omA m)] w fun e w' => ∃ v', e = .returned (.tuple #[v', .int .u8 (fsend s m).2.2]) ∧ FlowAt B fp pb mb (fsend s m).1 w' ∧ OutAt w.heap.size w' v' (fsend s m).2.1 ∧ Fr B (flowS mb) w w' := by
  have hY := (Below.refl w.heap.size w).alloc (Nat.le_refl _) (.cells (omA m) 43)
  have hb := blk_at w (omA m) 43 rfl
  obtain ⟨topic, payload, qos, retain, tag⟩ := m
  unfold omA at hb hY ⊢
  simp only at hb hY ⊢
  obtain ⟨Y, hYe⟩ : ∃ Y, w.alloc (.cells #[.string topic, .string payload, .int .i64 qos, .bool retain, .string tag] 43) = Y := ⟨_, rfl⟩
  rw [hYe] at hY hb
  obtain ⟨vf, vw, h⟩ := h
  have NB := Lib.hid (show vw.ownBlock ≠ some w.heap.size from fun c => by have := (h.wt.lt _ c).2; omega)
  have hV := h.below hY
  have HV := Lib.hid hV
  have HF := Lib.hid (Fr.of_below (S := flowS mb) hY h.sz)
  have HMB := Lib.hid hb
  have HE := Lib.hid hYe
  have hsz : B ≤ w.heap.size := h.sz
  have hwY : w.heap.size < Y.heap.size := hb.lt
  have n2 := hb.cell 2
  have c2 := hV.blk.cell 2
  have c4 := hV.blk.cell 4
  simp only [List.getElem?_toArray, List.getElem?_cons_zero, List.getElem?_cons_succ] at n2 c2 c4
  have hnil : ∀ W, OutAt w.heap.size W (.slice none 0 0) [] := fun W => OutAt.nil _ W
  have HN := Lib.hid hnil
  clear hYe hY hb hV h hnil
  by_cases h0 : qos < 0
  · have Hx := Lib.hid (show fsend s ⟨topic, payload, qos, retain, tag⟩ = (s, [], 155) from by unfold fsend; rw [if_pos (.inl h0)])
    rw [Hx.out]
    simp only
    go_enter Try.func15, Try.ntmps15
    go_wp2_with (first | (rw [show w.alloc (.cells #[.string topic, .string payload, .int .i64 qos, .bool retain, .string tag] 43) = Y from HE.out]) | (fail))
    go_ret2
    exact ⟨_, rfl, ⟨_, _, HV.out⟩, HN.out _, HF.out⟩
  by_cases h2 : 2 < qos
  · have Hx := Lib.hid (show fsend s ⟨topic, payload, qos, retain, tag⟩ = (s, [], 155) from by unfold fsend; rw [if_pos (.inr h2)])
    rw [Hx.out]
    simp only
    have hd0 : decide (qos < 0) = false := by simpa using h0
    have hd1 : decide (2 < qos) = true := by simpa using h2
    go_enter Try.func15, Try.ntmps15
    go_wp2_with (first | (rw [show w.alloc (.cells #[.string topic, .string payload, .int .i64 qos, .bool retain, .string tag] 43) = Y from HE.out]) | (fail))
    go_ret2
    exact ⟨_, rfl, ⟨_, _, HV.out⟩, HN.out _, HF.out⟩
  have hd0 : decide (qos < 0) = false := by simpa using h0
  have hd1 : decide (2 < qos) = false := by simpa using h2
  have hno : ¬ (qos < 0 ∨ 2 < qos) := by omega
  by_cases hoff : qos = 0 ∧ s.on = false
  · have Hx := Lib.hid (show fsend s ⟨topic, payload, qos, retain, tag⟩ = (s, [], 0) from by unfold fsend; rw [if_neg hno, if_pos hoff])
    obtain ⟨rfl, hon⟩ := hoff
    rw [hon] at c2
    rw [Hx.out]
    simp only
    clear h0 h2 hd0 hd1 hno hon
    go_enter Try.func15, Try.ntmps15
    go_wp2_with (first | (rw [show w.alloc (.cells #[.string topic, .string payload, .int .i64 0, .bool retain, .string tag] 43) = Y from HE.out]) | (fail))
    go_ret2
    exact ⟨_, rfl, ⟨_, _, HV.out⟩, HN.out _, HF.out⟩
  have HOFF := Lib.hid hoff
  clear hoff
  obtain ⟨ao, cap, e4, -⟩ := HV.out.wt.form
  rw [e4] at c4
  have E4 := Lib.hid e4
  clear e4
  by_cases hl : 256 ≤ s.wt.length
  · have Hx := Lib.hid (show fsend s ⟨topic, payload, qos, retain, tag⟩ = (s, [], 151) from by unfold fsend; rw [if_neg hno, if_neg HOFF.out, if_pos hl])
    rw [Hx.out]
    simp only
    have hlI : (256 : Int) ≤ (s.wt.length : Int) := by omega
    by_cases hz : qos = 0
    · have hon : s.on = true := by cases hc : s.on with
        | true => rfl
        | false => exact absurd ⟨hz, hc⟩ HOFF.out
      subst hz
      rw [hon] at c2
      clear h0 h2 hd0 hd1 hno hon
      go_enter Try.func15, Try.ntmps15
      go_wp2_with (first | (rw [show w.alloc (.cells #[.string topic, .string payload, .int .i64 0, .bool retain, .string tag] 43) = Y from HE.out]) | (fail))
      go_ret2
      exact ⟨_, rfl, ⟨_, _, HV.out⟩, HN.out _, HF.out⟩
    · have hqe : (qos == 0) = false := by rw [beq_eq_false_iff_ne]; exact hz
      go_enter Try.func15, Try.ntmps15
      go_wp2_with (first | (rw [show w.alloc (.cells #[.string topic, .string payload, .int .i64 qos, .bool retain, .string tag] 43) = Y from HE.out]) | (fail))
      go_ret2
      exact ⟨_, rfl, ⟨_, _, HV.out⟩, HN.out _, HF.out⟩
  · have Hx := Lib.hid (show fsend s ⟨topic, payload, qos, retain, tag⟩ = ((goOn { s with wt := s.wt ++ [⟨topic, payload, qos, retain, tag⟩] }).1, (goOn { s with wt := s.wt ++ [⟨topic, payload, qos, retain, tag⟩] }).2, 0) from by unfold fsend; rw [if_neg hno, if_neg HOFF.out, if_neg hl])
    rw [Hx.out]
    simp only
    have hlI : (s.wt.length : Int) < 256 := by omega
    have Hok := Lib.hid (HV.out.ok.add (m := ⟨topic, payload, qos, retain, tag⟩) (by show 0 ≤ qos; omega) (by show qos ≤ 2; omega) (by omega))
    have hbranch : (qos = 0 ∧ s.on = true) ∨ (qos == 0) = false := by
      by_cases hz : qos = 0
      · left
        refine ⟨hz, ?_⟩
        cases hc : s.on with
        | true => rfl
        | false => exact absurd ⟨hz, hc⟩ HOFF.out
      · right
        rw [beq_eq_false_iff_ne]; exact hz
    rcases hbranch with ⟨hz, hon⟩ | hqe
    · subst hz
      have c2' := c2
      rw [hon] at c2'
      clear c2 h0 h2 hd0 hd1 hno hon
      go_enter Try.func15, Try.ntmps15
      go_wp2_with (first | (rw [show w.alloc (.cells #[.string topic, .string payload, .int .i64 0, .bool retain, .string tag] 43) = Y from HE.out]) | (fail))
      have hgS : ∀ w', Y.drew.grownBy w' vw.ownBlock → Blk w' w.heap.size #[.string topic, .string payload, .int .i64 0, .bool retain, .string tag] 43 := fun w' hg => Blk.grown (w := Y.drew) HMB.out hg (fun c => NB.out c)
      obtain ⟨i1, hi1, hi1z, hi1s, hi1b⟩ := info_parts info_m
      obtain ⟨li, hli, hl1⟩ := map_some info_oms
      have hBz : B ≤ Y.drew.heap.size := HV.out.sz
      have h63 : s.wt.length + 1 ≤ 256 := by omega
      refine wp_region_held (S := (fun X => Blk X w.heap.size #[.string topic, .string payload, .int .i64 0, .bool retain, .string tag] 43)) (by kernel_rfl) ?_
      change wpAnyH _ _ _ _ _ _ _ _ Y.drew
      refine wpAnyH_takeD (i := 0) (d := 36) (v := .pointer (some ⟨fp, 0, none⟩)) rfl rfl (by kernel_rfl) (by kernel_rfl) (by kernel_rfl) (fun _ _ _ h => h) (y_move _ rfl rfl rfl) HMB.out.drew ?_
      simp only [Act.put, List.setIfInBounds_toArray, List.set_cons_succ, List.set_cons_zero]
      refine wpAnyH_takeD (i := 1) (d := 37) (v := .pointer (some ⟨fp, 0, none⟩)) rfl rfl (by kernel_rfl) (by kernel_rfl) (by kernel_rfl) (fun _ _ _ h => h) (y_move _ rfl rfl rfl) HMB.out.drew ?_
      simp only [Act.put, List.setIfInBounds_toArray, List.set_cons_succ, List.set_cons_zero]
      refine wpAnyH_takeD (i := 2) (d := 38) (v := .pointer (some ⟨fp, 0, none⟩)) rfl rfl (by kernel_rfl) (by kernel_rfl) (by kernel_rfl) (fun _ _ _ h => h) (y_nil _ rfl rfl rfl) HMB.out.drew ?_
      simp only [Act.put, List.setIfInBounds_toArray, List.set_cons_succ, List.set_cons_zero]
      refine wpAnyH_takeD (i := 3) (d := 39) (v := .pointer (some ⟨fp, 4, none⟩)) rfl rfl (by kernel_rfl) (by kernel_rfl) (by kernel_rfl) (fun _ _ _ h => h) (y_field _ rfl rfl rfl (fun w => by go_simp)) HMB.out.drew ?_
      simp only [Act.put, List.setIfInBounds_toArray, List.set_cons_succ, List.set_cons_zero]
      refine wpAnyH_takeD (i := 5) (d := 41) (v := .agg #[.string topic, .string payload, .int .i64 0, .bool retain, .string tag]) rfl rfl (by kernel_rfl) (by kernel_rfl) (by kernel_rfl) (fun _ _ _ h => h) (y_load _ rfl rfl rfl (fun X hw => run_loadAt_row X w.heap.size 43 43 _ (0, 0) _ hw Try.underlying43 rfl om_size)) HMB.out.drew ?_
      simp only [Act.put, List.setIfInBounds_toArray, List.set_cons_succ, List.set_cons_zero]
      change wpAnyH _ _ _ _ _ 6 (lst 11 [0, 1, 2, 3, 5]) _ _
      refine load_make_append (D := [40, 42]) (k := 3) (i0 := 4) (i1 := 6) (i2 := 7) (d1 := 40) (d2 := 42) (d3 := 43) (b := fp) (f := 4) (B := B) (sz := 5) (n := s.wt.length) (T := 67) (e := 43) (v := vw) (xs := (wtL s.wt)) (new := (omA ⟨topic, payload, 0, retain, tag⟩)) (by kernel_rfl) (by decide) (by decide) (by simp) (by simp) (by decide) (by decide) (mk_load _ rfl rfl rfl rfl (by decide) rfl Try.underlying67) (mk_make _ rfl rfl rfl rfl (by decide) rfl Try.underlying67 hi1 hi1z hi1s (by decide) (by decide) (by kernel_rfl)) ⟨_, _, _, _, _, rfl, rfl, rfl, rfl, Try.underlying67, hi1, hi1z, hi1s, hi1b, rfl, by omega⟩ (by decide) rfl (omA_one ⟨topic, payload, 0, retain, tag⟩) (by unfold maxLen; omega) hBz (HV.out.blk.cell 4) HV.out.wt.drew hgS ?_
      intro v9 w9 hs9 hg9 ho9
      simp only [Act.put, List.setIfInBounds_toArray, List.set_cons_succ, List.set_cons_zero]
      change wpAnyH _ _ _ _ _ 3 (lst 11 [0, 1, 2, 3, 4, 5, 6, 7]) _ _
      refine wpAnyH_takeD (i := 8) (d := 44) (v := .pointer (some ⟨fp, 0, none⟩)) rfl rfl (by kernel_rfl) (by kernel_rfl) (by kernel_rfl) (fun _ _ _ h => h) (y_nil _ rfl rfl rfl) (hgS _ hg9) ?_
      simp only [Act.put, List.setIfInBounds_toArray, List.set_cons_succ, List.set_cons_zero]
      refine wpAnyH_takeD (i := 9) (d := 45) (v := .pointer (some ⟨fp, 4, none⟩)) rfl rfl (by kernel_rfl) (by kernel_rfl) (by kernel_rfl) (fun _ _ _ h => h) (y_field _ rfl rfl rfl (fun w => by go_simp)) (hgS _ hg9) ?_
      simp only [Act.put, List.setIfInBounds_toArray, List.set_cons_succ, List.set_cons_zero]
      change wpAnyH _ _ _ _ _ 1 (lst 11 [0, 1, 2, 3, 4, 5, 6, 7, 8, 9]) _ _
      obtain ⟨ao9, cap9, ev9, -⟩ := hs9.form
      refine wpAnyH_store (i := 10) (t := 45) (u := 43) (b := fp) (f := 4) (v := v9) (v0 := vw) _ rfl rfl rfl rfl hli hl1 (by kernel_rfl) (by kernel_rfl) rfl rfl (by rw [ev9]; rfl) ((Blk.grown (w := Y.drew) HV.out.blk hg9 (HV.out.wt.ne HV.out.blk (by decide))).cell 4) ((Blk.grown (w := Y.drew) HV.out.blk hg9 (HV.out.wt.ne HV.out.blk (by decide))).frozen 4) ?_ ?_
      · exact (hgS _ hg9).other (blk_ne (hgS _ hg9) (Blk.grown (w := Y.drew) HV.out.blk hg9 (HV.out.wt.ne HV.out.blk (by decide))) (by decide)) 4 v9
      have hdone := flow_add HV.out Hok.out hg9 hs9
      obtain ⟨w4, hw4⟩ : ∃ w4, w9.setCell ⟨fp, 4, none⟩ v9 = w4 := ⟨_, rfl⟩
      rw [hw4] at hdone ⊢
      obtain ⟨hV4, hf4⟩ := hdone
      have HF4 := Lib.hid (HF.out.trans hf4)
      have hz4 : w.heap.size ≤ w4.heap.size := HF4.out.below.size
      have CG := Lib.hid (goOn_any B w.heap.size fp pb mb _ (.slice none 0 0) [] w4 ⟨_, _, hV4⟩ (OutAt.nil _ _) (by simp) hsz hz4)
      clear hw4 hV4 hf4 hs9 hg9 ho9 ev9 hgS c4
      go_wp2_with (first | (go_at_call 30; (with_reducible refine CG.out.mono ?_); rintro e w5 ⟨v5, rfl, h5, o5, f5⟩; have H5 := Lib.hid h5; have O5 := Lib.hid o5; have F5 := Lib.hid f5; clear h5 o5 f5) | (fail))
      go_ret2
      exact ⟨_, rfl, H5.out, by simpa using O5.out, HF4.out.trans (F5.out.weaken (Nat.le_refl _) (fun _ _ _ c => goS_nil c))⟩
    · clear hno
      go_enter Try.func15, Try.ntmps15
      go_wp2_with (first | (rw [show w.alloc (.cells #[.string topic, .string payload, .int .i64 qos, .bool retain, .string tag] 43) = Y from HE.out]) | (fail))
      have hgS : ∀ w', Y.drew.grownBy w' vw.ownBlock → Blk w' w.heap.size #[.string topic, .string payload, .int .i64 qos, .bool retain, .string tag] 43 := fun w' hg => Blk.grown (w := Y.drew) HMB.out hg (fun c => NB.out c)
      obtain ⟨i1, hi1, hi1z, hi1s, hi1b⟩ := info_parts info_m
      obtain ⟨li, hli, hl1⟩ := map_some info_oms
      have hBz : B ≤ Y.drew.heap.size := HV.out.sz
      have h63 : s.wt.length + 1 ≤ 256 := by omega
      refine wp_region_held (S := (fun X => Blk X w.heap.size #[.string topic, .string payload, .int .i64 qos, .bool retain, .string tag] 43)) (by kernel_rfl) ?_
      change wpAnyH _ _ _ _ _ _ _ _ Y.drew
      refine wpAnyH_takeD (i := 0) (d := 36) (v := .pointer (some ⟨fp, 0, none⟩)) rfl rfl (by kernel_rfl) (by kernel_rfl) (by kernel_rfl) (fun _ _ _ h => h) (y_move _ rfl rfl rfl) HMB.out.drew ?_
      simp only [Act.put, List.setIfInBounds_toArray, List.set_cons_succ, List.set_cons_zero]
      refine wpAnyH_takeD (i := 1) (d := 37) (v := .pointer (some ⟨fp, 0, none⟩)) rfl rfl (by kernel_rfl) (by kernel_rfl) (by kernel_rfl) (fun _ _ _ h => h) (y_move _ rfl rfl rfl) HMB.out.drew ?_
      simp only [Act.put, List.setIfInBounds_toArray, List.set_cons_succ, List.set_cons_zero]
      refine wpAnyH_takeD (i := 2) (d := 38) (v := .pointer (some ⟨fp, 0, none⟩)) rfl rfl (by kernel_rfl) (by kernel_rfl) (by kernel_rfl) (fun _ _ _ h => h) (y_nil _ rfl rfl rfl) HMB.out.drew ?_
      simp only [Act.put, List.setIfInBounds_toArray, List.set_cons_succ, List.set_cons_zero]
      refine wpAnyH_takeD (i := 3) (d := 39) (v := .pointer (some ⟨fp, 4, none⟩)) rfl rfl (by kernel_rfl) (by kernel_rfl) (by kernel_rfl) (fun _ _ _ h => h) (y_field _ rfl rfl rfl (fun w => by go_simp)) HMB.out.drew ?_
      simp only [Act.put, List.setIfInBounds_toArray, List.set_cons_succ, List.set_cons_zero]
      refine wpAnyH_takeD (i := 5) (d := 41) (v := .agg #[.string topic, .string payload, .int .i64 qos, .bool retain, .string tag]) rfl rfl (by kernel_rfl) (by kernel_rfl) (by kernel_rfl) (fun _ _ _ h => h) (y_load _ rfl rfl rfl (fun X hw => run_loadAt_row X w.heap.size 43 43 _ (0, 0) _ hw Try.underlying43 rfl om_size)) HMB.out.drew ?_
      simp only [Act.put, List.setIfInBounds_toArray, List.set_cons_succ, List.set_cons_zero]
      change wpAnyH _ _ _ _ _ 6 (lst 11 [0, 1, 2, 3, 5]) _ _
      refine load_make_append (D := [40, 42]) (k := 3) (i0 := 4) (i1 := 6) (i2 := 7) (d1 := 40) (d2 := 42) (d3 := 43) (b := fp) (f := 4) (B := B) (sz := 5) (n := s.wt.length) (T := 67) (e := 43) (v := vw) (xs := (wtL s.wt)) (new := (omA ⟨topic, payload, qos, retain, tag⟩)) (by kernel_rfl) (by decide) (by decide) (by simp) (by simp) (by decide) (by decide) (mk_load _ rfl rfl rfl rfl (by decide) rfl Try.underlying67) (mk_make _ rfl rfl rfl rfl (by decide) rfl Try.underlying67 hi1 hi1z hi1s (by decide) (by decide) (by kernel_rfl)) ⟨_, _, _, _, _, rfl, rfl, rfl, rfl, Try.underlying67, hi1, hi1z, hi1s, hi1b, rfl, by omega⟩ (by decide) rfl (omA_one ⟨topic, payload, qos, retain, tag⟩) (by unfold maxLen; omega) hBz (HV.out.blk.cell 4) HV.out.wt.drew hgS ?_
      intro v9 w9 hs9 hg9 ho9
      simp only [Act.put, List.setIfInBounds_toArray, List.set_cons_succ, List.set_cons_zero]
      change wpAnyH _ _ _ _ _ 3 (lst 11 [0, 1, 2, 3, 4, 5, 6, 7]) _ _
      refine wpAnyH_takeD (i := 8) (d := 44) (v := .pointer (some ⟨fp, 0, none⟩)) rfl rfl (by kernel_rfl) (by kernel_rfl) (by kernel_rfl) (fun _ _ _ h => h) (y_nil _ rfl rfl rfl) (hgS _ hg9) ?_
      simp only [Act.put, List.setIfInBounds_toArray, List.set_cons_succ, List.set_cons_zero]
      refine wpAnyH_takeD (i := 9) (d := 45) (v := .pointer (some ⟨fp, 4, none⟩)) rfl rfl (by kernel_rfl) (by kernel_rfl) (by kernel_rfl) (fun _ _ _ h => h) (y_field _ rfl rfl rfl (fun w => by go_simp)) (hgS _ hg9) ?_
      simp only [Act.put, List.setIfInBounds_toArray, List.set_cons_succ, List.set_cons_zero]
      change wpAnyH _ _ _ _ _ 1 (lst 11 [0, 1, 2, 3, 4, 5, 6, 7, 8, 9]) _ _
      obtain ⟨ao9, cap9, ev9, -⟩ := hs9.form
      refine wpAnyH_store (i := 10) (t := 45) (u := 43) (b := fp) (f := 4) (v := v9) (v0 := vw) _ rfl rfl rfl rfl hli hl1 (by kernel_rfl) (by kernel_rfl) rfl rfl (by rw [ev9]; rfl) ((Blk.grown (w := Y.drew) HV.out.blk hg9 (HV.out.wt.ne HV.out.blk (by decide))).cell 4) ((Blk.grown (w := Y.drew) HV.out.blk hg9 (HV.out.wt.ne HV.out.blk (by decide))).frozen 4) ?_ ?_
      · exact (hgS _ hg9).other (blk_ne (hgS _ hg9) (Blk.grown (w := Y.drew) HV.out.blk hg9 (HV.out.wt.ne HV.out.blk (by decide))) (by decide)) 4 v9
      have hdone := flow_add HV.out Hok.out hg9 hs9
      obtain ⟨w4, hw4⟩ : ∃ w4, w9.setCell ⟨fp, 4, none⟩ v9 = w4 := ⟨_, rfl⟩
      rw [hw4] at hdone ⊢
      obtain ⟨hV4, hf4⟩ := hdone
      have HF4 := Lib.hid (HF.out.trans hf4)
      have hz4 : w.heap.size ≤ w4.heap.size := HF4.out.below.size
      have CG := Lib.hid (goOn_any B w.heap.size fp pb mb _ (.slice none 0 0) [] w4 ⟨_, _, hV4⟩ (OutAt.nil _ _) (by simp) hsz hz4)
      clear hw4 hV4 hf4 hs9 hg9 ho9 ev9 hgS c4
      go_wp2_with (first | (go_at_call 30; (with_reducible refine CG.out.mono ?_); rintro e w5 ⟨v5, rfl, h5, o5, f5⟩; have H5 := Lib.hid h5; have O5 := Lib.hid o5; have F5 := Lib.hid f5; clear h5 o5 f5) | (fail))
      go_ret2
      exact ⟨_, rfl, H5.out, by simpa using O5.out, HF4.out.trans (F5.out.weaken (Nat.le_refl _) (fun _ _ _ c => goS_nil c))⟩
end Go.Proofs.Ytnclobnnnihpfaa
