/- outflow.Flow's over: a flight is none any more. -/
import Derived.Test.YtnclobnnnihpfaaDel
namespace Go.Proofs.Ytnclobnnnihpfaa
set_option linter.unusedVariables false
open Go.RowKit Go.Maps

theorem flL_get : ∀ (l : List OF) (i : Nat) (x : OF), l[i]? = some x → ∀ j u, (ofC x)[j]? = some u → (flL l)[i * 7 + j]? = some u
  | [], i, x, h, j, u, hu => by cases h
  | y :: l, 0, x, h, j, u, hu => by
    cases h
    show (ofC y ++ flL l)[0 * 7 + j]? = some u
    rw [Nat.zero_mul, Nat.zero_add, List.getElem?_append_left (List.getElem?_eq_some_iff.1 hu).1]
    exact hu
  | y :: l, i + 1, x, h, j, u, hu => by
    show (ofC y ++ flL l)[(i + 1) * 7 + j]? = some u
    have hy : (ofC y).length = 7 := rfl
    rw [List.getElem?_append_right (by rw [hy]; omega), hy, show (i + 1) * 7 + j - 7 = i * 7 + j from by omega]
    exact flL_get l i x (by simpa using h) j u hu
theorem erase_eraseIdx : ∀ (l : List Int) (i : Nat) (x : Int), l[i]? = some x → l.Nodup → l.eraseIdx i = l.erase x
  | [], i, x, h, hn => by cases h
  | y :: l, 0, x, h, hn => by cases h; simp
  | y :: l, i + 1, x, h, hn => by
    rw [List.nodup_cons] at hn
    have hx : l[i]? = some x := by simpa using h
    have hne : y ≠ x := fun e => hn.1 (e ▸ List.mem_of_getElem? hx)
    rw [List.eraseIdx_cons_succ, List.erase_cons_tail (by simpa using hne), erase_eraseIdx l i x hx hn.2]
theorem oids_erase (l : List OF) (i : Nat) (x : OF) (h : l[i]? = some x) (hn : (oids l).Nodup) : oids (l.eraseIdx i) = (oids l).erase x.id := by
  rw [← erase_eraseIdx (oids l) i x.id (by unfold oids; rw [List.getElem?_map, h]; rfl) hn]
  unfold oids
  apply List.ext_getElem?
  intro j
  simp only [List.getElem?_map, List.getElem?_eraseIdx]
  split <;> rfl
set_option maxHeartbeats 1000000 in
set_option maxRecDepth 100000 in
theorem fover_any (B fp pb mb i : Nat) (s : FS) (x : OF) (w : World) (h : FlowAt B fp pb mb s w) (hx : s.fl[i]? = some x) :
    Calls Try.prog 29 #[.pointer (some ⟨fp, 0, none⟩), .int .i64 i] w fun e w' => e = .returned (.tuple #[]) ∧ FlowAt B fp pb mb (fover s i) w' ∧ Fr B (flowS mb) w w' := by
  obtain ⟨vf, vw, hV⟩ := h
  have hin : i < s.fl.length := (List.getElem?_eq_some_iff.1 hx).1
  obtain ⟨g, o, cap, rfl, hBg, hgl, hnc, hcm, hcl⟩ := hV.fl.at (by omega)
  have HV := Lib.hid hV
  have c0 := hV.blk.cell 0
  have c3 := hV.blk.cell 3
  simp only [List.getElem?_toArray, List.getElem?_cons_zero, List.getElem?_cons_succ] at c0 c3
  have m0 := hcl (i * 7) (.int .i64 x.id) (flL_get s.fl i x hx 0 _ rfl)
  have hxm := List.mem_of_getElem? hx
  have hib := hV.ok.ids x hxm
  have HX := Lib.hid hx
  have hl64 := hV.ok.fl
  have hNI : (i : Int) < (s.fl.length : Int) := by omega
  have CF := Lib.hid (pfree_any B pb mb s.taken x.id (oids s.fl) w.drew hV.pool (by unfold oids; exact List.mem_map.2 ⟨x, hxm, rfl⟩) hV.ok.nd (by omega) hib.2)
  clear hcl hV hx hxm hcm
  go_enter Try.func29, Try.ntmps29
  go_wp2
  go_still_tail 12, (by kernel_rfl)
  change wpList _ _ _ _ _ w.drew
  clear c0 c3 m0
  go_wp2_with fail
  (with_reducible refine CF.out.mono ?_)
  rintro e w1 ⟨rfl, hp1, hf1⟩
  have hf1' : Fr B (poolS pb mb) w w1 := ⟨⟨hf1.below.os, hf1.below.tape, hf1.below.output, hf1.below.size, hf1.below.block⟩, hf1.keep⟩
  have HB1 := Lib.hid (HV.out.blk.pool hf1' HV.out.pool (by decide))
  have HS1 := Lib.hid (HV.out.fl.pool hf1' HV.out.pool (by decide))
  have HW1 := Lib.hid (HV.out.wt.pool hf1' HV.out.pool (by decide))
  have HF1 := Lib.hid (hf1'.pool HV.out.pool)
  have HP1 := Lib.hid hp1
  have d3 := HB1.out.cell 3
  simp only [List.getElem?_toArray, List.getElem?_cons_zero, List.getElem?_cons_succ] at d3
  have CD := Lib.hid (fdelete_any B g o cap i s.fl w1 HS1.out hin hl64)
  obtain ⟨li, hli, hl1⟩ := map_some info_fls
  clear hp1 hf1 hf1' CF
  go_wp2_with fail
  (with_reducible refine CD.out.mono ?_)
  rintro e w2 ⟨rfl, hs2, hg2⟩
  have HS2 := Lib.hid hs2
  have HB2 := Lib.hid (Blk.grown HB1.out hg2 (HS1.out.ne HB1.out (by decide)))
  have HW2 := Lib.hid (Sl.grown HW1.out hg2 (fun k hk => HW1.out.ne2 HS1.out (by decide) k hk))
  have HP2 := Lib.hid (show PoolAt B pb mb s.taken ((oids s.fl).erase x.id) w2 from ⟨HP1.out.1, HP1.out.2.1, Blk.grown HP1.out.2.2.1 hg2 (HS1.out.ne HP1.out.2.2.1 (by decide)), HP1.out.2.2.2.same (hg2.block mb HP1.out.2.2.2.lt (by
    intro c
    injection c with c
    subst c
    obtain ⟨es, cl, e2⟩ := HP1.out.2.2.2.obj
    obtain ⟨cur, e1⟩ := HS1.out.obj mb _ rfl e2
    cases e1))⟩)
  have HF2 := Lib.hid (HF1.out.grown hg2 (Nat.le_trans HP1.out.1 (Nat.le_of_lt HP1.out.2.2.1.lt)) (fun k hk => by injection hk with hk; subst hk; exact hBg) (fun k ob hk ho => by
    injection hk with hk
    subst hk
    obtain ⟨cur, e1⟩ := HS1.out.obj g _ rfl ho
    subst e1
    exact .inl (flowS_cells (.inr (.inr (.inl rfl))))))
  have e3 := HB2.out.cell 3
  have f3 := HB2.out.frozen 3
  simp only [List.getElem?_toArray, List.getElem?_cons_zero, List.getElem?_cons_succ] at e3
  clear hs2 hg2 d3 CD
  go_wp2
  go_end0
  refine ⟨rfl, ⟨_, vw, HV.out.ok.over i, HV.out.hB, HB2.out.set 3 _, ?_, HW2.out.set 3 _ (HW2.out.ne HB2.out (by decide)), HP2.out.1, HP2.out.2.1, HP2.out.2.2.1.other (blk_ne HP2.out.2.2.1 HB2.out (by decide)) 3 _, ?_⟩, HF2.out.set HB2.out HV.out.hB (fun _ _ => flowS_cells (.inl rfl)) 3 _⟩
  · have := HS2.out.set (R := fp) 3 (.slice (some ⟨g, o, none⟩) (s.fl.length - 1) cap) (HS2.out.ne HB2.out (by decide))
    show Sl B _ _ 7 _ (s.fl.eraseIdx i).length (flL (s.fl.eraseIdx i))
    rw [List.length_eraseIdx, if_pos hin]
    exact this
  · have := HP2.out.2.2.2.same (w' := w2.setCell ⟨fp, 3, none⟩ (.slice (some ⟨g, o, none⟩) (s.fl.length - 1) cap)) (Below.heap_setCell _ _ _ _ (HP2.out.2.2.2.ne HB2.out))
    show Ids mb (oids (s.fl.eraseIdx i)) _
    rw [oids_erase s.fl i x HX.out HV.out.ok.nd]
    exact this
end Go.Proofs.Ytnclobnnnihpfaa
