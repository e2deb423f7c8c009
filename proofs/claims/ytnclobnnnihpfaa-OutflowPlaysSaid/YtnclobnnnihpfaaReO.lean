/- The document's flow: over. -/
import Derived.Test.YtnclobnnnihpfaaReS
namespace Go.Proofs.Ytnclobnnnihpfaa
set_option linter.unusedVariables false
open Go.RowKit Go.Maps

theorem eraseIdx_snoc {α : Type} (l : List α) (x : α) (at' i : Nat) (h : l.length = i) : (l ++ [x]).eraseIdx at' = if i = at' then l.eraseIdx at' else if at' < i then l.eraseIdx at' ++ [x] else if i < at' then l.eraseIdx at' ++ [x] else [] := by
  subst h
  split
  · rename_i h
    subst h
    rw [List.eraseIdx_append_of_length_le (Nat.le_refl _), Nat.sub_self, List.eraseIdx_of_length_le (Nat.le_refl _)]
    simp
  · split
    · rename_i h
      exact List.eraseIdx_append_of_lt_length h _
    · split
      · rename_i h
        rw [List.eraseIdx_append_of_length_le (by omega), List.eraseIdx_of_length_le (l := l) (by omega), List.eraseIdx_of_length_le (l := [x]) (by simp; omega)]
      · omega
theorem eraseIdx_here {α : Type} {l : List α} {x : α} {i : Nat} (hx : l[i]? = some x) : (l.take (i + 1)).eraseIdx i = (l.take i).eraseIdx i := by
  have hl := (List.getElem?_eq_some_iff.1 hx).1
  rw [List.take_add_one, hx]
  show (l.take i ++ [x]).eraseIdx i = _
  rw [eraseIdx_snoc _ _ _ i (by rw [List.length_take]; omega), if_pos rfl]
theorem eraseIdx_more {α : Type} {l : List α} {x : α} {i at' : Nat} (hx : l[i]? = some x) (h : i ≠ at') : (l.take (i + 1)).eraseIdx at' = (l.take i).eraseIdx at' ++ [x] := by
  have hl := (List.getElem?_eq_some_iff.1 hx).1
  rw [List.take_add_one, hx]
  show (l.take i ++ [x]).eraseIdx at' = _
  rw [eraseIdx_snoc _ _ _ i (by rw [List.length_take]; omega), if_neg h]
  split
  · rfl
  · rw [if_pos (by omega)]
/-- What over comes to. -/
def ROverPost (B fp pb : Nat) (s : FS) (i : Nat) (w : World) (e : Ending) (w' : World) : Prop := e = .returned (.tuple #[]) ∧ DFlowAt B fp pb (fover s i) w' ∧ Fr B refS w w'
set_option maxHeartbeats 2000000 in
set_option maxRecDepth 100000 in
theorem rover_any (B fp pb at' : Nat) (s : FS) (y : OF) (w : World) (h : DFlowAt B fp pb s w) (hy : s.fl[at']? = some y) :
    Calls Try.prog 35 #[.pointer (some ⟨fp, 0, none⟩), .int .i64 at'] w (ROverPost B fp pb s at' w) := by
  obtain ⟨vf, vw, vl, LL, hV⟩ := h
  have hin : at' < s.fl.length := (List.getElem?_eq_some_iff.1 hy).1
  obtain ⟨g, o, cap, rfl, hBg, hgl, hnc, hcm, hcl⟩ := hV.fl.at (by omega)
  have HV := Lib.hid hV
  have c0 := hV.blk.cell 0
  have c3 := hV.blk.cell 3
  simp only [List.getElem?_toArray, List.getElem?_cons_zero, List.getElem?_cons_succ] at c0 c3
  have m0 := hcl (at' * 7) (.int .i64 y.id) (flL_get s.fl at' y hy 0 _ rfl)
  have HX := Lib.hid hy
  have hl64 := hV.ok.fl
  have hNI : (at' : Int) < (s.fl.length : Int) := by omega
  have hLL : LL.length ≤ 1000 := by rw [hV.pool.pm.length_eq, oids_length]; omega
  have CF := Lib.hid (rfree_any B pb s.taken y.id (oids s.fl) (oids (s.fl.eraseIdx at')) LL vl w.drew ⟨hV.pool.hP, hV.pool.blk, hV.pool.ls, hV.pool.pm⟩ hLL (free_perm hV.pool.pm hy hV.ok.nd))
  clear hcl hV hy hcm hLL
  go_enter Try.func35, Try.ntmps35
  go_wp2
  go_still_tail 12, (by kernel_rfl)
  change wpList _ _ _ _ _ w.drew
  clear c0 c3 m0
  go_wp2_with fail
  (with_reducible refine CF.out.mono ?_)
  rintro e w1 ⟨bb, vl1, rfl, hp1, hf1⟩
  have hf1' : Fr B (onlyS pb) w w1 := ⟨⟨hf1.below.os, hf1.below.tape, hf1.below.output, hf1.below.size, hf1.below.block⟩, hf1.keep⟩
  have HB1 := Lib.hid (HV.out.blk.only hf1' HV.out.pool (by decide))
  have HS1 := Lib.hid (HV.out.fl.only hf1' HV.out.pool (by decide))
  have HW1 := Lib.hid (HV.out.wt.only hf1' HV.out.pool (by decide))
  have HF1 := Lib.hid (hf1'.only HV.out.pool)
  have HP1 := Lib.hid hp1
  clear hp1 hf1 hf1' CF
  go_wp2_with fail
  go_loopw [4, 5] (fun ov iv wr => ∃ i n : Nat, iv = .int .i64 i ∧ i ≤ s.fl.length ∧ n ≤ 64 ∧ Hid (n = ((s.fl.take i).eraseIdx at').length) ∧ Hid (Sl w1.heap.size wr 102 7 ov n (flL ((s.fl.take i).eraseIdx at'))) ∧ Hid (Below w1.heap.size w1 wr)) (fun _ iv _ => ((s.fl.length : Int) - intOf iv).toNat)
  case atStart => exact ⟨0, 0, rfl, Nat.zero_le _, by omega, Lib.hid (by simp), Lib.hid (by simp only [List.take_zero, List.eraseIdx_nil]; exact Sl.nil _ _ _ _), Lib.hid (Below.refl _ _)⟩
  case round =>
    obtain ⟨i, n, rfl, hi, hn, hnn, hO, hW⟩ := hrel
    have c3 := (HB1.out.of_below hW.out).cell 3
    simp only [List.getElem?_toArray, List.getElem?_cons_zero, List.getElem?_cons_succ] at c3
    by_cases hil : i < s.fl.length
    · obtain ⟨x, hx⟩ : ∃ x, s.fl[i]? = some x := ⟨_, List.getElem?_eq_getElem hil⟩
      have hI : (i : Int) < (s.fl.length : Int) := by omega
      have II : Hid (i < s.fl.length) := Lib.hid hil
      by_cases hc : i = at'
      · subst hc
        have ht := Lib.hid (eraseIdx_here hx)
        clear hx hil
        go_wp2_with fail
        go_roundw
        case rel => exact ⟨i + 1, n, by go_num, by have := II.out; omega, hn, by rw [ht.out]; exact hnn, by rw [ht.out]; exact hO, hW⟩
        case measure => have := II.out; simp [intOf]; omega
      · have ht := Lib.hid (eraseIdx_more hx hc)
        have hne : ((i : Int) != (at' : Int)) = true := by rw [bne_iff_ne]; omega
        have hneq : ((i : Int) == (at' : Int)) = false := by rw [beq_eq_false_iff_ne]; omega
        have hgl1 : g < w1.heap.size := by have := HF1.out.below.size; omega
        have cl : ∀ j u, (ofC x)[j]? = some u → wr.cell? ⟨g, o + i * 7 + j, none⟩ = some u := fun j u hu => by
          rw [Nat.add_assoc]
          exact (hW.out.cell (p := ⟨g, o + (i * 7 + j), none⟩) hgl1).trans (HS1.out.cells _ _ (flL_get s.fl i x hx j u hu))
        obtain ⟨xid, ⟨xt, xp, xq, xr, xg⟩, xrel⟩ := x
        have x0 := cl 0 (.int .i64 xid) rfl
        have x1 := cl 1 (.string xt) rfl
        have x2 := cl 2 (.string xp) rfl
        have x3 := cl 3 (.int .i64 xq) rfl
        have x4 := cl 4 (.bool xr) rfl
        have x5 := cl 5 (.string xg) rfl
        have x6 := cl 6 (.bool xrel) rfl
        simp only [Nat.add_zero] at x0
        obtain ⟨Y, hY⟩ : ∃ Y, wr.alloc (.cells #[.int .i64 xid, .string xt, .string xp, .int .i64 xq, .bool xr, .string xg, .bool xrel] 102) = Y := ⟨_, rfl⟩
        have bY : Below wr.heap.size wr Y := by rw [← hY]; exact (Below.refl _ _).alloc (Nat.le_refl _) _
        have HBK : Hid (Blk Y wr.heap.size (ofA ⟨xid, ⟨xt, xp, xq, xr, xg⟩, xrel⟩) 102) := Lib.hid (by rw [← hY]; exact Blk.new _ _ _)
        have HOY := Lib.hid (hO.out.below bY)
        have HWY := Lib.hid (hW.out.trans (bY.mono hW.out.size))
        obtain ⟨i1, hi1, hi1z, hi1s, hi1b⟩ := info_parts rinfo_f
        have HXX := Lib.hid hx
        clear bY hO hW hc cl hx hil
        go_wp2_with (at_builtin; refine wpList_append_sl (.tmp 31) (.tmp 39) 77 i1 _ _ wr.heap.size (ofA ⟨xid, ⟨xt, xp, xq, xr, xg⟩, xrel⟩) rfl rfl Try.underlying77 hi1 hi1z hi1s hi1b rfl (by decide) rfl (ofA_one _) rfl rfl HOY.out HBK.out HWY.out.size (by unfold maxLen; omega) (by omega) ?_)
        intro v' w2 r1 r2 r3
        have HO2 := Lib.hid r1
        have HW2 := Lib.hid (HWY.out.grown r2 HWY.out.size (fun k hk => (HOY.out.lt k hk).1))
        clear r1 r2 r3
        go_wp2
        go_roundw
        case rel =>
          have hlen : n + 1 = ((s.fl.take (i + 1)).eraseIdx at').length := by rw [ht.out, List.length_append, ← hnn.out]; rfl
          exact ⟨i + 1, n + 1, by go_num, by have := II.out; omega, by
            rw [hlen]
            have h1 := List.length_eraseIdx_le (s.fl.take (i + 1)) at'
            rw [List.length_take] at h1
            omega, Lib.hid hlen, Lib.hid (by rw [ht.out, flL_snoc]; exact HO2.out), HW2⟩
        case measure => have := II.out; simp [intOf]; omega
    · obtain rfl : i = s.fl.length := by omega
      have hnl : ¬ ((s.fl.length : Int) < (s.fl.length : Int)) := by omega
      rw [List.take_length] at hnn hO
      have HBW := Lib.hid (HB1.out.of_below hW.out)
      have HWW := Lib.hid (HW1.out.below hW.out)
      have HPW := Lib.hid (HP1.out.below hW.out)
      have f3 := HBW.out.frozen 3
      obtain ⟨ao4, cap4, rfl, -⟩ := hO.out.form
      have hz1 : B ≤ w1.heap.size := Nat.le_trans HV.out.hB (Nat.le_of_lt HB1.out.lt)
      go_wp2
      go_end0
      refine ⟨rfl, ⟨_, vw, vl1, _, HV.out.ok.over at', HV.out.hB, HBW.out.set 3 (.slice ao4 n cap4), ?_, HWW.out.set 3 _ (HWW.out.ne HBW.out (by decide)), HPW.out.hP, HPW.out.blk.other (blk_ne HPW.out.blk HBW.out (by decide)) 3 _, HPW.out.ls.set 3 _ (HPW.out.ls.ne HBW.out (by decide)), HPW.out.pm⟩, (HF1.out.trans (Fr.of_below hW.out hz1)).set HBW.out HV.out.hB (fun _ _ => refS_cells (.inl rfl)) 3 _⟩
      have h5 := (hO.out.mono hz1).set (R := fp) 3 (.slice ao4 n cap4) (hO.out.ne HBW.out (by decide))
      have e := hnn.out
      show Sl B _ _ 7 _ (s.fl.eraseIdx at').length (flL (s.fl.eraseIdx at'))
      rw [← e]
      exact h5
end Go.Proofs.Ytnclobnnnihpfaa
