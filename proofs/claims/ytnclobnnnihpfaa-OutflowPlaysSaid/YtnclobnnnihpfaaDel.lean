/- slices.Delete of one flight. -/
import Derived.Test.YtnclobnnnihpfaaSend
import Derived.Test.YtnclobnnnihpfaaDelP
import Derived.Deep.RegionLaw
namespace Go.Proofs.Ytnclobnnnihpfaa
set_option linter.unusedVariables false
open Go.RowKit Go.Maps

theorem flL_length (l : List OF) : (flL l).length = l.length * 7 := by
  unfold flL
  induction l with
  | nil => rfl
  | cons x l ih => rw [List.flatMap_cons, List.length_append, ih]; simp only [ofC, List.length_cons, List.length_nil]; omega
theorem flL_erase (l : List OF) (i : Nat) : flL (l.eraseIdx i) = (flL l).take (i * 7) ++ (flL l).drop (i * 7 + 7) := by
  induction l generalizing i with
  | nil => simp [flL]
  | cons x l ih =>
    cases i with
    | zero => simp [flL, ofC]
    | succ i =>
      have := ih i
      simp only [List.eraseIdx_cons_succ]
      unfold flL at this ⊢
      rw [List.flatMap_cons, List.flatMap_cons, this]
      have hx : (ofC x).length = 7 := rfl
      rw [show (i + 1) * 7 = (ofC x).length + i * 7 from by rw [hx]; omega, List.take_length_add_append, List.append_assoc]
      rw [show (ofC x).length + i * 7 + 7 = (ofC x).length + (i * 7 + 7) from by omega, List.drop_length_add_append]
set_option maxHeartbeats 1000000 in
set_option maxRecDepth 100000 in
theorem fdelete_any (B g o cap i : Nat) (l : List OF) (w : World) (h : Sl B w 45 7 (.slice (some ⟨g, o, none⟩) l.length cap) l.length (flL l)) (hi : i < l.length) (hl : l.length ≤ 64) :
    Calls Try.prog 39 #[.slice (some ⟨g, o, none⟩) l.length cap, .int .i64 i, .int .i64 ((i : Int) + 1)] w fun e w' =>
      e = .returned (.slice (some ⟨g, o, none⟩) (l.length - 1) cap) ∧ Sl B w' 45 7 (.slice (some ⟨g, o, none⟩) (l.length - 1) cap) (l.length - 1) (flL (l.eraseIdx i)) ∧ w.grownBy w' (some g) := by
  have HX := Lib.hid h
  obtain ⟨hlen, h2⟩ := h
  rcases h2 with ⟨c, _⟩ | ⟨g', o', cap', cur, hv, hb, hg, h4, h5, h6, h7⟩
  · cases c
  cases hv
  obtain ⟨N, hN⟩ : ∃ N, l.length = N := ⟨_, rfl⟩
  have HN := Lib.hid hN
  have HL := Lib.hid hlen
  have HG := Lib.hid hg
  have H7 := Lib.hid h7
  rw [hN] at hi hl h4 ⊢
  unfold maxLen at h5
  clear hN hlen h7 hg
  have hiN : (i : Int) < (N : Int) := by omega
  have hi1 : (i : Int) + 1 ≤ (N : Int) := by omega
  have hNc : (N : Int) ≤ (cap : Int) := by omega
  have hni : ¬ N = i := by omega
  have hq : ((i : Int) == (i : Int) + 1) = false := by rw [beq_eq_false_iff_ne]; omega
  obtain ⟨i1, hif, hi1z, hi1s, hi1b⟩ := info_parts info_f
  have hzc : (Builtin.zeroCells (Value.agg #[.int .i64 0, .string ⟨#[]⟩, .string ⟨#[]⟩, .int .i64 0, .bool false, .string ⟨#[]⟩, .bool false]).cells 1).toList.length = 7 := by simp [Builtin.zeroCells, Value.cells]
  have hz1 : ∀ u ∈ (Builtin.zeroCells (Value.agg #[.int .i64 0, .string ⟨#[]⟩, .string ⟨#[]⟩, .int .i64 0, .bool false, .string ⟨#[]⟩, .bool false]).cells 1).toList, u.oneCell' = true := by
    intro u hu
    simp [Builtin.zeroCells, Value.cells] at hu
    rcases hu with ⟨j, hj, rfl⟩
    match j, hj with
    | 0, _ => rfl
    | 1, _ => rfl
    | 2, _ => rfl
    | 3, _ => rfl
    | 4, _ => rfl
    | 5, _ => rfl
    | 6, _ => rfl
  obtain ⟨zs, hzs⟩ : ∃ zs, (Builtin.zeroCells (Value.agg #[.int .i64 0, .string ⟨#[]⟩, .string ⟨#[]⟩, .int .i64 0, .bool false, .string ⟨#[]⟩, .bool false]).cells 1).toList = zs := ⟨_, rfl⟩
  rw [hzs] at hzc hz1
  have HLX : (flL l).length = N * 7 := by rw [flL_length, HN.out]
  have hdl : ((flL l).drop ((i + 1) * 7)).length = (N - (i + 1)) * 7 := by rw [List.length_drop, HLX]; omega
  have hnews1 : ∀ u ∈ (flL l).drop ((i + 1) * 7), u.oneCell' = true := fun u hu => flL_one l u (List.mem_of_mem_drop hu)
  have hfit : o + i * 7 + ((flL l).drop ((i + 1) * 7)).length ≤ cur.size := by rw [hdl]; omega
  obtain ⟨c1, hc1⟩ : ∃ c1, (cur.toList.take (o + i * 7) ++ (flL l).drop ((i + 1) * 7) ++ cur.toList.drop (o + i * 7 + ((flL l).drop ((i + 1) * 7)).length)).toArray = c1 := ⟨_, rfl⟩
  have hc1s : c1.size = cur.size := by
    rw [← hc1]
    simp only [List.size_toArray, List.length_append, List.length_take, List.length_drop, Array.length_toList] at hfit ⊢
    omega
  -- the append
  have hap0 : ∀ (a : Addr) (c : Nat) ty, (∀ j u, ((flL l).drop ((i + 1) * 7))[j]? = some u → w.drew.cell? (a.add j) = some u) →
      (Builtin.append_ #[40, 40] ty #[.slice (some ⟨g, o, none⟩) i cap, .slice (some a) (N - (i + 1)) c]).run Try.prog w.drew = .ok (.slice (some ⟨g, o, none⟩) (N - 1) cap) (w.drew.setRow g c1) := by
    intro a c ty hn
    have := run_append_at (P := Try.prog) (w := w.drew) 40 ty i1 Try.underlying40 hif hi1s (cap := cap) (c := c) (n := i) (m := N - (i + 1)) a ((flL l).drop ((i + 1) * 7)) HG.out hdl hn hnews1 (by omega) hfit
    rw [hc1, show i + (N - (i + 1)) = N - 1 from by omega] at this
    exact this
  have hg1 : (w.drew.setRow g c1).heap[g]? = some (.cells c1 45 (0, 0)) := setRow_heap w.drew g cur c1 _ (0, 0) HG.out
  have hcl : ∀ (c : Nat) ty, (Builtin.clear_ #[40] ty #[.slice (some ⟨g, o + (N - 1) * 7, none⟩) 1 c]).run Try.prog (w.drew.setRow g c1) = .ok (.tuple #[]) ((w.drew.setRow g c1).setRow g (c1.toList.take (o + (N - 1) * 7) ++ zs ++ c1.toList.drop (o + (N - 1) * 7 + zs.length)).toArray) := by
    intro c ty
    have := run_clear_at (P := Try.prog) (w := w.drew.setRow g c1) 40 ty i1 _ Try.underlying40 hif hi1z (o := o + (N - 1) * 7) (c := c) hg1 (by rw [hzs]; exact hz1) (by rw [hzs, hzc, hc1s]; omega)
    rw [hzs] at this
    exact this
  have hdone : Hid (Sl B ((w.drew.setRow g c1).setRow g (c1.toList.take (o + (N - 1) * 7) ++ zs ++ c1.toList.drop (o + (N - 1) * 7 + zs.length)).toArray) 45 7 (.slice (some ⟨g, o, none⟩) (N - 1) cap) (N - 1) (flL (l.eraseIdx i))) := by
    refine Lib.hid ⟨?_, .inr ⟨g, o, cap, _, rfl, hb, setRow_heap _ g c1 _ _ (0, 0) hg1, by omega, by unfold maxLen; omega, ?_, ?_⟩⟩
    · rw [flL_length, List.length_eraseIdx, HN.out, if_pos hi]
    · simp only [List.size_toArray, List.length_append, List.length_take, List.length_drop, Array.length_toList, hzc, hc1s]
      omega
    · have hd := del_list (zs := zs) (k := (N - 1) * 7) (a := i * 7) (b := 7) (n := N * 7) (by rw [← HN.out]; exact H7.out) HLX (by omega) (by omega)
      rw [flL_erase, ← hd, ← hc1]
      simp only [Nat.succ_mul]
  have hgr : Hid (w.grownBy ((w.drew.setRow g c1).setRow g (c1.toList.take (o + (N - 1) * 7) ++ zs ++ c1.toList.drop (o + (N - 1) * 7 + zs.length)).toArray) (some g)) :=
    Lib.hid ⟨rfl, rfl, rfl, by simp, fun k hk hne => by
      have hkg : k ≠ g := fun e => hne (by rw [e])
      exact (setRow_other _ g k _ hkg).trans (setRow_other w.drew g k _ hkg)⟩
  obtain ⟨W2, hW2⟩ : ∃ W2, (w.drew.setRow g c1).setRow g (c1.toList.take (o + (N - 1) * 7) ++ zs ++ c1.toList.drop (o + (N - 1) * 7 + zs.length)).toArray = W2 := ⟨_, rfl⟩
  rw [hW2] at hcl hdone hgr
  have hapA : ∀ ty, (Builtin.append_ #[40, 40] ty #[.slice (some ⟨g, o, none⟩) i cap, .slice (some ⟨g, o + (i + 1) * 7, none⟩) (N - (i + 1)) (cap - (i + 1))]).run Try.prog w.drew = .ok (.slice (some ⟨g, o, none⟩) (N - 1) cap) (w.drew.setRow g c1) := fun ty => hap0 ⟨g, o + (i + 1) * 7, none⟩ _ ty (fun j u hu => by
    rw [addr_add0, Nat.add_assoc]
    rw [List.getElem?_drop] at hu
    exact HX.out.cells _ u hu)
  have hapB : N = i + 1 → ∀ c ty, (Builtin.append_ #[40, 40] ty #[.slice (some ⟨g, o, none⟩) i cap, .slice (some ⟨g, o, none⟩) 0 c]).run Try.prog w.drew = .ok (.slice (some ⟨g, o, none⟩) (N - 1) cap) (w.drew.setRow g c1) := fun e c ty => by
    have := hap0 ⟨g, o, none⟩ c ty (fun j u hu => by
      rw [List.drop_eq_nil_of_le (by rw [HLX]; omega)] at hu
      cases hu)
    rw [show N - (i + 1) = 0 from by omega] at this
    exact this
  obtain ⟨W1, hW1⟩ : ∃ W1, w.drew.setRow g c1 = W1 := ⟨_, rfl⟩
  have hsame : N = i + 1 → W1 = w.drew := fun e => by
    have h0 : (flL l).drop ((i + 1) * 7) = [] := List.drop_eq_nil_of_le (by rw [HLX]; omega)
    have : c1 = cur := by rw [← hc1, h0]; simp
    rw [← hW1, this]
    exact setRow_self w.drew g cur _ (0, 0) HG.out
  have HSM := Lib.hid hsame
  clear hsame
  rw [hW1] at hapA hapB hcl
  have HB := Lib.hid hapB
  clear hapB hap0 hW1 hW2 hg1 hc1 hc1s hzs hzc hz1 hdl hnews1 hfit HLX
  have hic : i ≤ cap := by omega
  have hi0 : (0 : Int) ≤ (i : Int) + 1 := by omega
  have hicI : (i : Int) ≤ (cap : Int) := by omega
  by_cases hc : cap = i + 1
  · obtain rfl := HSM.out (by omega)
    clear hapA HB
    subst hc
    obtain rfl : N = i + 1 := by omega
    simp only [Nat.add_sub_cancel] at hcl ⊢
    go_enter Try.func39, Try.ntmps39
    go_wp2
    go_region
    go_wp2
    go_ret
    simp only [Nat.add_sub_cancel] at hdone
    exact ⟨rfl, hdone.out, hgr.out⟩
  · have hc2 : ¬ cap = (i + 1) := hc
    go_enter Try.func39, Try.ntmps39
    go_wp2
    have HA := Lib.hid hapA
    clear hapA
    have hcl2 : ∀ (c : Nat) ty, (Builtin.clear_ #[40] ty #[.slice (some ⟨g, o + (N - 1) * 7, none⟩) (N - (N - 1)) c]).run Try.prog W1 = .ok (.tuple #[]) W2 := by
      rw [show N - (N - 1) = 1 from by omega]; exact hcl
    clear hcl
    go_region_law (refine step_append_run (by rfl) (.tmp 22) (.tmp 25) 40 (by rfl) _ _ _ (by rfl) (by rfl) HA.out ?_)
    go_wp2
    go_ret
    exact ⟨rfl, hdone.out, hgr.out⟩
end Go.Proofs.Ytnclobnnnihpfaa
