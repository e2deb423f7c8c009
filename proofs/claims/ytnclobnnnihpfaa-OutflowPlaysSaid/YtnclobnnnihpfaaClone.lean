/- slices.Clone at flights and at messages; Flights, Waiting. -/
import Derived.Test.YtnclobnnnihpfaaFlowW
import Derived.OwnWalk
import Derived.Lib.BufferMore
namespace Go.Proofs.Ytnclobnnnihpfaa
set_option linter.unusedVariables false
open Go.RowKit Go.Maps

theorem info_f : (Try.prog.info? 45).map (fun i => (i.zero, i.size, i.bytes)) = some (some (.agg #[.int .i64 0, .string ⟨#[]⟩, .string ⟨#[]⟩, .int .i64 0, .bool false, .string ⟨#[]⟩, .bool false]), 7, 80) := by kernel_rfl
theorem info_m : (Try.prog.info? 43).map (fun i => (i.zero, i.size, i.bytes)) = some (some (.agg #[.string ⟨#[]⟩, .string ⟨#[]⟩, .int .i64 0, .bool false, .string ⟨#[]⟩]), 5, 64) := by kernel_rfl
theorem info_pk : (Try.prog.info? 37).map (fun i => (i.zero, i.size, i.bytes)) = some (some (.agg zpk), 26, 328) := by kernel_rfl
theorem flL_one (l : List OF) : ∀ u ∈ flL l, u.oneCell' = true := by
  intro u hu
  obtain ⟨x, _, hx⟩ := List.mem_flatMap.1 hu
  simp only [ofC, List.mem_cons, List.not_mem_nil, or_false] at hx
  rcases hx with rfl | rfl | rfl | rfl | rfl | rfl | rfl <;> rfl
theorem wtL_one (l : List OM) : ∀ u ∈ wtL l, u.oneCell' = true := by
  intro u hu
  obtain ⟨x, _, hx⟩ := List.mem_flatMap.1 hu
  simp only [omC, List.mem_cons, List.not_mem_nil, or_false] at hx
  rcases hx with rfl | rfl | rfl | rfl | rfl <;> rfl

set_option maxHeartbeats 1000000 in
set_option maxRecDepth 100000 in
theorem fclone_any (B : Nat) (v : Value) (n : Nat) (xs : List Value) (w : World) (h : Sl B w 45 7 v n xs) (hn : n ≤ 1048576) (h1 : ∀ u ∈ xs, u.oneCell' = true) :
    Calls Try.prog 26 #[v] w fun e w' => ∃ v', e = .returned v' ∧ w'.ownsRow w.heap.size 45 7 v' n xs ∧ Below w.heap.size w w' := by
  obtain ⟨i1, hi1, hi1z, hi1s, hi1b⟩ := info_parts info_f
  rcases h.2 with ⟨rfl, rfl⟩ | ⟨g, o, cap, cur, rfl, hb, hg, h4, h5, h6, h7⟩
  · obtain rfl : xs = [] := List.eq_nil_of_length_eq_zero (by simpa using h.1)
    have hnil : ∀ W, (binOp .eql 40 (.slice none 0 0) (.slice none 0 0)).run Try.prog W = .ok (.bool true) W := fun W => Lib.run_eql_slice_nil_nil W _ _ Try.underlying40
    clear h
    go_enter Try.func26, Try.ntmps26
    go_wp2
    go_ret
    exact ⟨_, rfl, World.ownsRow_nil _ _ _ _, Below.refl _ _⟩
  · have H := Lib.hid h
    have H1 := Lib.hid h1
    have HO := Lib.hid (World.ownsRow_made (base := w.heap.size) (e := 45) (size := 7) w #[] 0 (Nat.le_refl _) (by decide) (by simp))
    have HL := Lib.hid h.1
    have hnil : ∀ W, (binOp .eql 40 (.slice (some ⟨g, o, none⟩) n cap) (.slice none 0 0)).run Try.prog W = .ok (.bool false) W := fun W => Lib.run_eql_slice_some_nil W _ _ _ Try.underlying40
    have hcap : (n : Int) ≤ cap := by omega
    clear h h1 h7 hg
    go_enter Try.func26, Try.ntmps26
    go_wp2_with (at_builtin; refine wpList_append_own _ rfl _ _ 40 rfl w.heap.size 45 i1 _ 7 _ Try.underlying40 hi1 hi1z hi1s hi1b rfl (by decide) _ 0 [] rfl HO.out ⟨g, o, none⟩ n cap xs rfl HL.out ?x1 H1.out (by unfold maxLen; omega) (by omega) (by simp) ?x2)
    case x1 => exact fun j u hu => by rw [addr_add0]; exact (H.out.alloc _).cells j u hu
    intro v' w1 hown hgrow _
    have hbel : Below w.heap.size w w1 := Below.grown ((Below.refl _ _).alloc (Nat.le_refl _) _) hgrow (by simp) (fun k hk => by simp [Value.ownBlock] at hk; omega)
    have HO1 := Lib.hid hown
    have HB1 := Lib.hid hbel
    clear hown hgrow hbel
    go_wp2
    go_ret
    exact ⟨_, rfl, HO1.out, HB1.out⟩
set_option maxHeartbeats 1000000 in
set_option maxRecDepth 100000 in
theorem mclone_any (B : Nat) (v : Value) (n : Nat) (xs : List Value) (w : World) (h : Sl B w 43 5 v n xs) (hn : n ≤ 1048576) (h1 : ∀ u ∈ xs, u.oneCell' = true) :
    Calls Try.prog 32 #[v] w fun e w' => ∃ v', e = .returned v' ∧ w'.ownsRow w.heap.size 43 5 v' n xs ∧ Below w.heap.size w w' := by
  obtain ⟨i1, hi1, hi1z, hi1s, hi1b⟩ := info_parts info_m
  rcases h.2 with ⟨rfl, rfl⟩ | ⟨g, o, cap, cur, rfl, hb, hg, h4, h5, h6, h7⟩
  · obtain rfl : xs = [] := List.eq_nil_of_length_eq_zero (by simpa using h.1)
    have hnil : ∀ W, (binOp .eql 67 (.slice none 0 0) (.slice none 0 0)).run Try.prog W = .ok (.bool true) W := fun W => Lib.run_eql_slice_nil_nil W _ _ Try.underlying67
    clear h
    go_enter Try.func32, Try.ntmps32
    go_wp2
    go_ret
    exact ⟨_, rfl, World.ownsRow_nil _ _ _ _, Below.refl _ _⟩
  · have H := Lib.hid h
    have H1 := Lib.hid h1
    have HO := Lib.hid (World.ownsRow_made (base := w.heap.size) (e := 43) (size := 5) w #[] 0 (Nat.le_refl _) (by decide) (by simp))
    have HL := Lib.hid h.1
    have hnil : ∀ W, (binOp .eql 67 (.slice (some ⟨g, o, none⟩) n cap) (.slice none 0 0)).run Try.prog W = .ok (.bool false) W := fun W => Lib.run_eql_slice_some_nil W _ _ _ Try.underlying67
    have hcap : (n : Int) ≤ cap := by omega
    clear h h1 h7 hg
    go_enter Try.func32, Try.ntmps32
    go_wp2_with (at_builtin; refine wpList_append_own _ rfl _ _ 67 rfl w.heap.size 43 i1 _ 5 _ Try.underlying67 hi1 hi1z hi1s hi1b rfl (by decide) _ 0 [] rfl HO.out ⟨g, o, none⟩ n cap xs rfl HL.out ?x1 H1.out (by unfold maxLen; omega) (by omega) (by simp) ?x2)
    case x1 => exact fun j u hu => by rw [addr_add0]; exact (H.out.alloc _).cells j u hu
    intro v' w1 hown hgrow _
    have hbel : Below w.heap.size w w1 := Below.grown ((Below.refl _ _).alloc (Nat.le_refl _) _) hgrow (by simp) (fun k hk => by simp [Value.ownBlock] at hk; omega)
    have HO1 := Lib.hid hown
    have HB1 := Lib.hid hbel
    clear hown hgrow hbel
    go_wp2
    go_ret
    exact ⟨_, rfl, HO1.out, HB1.out⟩

set_option maxHeartbeats 1000000 in
theorem flights_any (B fp pb mb : Nat) (s : FS) (w : World) (h : FlowAt B fp pb mb s w) :
    Calls Try.prog 10 #[.pointer (some ⟨fp, 0, none⟩)] w fun e w' => ∃ v', e = .returned v' ∧ w'.ownsRow w.heap.size 45 7 v' s.fl.length (flL s.fl) ∧ Below w.heap.size w w' := by
  obtain ⟨vf, vw, h⟩ := h
  have C := Lib.hid (fclone_any B vf s.fl.length (flL s.fl) w h.fl (by have := h.ok.fl; omega) (flL_one _))
  have c3 := h.blk.cell 3
  obtain ⟨ao, cap, rfl, -⟩ := h.fl.form
  simp only [List.getElem?_toArray, List.getElem?_cons_zero, List.getElem?_cons_succ] at c3
  clear h
  go_enter Try.func10, Try.ntmps10
  go_wp2_with (go_at_call 26; (with_reducible refine C.out.mono ?_); rintro e w1 ⟨v', rfl, hown, hb⟩; have HO := Lib.hid hown; have HB := Lib.hid hb; clear hown hb)
  go_ret
  exact ⟨_, rfl, HO.out, HB.out⟩
set_option maxHeartbeats 1000000 in
theorem waiting_any (B fp pb mb : Nat) (s : FS) (w : World) (h : FlowAt B fp pb mb s w) :
    Calls Try.prog 17 #[.pointer (some ⟨fp, 0, none⟩)] w fun e w' => ∃ v', e = .returned v' ∧ w'.ownsRow w.heap.size 43 5 v' s.wt.length (wtL s.wt) ∧ Below w.heap.size w w' := by
  obtain ⟨vf, vw, h⟩ := h
  have C := Lib.hid (mclone_any B vw s.wt.length (wtL s.wt) w h.wt (by have := h.ok.wt; omega) (wtL_one _))
  have c4 := h.blk.cell 4
  obtain ⟨ao, cap, rfl, -⟩ := h.wt.form
  simp only [List.getElem?_toArray, List.getElem?_cons_zero, List.getElem?_cons_succ] at c4
  clear h
  go_enter Try.func17, Try.ntmps17
  go_wp2_with (go_at_call 32; (with_reducible refine C.out.mono ?_); rintro e w1 ⟨v', rfl, hown, hb⟩; have HO := Lib.hid hown; have HB := Lib.hid hb; clear hown hb)
  go_ret
  exact ⟨_, rfl, HO.out, HB.out⟩
end Go.Proofs.Ytnclobnnnihpfaa
