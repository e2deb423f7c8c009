/- The document's pool (aqueductref13): put. -/
import Derived.Test.YtnclobnnnihpfaaRdM
namespace Go.Proofs.Ytnclobnnnihpfaa
set_option linter.unusedVariables false
open Go.RowKit Go.Maps
theorem putR_len (id : Int) (l : List Int) : (putR id l).1.length ≤ 2 * l.length := by
  have : ∀ (l : List Int) (s : List Int × Bool), (l.foldl (fun (s : List Int × Bool) x => if s.2 = false ∧ id < x then (s.1 ++ [id] ++ [x], true) else (s.1 ++ [x], s.2)) s).1.length ≤ s.1.length + 2 * l.length := by
    intro l
    induction l with
    | nil => intro s; simp
    | cons x r ih =>
      intro s
      rw [List.foldl_cons]
      refine Nat.le_trans (ih _) ?_
      split <;> simp <;> omega
  have h := this l ([], false)
  simpa [putR] using h
/-- What becomes of the pool. -/
def RdPost (B rp : Nat) (t : Int) (l0 L : List Int) (r : Value) (w : World) (e : Ending) (w' : World) : Prop := e = .returned r ∧ ∃ v', DPool B rp t l0 v' L w' ∧ Fr B (onlyS rp) w w'
set_option maxHeartbeats 2000000 in
theorem rput_any (B rp : Nat) (t id : Int) (l0 l : List Int) (v : Value) (w : World) (h : DPool B rp t l0 v l w) (hl : l.length ≤ 1000) :
    Calls Try.prog 45 #[.pointer (some ⟨rp, 0, none⟩), .int .i64 id] w (RdPost B rp t (l0 ++ [id]) (rput id l) (.tuple #[]) w) := by
  obtain ⟨ao, cap, rfl, hlc, hcm, -⟩ := h.ls.form
  have HS := Lib.hid h.ls
  have HB := Lib.hid h.blk
  have HP := Lib.hid h.hP
  have HPM := Lib.hid h.pm
  clear h
  go_enter Try.func45, Try.ntmps45
  go_wp2_with fail
  go_loopw [4, 5, 6] (fun ov dv iv wr => ∃ i n : Nat, iv = .int .i64 i ∧ i ≤ l.length ∧ dv = .bool (putR id (l.take i)).2 ∧ n ≤ 2000 ∧ Hid (n = (putR id (l.take i)).1.length) ∧ Hid (Sl w.heap.size wr 3 1 ov n (intsL (putR id (l.take i)).1)) ∧ Hid (Below w.heap.size w wr)) (fun _ _ iv _ => ((l.length : Int) - intOf iv).toNat)
  case atStart => exact ⟨0, 0, rfl, Nat.zero_le _, rfl, by omega, Lib.hid rfl, Lib.hid (Sl.of_own (World.ownsRow_nil _ _ _ _)), Lib.hid (Below.refl _ _)⟩
  case round =>
    obtain ⟨i, n, rfl, hi, rfl, hn, hnn, hO, hW⟩ := hrel
    have c2 := (HB.out.of_below hW.out).cell 2
    simp only [List.getElem?_toArray, List.getElem?_cons_zero, List.getElem?_cons_succ] at c2
    by_cases hil : i < l.length
    · obtain ⟨x, hx⟩ : ∃ x, l[i]? = some x := ⟨_, List.getElem?_eq_getElem hil⟩
      obtain ⟨g, o, cap', ev, -, -, -, -, hcl⟩ := (HS.out.below hW.out).at (by omega)
      injection ev with e1 e2 e3
      subst e1
      have c := hcl i (.int .i64 x) (by unfold intsL; rw [List.getElem?_map, hx]; rfl)
      have hI : (i : Int) < (l.length : Int) := by omega
      have II : Hid (i < l.length) := Lib.hid hil
      have hsn := putR_snoc id x (l.take i)
      have htk : l.take (i + 1) = l.take i ++ [x] := by rw [List.take_add_one, hx]; rfl
      rw [← htk] at hsn
      clear htk
      obtain ⟨d, hd⟩ : ∃ d, (putR id (l.take i)).2 = d := ⟨_, rfl⟩
      rw [hd] at hsn ⊢
      by_cases hc : d = false ∧ id < x
      · rw [if_pos hc] at hsn
        have ht := Lib.hid hsn
        obtain ⟨rfl, hlt⟩ := hc
        have HX := Lib.hid hx
        obtain ⟨Y, hY⟩ : ∃ Y, wr.alloc (.cells #[.int .i64 id] 3) = Y := ⟨_, rfl⟩
        have bY : Below wr.heap.size wr Y := by rw [← hY]; exact (Below.refl _ _).alloc (Nat.le_refl _) _
        have HBK : Hid (Blk Y wr.heap.size #[.int .i64 id] 3) := Lib.hid (by rw [← hY]; exact Blk.new _ _ _)
        have HOY := Lib.hid (hO.out.below bY)
        have HWY := Lib.hid (hW.out.trans (bY.mono hW.out.size))
        clear bY hcl e2 e3 hx hil hO hW hd hsn
        go_wp2_with (at_builtin; refine wpList_i64 (.tmp 29) (.tmp 31) w.heap.size n _ (putR id (l.take i)).1 id wr.heap.size rfl rfl rfl rfl HOY.out HBK.out HWY.out.size (by omega) ?_)
        intro v' w2 r1 r2 r3
        have HO2 := Lib.hid r1
        have HW2 := Lib.hid (HWY.out.grown r2 HWY.out.size (fun k hk => (HOY.out.lt k hk).1))
        clear r1 r2 r3
        have c2 := (HB.out.of_below HW2.out).cell 2
        simp only [List.getElem?_toArray, List.getElem?_cons_zero, List.getElem?_cons_succ] at c2
        obtain ⟨g2, o2, cap2, ev2, -, -, -, -, hcl2⟩ := (HS.out.below HW2.out).at (by have := II.out; omega)
        injection ev2 with e1 e2 e3
        injection e1 with e1
        injection e1 with e4 e5
        subst e4 e5
        have c := hcl2 i (.int .i64 x) (by unfold intsL; rw [List.getElem?_map, HX.out]; rfl)
        obtain ⟨Y2, hY2⟩ : ∃ Y2, w2.alloc (.cells #[.int .i64 x] 3) = Y2 := ⟨_, rfl⟩
        have bY : Below w2.heap.size w2 Y2 := by rw [← hY2]; exact (Below.refl _ _).alloc (Nat.le_refl _) _
        have HBK2 : Hid (Blk Y2 w2.heap.size #[.int .i64 x] 3) := Lib.hid (by rw [← hY2]; exact Blk.new _ _ _)
        have HOY2 := Lib.hid (HO2.out.below bY)
        have HWY2 := Lib.hid (HW2.out.trans (bY.mono HW2.out.size))
        clear bY hcl2 e2 e3
        go_wp2_with (at_builtin; refine wpList_i64 (.tmp 33) (.tmp 41) w.heap.size (n + 1) _ ((putR id (l.take i)).1 ++ [id]) x w2.heap.size rfl rfl rfl rfl HOY2.out HBK2.out HWY2.out.size (by omega) ?_)
        intro v3 w3 r1 r2 r3
        have HO3 := Lib.hid r1
        have HW3 := Lib.hid (HWY2.out.grown r2 HWY2.out.size (fun k hk => (HOY2.out.lt k hk).1))
        clear r1 r2 r3
        go_wp2
        go_roundw
        case rel => exact ⟨i + 1, n + 1 + 1, by go_num, by have := II.out; omega, by rw [ht.out], by have := II.out; have := putR_len id (l.take i); rw [List.length_take] at this; have := hnn.out; omega, Lib.hid (by rw [ht.out]; simp [hnn.out]), Lib.hid (by rw [ht.out]; show Sl _ _ _ _ _ _ (intsL (_ ++ [id] ++ [x])); rw [List.append_assoc]; exact (by simpa using HO3.out)), HW3⟩
        case measure => have := II.out; simp [intOf]; omega
      · rw [if_neg hc] at hsn
        have ht := Lib.hid hsn
        clear hsn
        obtain ⟨Y, hY⟩ : ∃ Y, wr.alloc (.cells #[.int .i64 x] 3) = Y := ⟨_, rfl⟩
        have bY : Below wr.heap.size wr Y := by rw [← hY]; exact (Below.refl _ _).alloc (Nat.le_refl _) _
        have HBK : Hid (Blk Y wr.heap.size #[.int .i64 x] 3) := Lib.hid (by rw [← hY]; exact Blk.new _ _ _)
        have HOY := Lib.hid (hO.out.below bY)
        have HWY := Lib.hid (hW.out.trans (bY.mono hW.out.size))
        have HC : Hid (¬(d = false ∧ id < x)) := Lib.hid hc
        clear bY hcl e2 e3 hx hil hO hW hd hc
        have go : True := trivial
        cases d
        · have hlt : ¬ id < x := fun h => HC.out ⟨rfl, h⟩
          go_wp2_with (at_builtin; refine wpList_i64 (.tmp 33) (.tmp 41) w.heap.size n _ (putR id (l.take i)).1 x wr.heap.size rfl rfl rfl rfl HOY.out HBK.out HWY.out.size (by omega) ?_)
          intro v' w2 r1 r2 r3
          have HO2 := Lib.hid r1
          have HW2 := Lib.hid (HWY.out.grown r2 HWY.out.size (fun k hk => (HOY.out.lt k hk).1))
          clear r1 r2 r3
          go_wp2
          go_roundw
          case rel => exact ⟨i + 1, n + 1, by go_num, by have := II.out; omega, by rw [ht.out], by have := II.out; have := putR_len id (l.take i); rw [List.length_take] at this; have := hnn.out; omega, Lib.hid (by rw [ht.out]; simp [hnn.out]), Lib.hid (by rw [ht.out]; exact HO2.out), HW2⟩
          case measure => have := II.out; simp [intOf]; omega
        · go_wp2_with (at_builtin; refine wpList_i64 (.tmp 33) (.tmp 41) w.heap.size n _ (putR id (l.take i)).1 x wr.heap.size rfl rfl rfl rfl HOY.out HBK.out HWY.out.size (by omega) ?_)
          intro v' w2 r1 r2 r3
          have HO2 := Lib.hid r1
          have HW2 := Lib.hid (HWY.out.grown r2 HWY.out.size (fun k hk => (HOY.out.lt k hk).1))
          clear r1 r2 r3
          go_wp2
          go_roundw
          case rel => exact ⟨i + 1, n + 1, by go_num, by have := II.out; omega, by rw [ht.out], by have := II.out; have := putR_len id (l.take i); rw [List.length_take] at this; have := hnn.out; omega, Lib.hid (by rw [ht.out]; simp [hnn.out]), Lib.hid (by rw [ht.out]; exact HO2.out), HW2⟩
          case measure => have := II.out; simp [intOf]; omega
    · obtain rfl : i = l.length := by omega
      have hnl : ¬ ((l.length : Int) < (l.length : Int)) := by omega
      rw [List.take_length] at hnn hO ⊢
      have HP4 := Lib.hid (putR_put id l)
      have HBW := Lib.hid (HB.out.of_below hW.out)
      obtain ⟨d, hd⟩ : ∃ d, (putR id l).2 = d := ⟨_, rfl⟩
      rw [hd] at HP4 ⊢
      clear hd
      have hrp : rp < w.heap.size := HB.out.lt
      have f2 := HBW.out.frozen 2
      obtain ⟨ao4, cap4, rfl, -⟩ := hO.out.form
      cases d
      · obtain ⟨Y, hY⟩ : ∃ Y, wr.alloc (.cells #[.int .i64 id] 3) = Y := ⟨_, rfl⟩
        have bY : Below wr.heap.size wr Y := by rw [← hY]; exact (Below.refl _ _).alloc (Nat.le_refl _) _
        have HBK : Hid (Blk Y wr.heap.size #[.int .i64 id] 3) := Lib.hid (by rw [← hY]; exact Blk.new _ _ _)
        have HOY := Lib.hid (hO.out.below bY)
        have HWY := Lib.hid (hW.out.trans (bY.mono hW.out.size))
        clear bY f2
        go_wp2_with (at_builtin; refine wpList_i64 (.tmp 45) (.tmp 47) w.heap.size n _ (putR id l).1 id wr.heap.size rfl rfl rfl rfl HOY.out HBK.out HWY.out.size (by omega) ?_)
        intro v' w2 r1 r2 r3
        have HO2 := Lib.hid r1
        have HW2 := Lib.hid (HWY.out.grown r2 HWY.out.size (fun k hk => (HOY.out.lt k hk).1))
        clear r1 r2 r3
        have HB2 := Lib.hid (HB.out.of_below HW2.out)
        have c2 := HB2.out.cell 2
        have f2 := HB2.out.frozen 2
        simp only [List.getElem?_toArray, List.getElem?_cons_zero, List.getElem?_cons_succ] at c2
        obtain ⟨ao5, cap5, rfl, -⟩ := HO2.out.form
        go_wp2
        go_end0
        have e := HP4.out
        simp only [Bool.false_eq_true, if_false] at e
        rw [e] at HO2
        refine ⟨rfl, _, ⟨HP.out, HB2.out.set 2 _, ?_, put_perm HPM.out id⟩, (Fr.of_below HW2.out (Nat.le_trans HP.out (Nat.le_of_lt hrp))).set HB2.out HP.out (fun _ _ => rfl) 2 _⟩
        have h5 := (HO2.out.mono (Nat.le_trans HP.out (Nat.le_of_lt hrp))).set (R := rp) 2 (.slice ao5 (n + 1) cap5) (HO2.out.ne HB2.out (by decide))
        have hn : n + 1 = (rput id l).length := by rw [← e, List.length_append, hnn.out]; rfl
        rw [← hn]
        exact h5
      · go_wp2
        go_end0
        have e := HP4.out
        simp only [if_true] at e
        rw [e] at hO
        refine ⟨rfl, _, ⟨HP.out, HBW.out.set 2 _, ?_, put_perm HPM.out id⟩, (Fr.of_below hW.out (Nat.le_trans HP.out (Nat.le_of_lt hrp))).set HBW.out HP.out (fun _ _ => rfl) 2 _⟩
        have h5 := (hO.out.mono (Nat.le_trans HP.out (Nat.le_of_lt hrp))).set (R := rp) 2 (.slice ao4 n cap4) (hO.out.ne HBW.out (by decide))
        have hn : n = (rput id l).length := by rw [← e, hnn.out]
        rw [← hn]
        exact h5
end Go.Proofs.Ytnclobnnnihpfaa
