/- The document's pool (aqueductref13): Free. -/
import Derived.Test.YtnclobnnnihpfaaRdV
namespace Go.Proofs.Ytnclobnnnihpfaa
set_option linter.unusedVariables false
open Go.RowKit Go.Maps
def rfree (id : Int) (l : List Int) : List Int := l.filter (fun y => y != id)
theorem rfree_snoc (id x : Int) (l : List Int) : rfree id (l ++ [x]) = if x = id then rfree id l else rfree id l ++ [x] := by
  unfold rfree
  rw [List.filter_append]
  by_cases h : x = id <;> simp [h]
theorem rfree_len (id : Int) (l : List Int) : (rfree id l).length ≤ l.length := List.length_filter_le _ _
/-- What becomes of it. -/
def RdFree (B rp : Nat) (t : Int) (l0 L : List Int) (w : World) (e : Ending) (w' : World) : Prop := ∃ (b : Bool) (v' : Value), e = .returned (.bool b) ∧ DPool B rp t l0 v' L w' ∧ Fr B (onlyS rp) w w'
theorem rdFree_mk {B rp : Nat} {t : Int} {l0 L : List Int} {w w2 : World} {b : Bool} {v' : Value} (h : DPool B rp t l0 v' L w2) (hf : Fr B (onlyS rp) w w2) : RdFree B rp t l0 L w (.returned (.bool b)) w2 := ⟨b, v', rfl, h, hf⟩
set_option maxHeartbeats 2000000 in
theorem rfree_any (B rp : Nat) (t id : Int) (l0 l1 l : List Int) (v : Value) (w : World) (h : DPool B rp t l0 v l w) (hl : l.length ≤ 1000) (hp : (rfree id l).Perm l1) :
    Calls Try.prog 41 #[.pointer (some ⟨rp, 0, none⟩), .int .i64 id] w (RdFree B rp t l1 (rfree id l) w) := by
  obtain ⟨ao, cap, rfl, hlc, hcm, -⟩ := h.ls.form
  have HS := Lib.hid h.ls
  have HB := Lib.hid h.blk
  have HP := Lib.hid h.hP
  have HPM := Lib.hid hp
  clear h hp
  go_enter Try.func41, Try.ntmps41
  go_wp2_with fail
  go_loopw [5, 6] (fun ov iv wr => ∃ i n : Nat, iv = .int .i64 i ∧ i ≤ l.length ∧ n ≤ l.length ∧ Hid (n = (rfree id (l.take i)).length) ∧ Hid (Sl w.heap.size wr 3 1 ov n (intsL (rfree id (l.take i)))) ∧ Hid (Below w.heap.size w wr)) (fun _ iv _ => ((l.length : Int) - intOf iv).toNat)
  case atStart => exact ⟨0, 0, rfl, Nat.zero_le _, Nat.zero_le _, Lib.hid rfl, Lib.hid (Sl.of_own (World.ownsRow_nil _ _ _ _)), Lib.hid (Below.refl _ _)⟩
  case round =>
    obtain ⟨i, n, rfl, hi, hn, hnn, hO, hW⟩ := hrel
    have c2 := (HB.out.of_below hW.out).cell 2
    simp only [List.getElem?_toArray, List.getElem?_cons_zero, List.getElem?_cons_succ] at c2
    by_cases hil : i < l.length
    · obtain ⟨x, hx⟩ : ∃ x, l[i]? = some x := ⟨_, List.getElem?_eq_getElem hil⟩
      obtain ⟨g, o, cap', ev, -, -, -, -, hcl⟩ := (HS.out.below hW.out).at (by omega)
      injection ev with e1 e2 e3
      subst e1
      have c := hcl i (.int .i64 x) (by unfold intsL; rw [List.getElem?_map, hx]; rfl)
      have hI : (i : Int) < (l.length : Int) := by omega
      have II : Hid (i < l.length) := Lib.hid hil
      have hsn := rfree_snoc id x (l.take i)
      have htk : l.take (i + 1) = l.take i ++ [x] := by rw [List.take_add_one, hx]; rfl
      rw [← htk] at hsn
      clear htk hcl e2 e3 hx hil
      by_cases hc : x = id
      · subst hc
        rw [if_pos rfl] at hsn
        have ht := Lib.hid hsn
        clear hsn
        go_wp2_with fail
        go_roundw
        case rel => exact ⟨i + 1, n, by go_num, by have := II.out; omega, hn, by rw [ht.out]; exact hnn, by rw [ht.out]; exact hO, hW⟩
        case measure => have := II.out; simp [intOf]; omega
      · rw [if_neg hc] at hsn
        have ht := Lib.hid hsn
        have hne : (x == id) = false := beq_eq_false_iff_ne.2 hc
        have hnb : (x != id) = true := by rw [bne_iff_ne]; exact hc
        obtain ⟨Y, hY⟩ : ∃ Y, wr.alloc (.cells #[.int .i64 x] 3) = Y := ⟨_, rfl⟩
        have bY : Below wr.heap.size wr Y := by rw [← hY]; exact (Below.refl _ _).alloc (Nat.le_refl _) _
        have HBK : Hid (Blk Y wr.heap.size #[.int .i64 x] 3) := Lib.hid (by rw [← hY]; exact Blk.new _ _ _)
        have HOY := Lib.hid (hO.out.below bY)
        have HWY := Lib.hid (hW.out.trans (bY.mono hW.out.size))
        clear bY hO hW hsn hc
        go_wp2_with (at_builtin; refine wpList_i64 (.tmp 26) (.tmp 34) w.heap.size n _ (rfree id (l.take i)) x wr.heap.size rfl rfl rfl rfl HOY.out HBK.out HWY.out.size (by omega) ?_)
        intro v' w2 r1 r2 r3
        have HO2 := Lib.hid r1
        have HW2 := Lib.hid (HWY.out.grown r2 HWY.out.size (fun k hk => (HOY.out.lt k hk).1))
        clear r1 r2 r3
        go_wp2
        go_roundw
        case rel => exact ⟨i + 1, n + 1, by go_num, by have := II.out; omega, by have := II.out; have := rfree_len id (l.take i); rw [List.length_take] at this; have := hnn.out; omega, Lib.hid (by rw [ht.out]; simp [hnn.out]), Lib.hid (by rw [ht.out]; exact HO2.out), HW2⟩
        case measure => have := II.out; simp [intOf]; omega
    · obtain rfl : i = l.length := by omega
      have hnl : ¬ ((l.length : Int) < (l.length : Int)) := by omega
      rw [List.take_length] at hnn hO
      have HBW := Lib.hid (HB.out.of_below hW.out)
      have hrp : rp < w.heap.size := HB.out.lt
      have f2 := HBW.out.frozen 2
      obtain ⟨ao4, cap4, rfl, -⟩ := hO.out.form
      have HBD := HPM
      go_wp2
      go_ret
      refine rdFree_mk (v' := .slice ao4 n cap4) ⟨HP.out, HBW.out.set 2 _, ?_, HPM.out⟩ ((Fr.of_below hW.out (Nat.le_trans HP.out (Nat.le_of_lt hrp))).set HBW.out HP.out (fun _ _ => rfl) 2 _)
      have h5 := (hO.out.mono (Nat.le_trans HP.out (Nat.le_of_lt hrp))).set (R := rp) 2 (.slice ao4 n cap4) (hO.out.ne HBW.out (by decide))
      have e := hnn.out
      rw [← e]
      exact h5
end Go.Proofs.Ytnclobnnnihpfaa
