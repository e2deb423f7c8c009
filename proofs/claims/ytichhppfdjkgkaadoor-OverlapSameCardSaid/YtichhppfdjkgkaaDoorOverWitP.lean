/- How long the levels of shapes are, and what is put together of them. -/
import Derived.Test.YtichhppfdjkgkaaDoorOverWit
namespace Go.Proofs.YtichhppfdjkgkaaDoor
set_option linter.unusedVariables false
open Go.RowKit Pl Go.Shelf

theorem mem_jn {x : Bs} : ∀ {L : List Bs}, x ∈ L → x.length ≤ (jn L).length
  | [y], h => by
    rw [List.mem_singleton.1 h]
    exact Nat.le_refl _
  | y :: z :: r, h => by
    rw [jn_cons _ (by simp), List.length_append, List.length_cons]
    rcases List.mem_cons.1 h with rfl | h
    · omega
    · have := mem_jn h; omega
theorem shp_small (F : ByteArray) : (shp F).lv.length ≤ 32 := by
  cases h : filtB F
  · unfold shp; rw [if_neg (by rw [h]; simp)]; simp
  · have h1 := (filt_szd2 h).1
    unfold szd at h1
    simp only [Bool.and_eq_true, decide_eq_true_eq] at h1
    have h2 := shp_len h
    have := h1.2.2.2
    omega
theorem shp_lvl {F : ByteArray} {x : Bs} (hx : x ∈ (shp F).lv) : x.length ≤ 256 := by
  cases h : filtB F
  · unfold shp at hx; rw [if_neg (by rw [h]; simp)] at hx; cases hx
  · rw [shp_ok h] at hx
    have h1 := mem_jn (cut_sub hx)
    rw [jn_lev] at h1
    have h2 := (szd_size (filt_szd2 h).1).2.1
    have h3 : F.data.toList.length = F.size := rfl
    omega
theorem frs_small (F G : ByteArray) : (frs (shp F).lv (shp G).lv).length ≤ 65 := by
  obtain ⟨K, h1, h2, _⟩ := frs_spec (shp F).lv (shp G).lv
  have := shp_small F
  have := shp_small G
  rw [h1, List.length_replicate]
  omega
theorem fil_small (F G : ByteArray) (n : Nat) (g : Nat → Bs) (hg : ∀ i, g i = atL (shp F).lv i ∨ g i = atL (shp G).lv i) : ∀ x ∈ fil n g (frs (shp F).lv (shp G).lv), x.length ≤ 256 := by
  have at_le : ∀ (H : ByteArray) i, (atL (shp H).lv i).length ≤ 256 := fun H i => by
    by_cases hi : i < (shp H).lv.length
    · exact shp_lvl (atL_mem hi)
    · rw [atL_ge (by omega)]; simp
  intro x hx
  rcases fil_mem hx with rfl | ⟨i, _, rfl, _⟩
  · have := frs_small F G; omega
  · rcases hg i with h | h
    · rw [h]; exact at_le F i
    · rw [h]; exact at_le G i
theorem fil_len (F G : ByteArray) (n : Nat) (hn : n ≤ 4096) (g : Nat → Bs) (hg : ∀ i, g i = atL (shp F).lv i ∨ g i = atL (shp G).lv i) : (jn (fil n g (frs (shp F).lv (shp G).lv))).length ≤ 140737488355328 := by
  have h := jn_bound (fil_small F G n g hg)
  rw [fil_length] at h
  have : n * (256 + 1) ≤ 4096 * 257 := Nat.mul_le_mul hn (Nat.le_refl _)
  omega
theorem lst_small (F : ByteArray) : lst (shp F).lv ≤ 32 := by
  have := shp_small F
  unfold lst
  split
  · omega
  · omega
theorem witN_small (F G : ByteArray) : witN (shp F) (shp G) ≤ 32 := by
  have := lst_small F
  have := lst_small G
  unfold witN; omega
theorem gapN_small (F G : ByteArray) : gapN (shp F) (shp G) ≤ 33 := by
  have := lst_small G
  have := shp_small F
  unfold gapN; split <;> omega
theorem pick_or (A B : List Bs) (i : Nat) : pickL A B i = atL A i ∨ pickL A B i = atL B i := by unfold pickL; split <;> simp
/-- The first conditions of a witness. -/
def preW (s t : Sh) : Bool := tks s (witN s t) && (tks t (witN s t) && (!(wld s.lv && dlr t.lv) && !(wld t.lv && dlr s.lv)))
theorem witC_pre (s t : Sh) : witC s t = (preW s t && (List.range (witN s t)).all (okA s.lv t.lv)) := by
  unfold witC preW
  simp only [Bool.and_assoc]
theorem witC_all {s t : Sh} (h : preW s t = true) (h2 : ∀ j, j < witN s t → okA s.lv t.lv j = true) : witC s t = true := by
  rw [witC_pre, h, Bool.true_and, List.all_eq_true]
  intro j hj
  exact h2 j (List.mem_range.1 hj)
theorem witC_not {s t : Sh} {j : Nat} (hj : j < witN s t) (h2 : okA s.lv t.lv j = false) : witC s t = false := by
  rw [witC_pre, Bool.and_eq_false_iff]
  refine .inr ?_
  rw [List.all_eq_false]
  exact ⟨j, List.mem_range.2 hj, by rw [h2]; simp⟩
theorem wit_bad {F G : ByteArray} {s t : Sh} {ok a1 a2 g1 d2 g2 d1 : Bool} (hs : shp F = s) (ht : shp G = t) (hok : (filtB F && filtB G) = ok) (h1 : tks s (witN s t) = a1) (h2 : tks t (witN s t) = a2) (h3 : wld s.lv = g1) (h4 : wld t.lv = g2) (h5 : dlr s.lv = d1) (h6 : dlr t.lv = d2) :
    ((!ok || (!a1 || (!a2 || ((g1 && d2) || (g2 && d1))))) = true → ovB F G = false) ∧
    ((!ok || (!a1 || (!a2 || ((g1 && d2) || (g2 && d1))))) = false → ok = true ∧ preW s t = true ∧ ovB F G = witC s t) := by
  have e : ovB F G = (ok && witC s t) := by
    rw [← hok]; unfold ovB; rw [hs, ht, Bool.and_assoc]
  have e2 : preW s t = (a1 && (a2 && (!(g1 && d2) && !(g2 && d1)))) := by
    unfold preW; rw [h1, h2, h3, h4, h5, h6]
  rw [e, witC_pre, e2]
  constructor
  · intro h
    revert h
    cases ok <;> cases a1 <;> cases a2 <;> cases g1 <;> cases d2 <;> cases g2 <;> cases d1 <;> simp
  · intro h
    revert h
    cases ok <;> cases a1 <;> cases a2 <;> cases g1 <;> cases d2 <;> cases g2 <;> cases d1 <;> simp
theorem okA_of {A B : List Bs} {i : Nat} {x y : Bs} (hx : atL A i = x) (hy : atL B i = y) : okA A B i = (x == y || (x == [43] || y == [43])) := by
  unfold okA; rw [hx, hy]
end Go.Proofs.YtichhppfdjkgkaaDoor
