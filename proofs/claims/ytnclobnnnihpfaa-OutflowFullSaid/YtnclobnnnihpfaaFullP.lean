/- OutflowFull, plain: as many wait as may, and go out in order. -/
import Derived.Test.YtnclobnnnihpfaaFlowP
namespace Go.Proofs.Ytnclobnnnihpfaa
set_option linter.unusedVariables false

section
variable (pay : Nat → ByteArray) (q : Int)
def fuM (i : Nat) : OM := ⟨⟨#[116]⟩, pay i, q, false, ⟨#[]⟩⟩
/-- While nobody is there. -/
def fuS (k : Nat) : FS := ⟨0, 1, false, [], (List.range (min k 256)).map (fuM pay q)⟩
theorem fuS_len (k : Nat) : (fuS pay q k).wt.length = min k 256 := by simp [fuS]
theorem fu_send_lt {k : Nat} (h0 : 1 ≤ q) (h2 : q ≤ 2) (hk : k < 256) : fsend (fuS pay q k) (fuM pay q k) = (fuS pay q (k + 1), [], 0) := by
  unfold fsend
  have e1 : ¬ ((fuM pay q k).qos < 0 ∨ 2 < (fuM pay q k).qos) := by show ¬ (q < 0 ∨ 2 < q); omega
  have e2 : ¬ ((fuM pay q k).qos = 0 ∧ (fuS pay q k).on = false) := by rintro ⟨c, _⟩; have : q = 0 := c; omega
  rw [if_neg e1, if_neg e2, if_neg (by rw [fuS_len]; omega)]
  have e3 : ({ fuS pay q k with wt := (fuS pay q k).wt ++ [fuM pay q k] } : FS) = fuS pay q (k + 1) := by
    unfold fuS
    simp only [Nat.min_eq_left (Nat.le_of_lt hk), Nat.min_eq_left (show k + 1 ≤ 256 from hk), List.range_succ, List.map_append, List.map_cons, List.map_nil]
  rw [e3, goOn_off rfl]
theorem fu_send_ge {k : Nat} (h0 : 1 ≤ q) (h2 : q ≤ 2) (hk : 256 ≤ k) : fsend (fuS pay q k) (fuM pay q k) = (fuS pay q (k + 1), [], 151) := by
  unfold fsend
  have e1 : ¬ ((fuM pay q k).qos < 0 ∨ 2 < (fuM pay q k).qos) := by show ¬ (q < 0 ∨ 2 < q); omega
  have e2 : ¬ ((fuM pay q k).qos = 0 ∧ (fuS pay q k).on = false) := by rintro ⟨c, _⟩; have : q = 0 := c; omega
  rw [if_neg e1, if_neg e2, if_pos (by rw [fuS_len]; omega)]
  unfold fuS
  rw [Nat.min_eq_right hk, Nat.min_eq_right (show 256 ≤ k + 1 by omega)]
/-- The ones that still wait. -/
def fuW (i n : Nat) : List OM := (List.range' i (n - i)).map (fuM pay q)
/-- When i have gone. -/
def fuA (n i : Nat) : FS := if i < n then ⟨(i : Int) + 1, 1, true, [⟨(i : Int) + 1, fuM pay q i, false⟩], fuW pay q (i + 1) n⟩ else ⟨n, 1, true, [], []⟩
def fuO (n i : Nat) : List OP := if i < n then [.pub (fuM pay q i) ((i : Int) + 1) false] else []
theorem fuW_cons {i n : Nat} (h : i < n) : fuW pay q i n = fuM pay q i :: fuW pay q (i + 1) n := by
  unfold fuW
  rw [show n - i = (n - (i + 1)) + 1 from by omega, List.range'_succ, List.map_cons]
theorem fuW_nil {i n : Nat} (h : n ≤ i) : fuW pay q i n = [] := by
  unfold fuW
  rw [show n - i = 0 from by omega]; rfl
theorem fu_next (i : Nat) (h : i ≤ 300) : nextId [] (i : Int) = (i : Int) + 1 := by
  rw [nextId_here (by simp)]
  unfold idStep
  omega
/-- What goes out when none is on its way. -/
theorem fu_go {n i : Nat} (h1 : 1 ≤ q) (hn : n ≤ 256) (hi : i ≤ n) : goOn ⟨i, 1, true, [], fuW pay q i n⟩ = (fuA pay q n i, fuO pay q n i) := by
  by_cases h : i < n
  · rw [goOn_1 rfl (fuW_cons pay q h) (show 0 < q by omega) (by simp)]
    have e : pop1 ⟨i, 1, true, [], fuW pay q i n⟩ (fuM pay q i) (fuW pay q (i + 1) n) = fuA pay q n i := by
      unfold fuA pop1
      rw [if_pos h]
      simp only [oids, List.map_nil, List.nil_append, fu_next i (by omega)]
    have en : nextId (oids []) (i : Int) = (i : Int) + 1 := fu_next i (by omega)
    show ((goOn (pop1 ⟨i, 1, true, [], fuW pay q i n⟩ (fuM pay q i) (fuW pay q (i + 1) n))).1, OP.pub (fuM pay q i) (nextId (oids []) (i : Int)) false :: (goOn (pop1 ⟨i, 1, true, [], fuW pay q i n⟩ (fuM pay q i) (fuW pay q (i + 1) n))).2) = _
    rw [e, en]
    have hs : goOn (fuA pay q n i) = (fuA pay q n i, []) := by
      by_cases h2 : i + 1 < n
      · have hw : (fuA pay q n i).wt = fuM pay q (i + 1) :: fuW pay q (i + 2) n := by unfold fuA; rw [if_pos h]; exact fuW_cons pay q h2
        exact goOn_full hw (show 0 < q by omega) (by unfold fuA; rw [if_pos h]; simp)
      · exact goOn_empty (by unfold fuA; rw [if_pos h]; exact fuW_nil pay q (by omega))
    rw [hs]
    unfold fuO
    rw [if_pos h]
  · have hin : i = n := by omega
    subst hin
    rw [fuW_nil pay q (Nat.le_refl _), goOn_empty rfl]
    unfold fuA fuO
    rw [if_neg h, if_neg h]
theorem fu_begin {k n : Nat} (h1 : 1 ≤ q) (hn : n = min k 256) : fbegin (fuS pay q k) 1 = (fuA pay q n 0, fuO pay q n 0) := by
  unfold fbegin
  have e : ({ fuS pay q k with on := true, most := bounded 1 } : FS) = ⟨(0 : Nat), 1, true, [], fuW pay q 0 n⟩ := by
    unfold fuS fuW
    rw [← hn, Nat.sub_zero, List.range_eq_range']
    rfl
  rw [e, fu_go pay q h1 (by omega) (by omega)]
  rfl
theorem fu_find {n i : Nat} (h : i < n) : (fuA pay q n i).fl.findIdx? (fun x => x.id == (i : Int) + 1) = some 0 := by
  unfold fuA
  rw [if_pos h]
  simp
theorem fu_over {n i : Nat} (h : i < n) : fover (fuA pay q n i) 0 = ⟨((i + 1 : Nat) : Int), 1, true, [], fuW pay q (i + 1) n⟩ := by
  unfold fuA fover
  rw [if_pos h]
  simp
/-- QoS 1: a Puback. -/
theorem fu_ack {n i : Nat} (hq : q = 1) (hn : n ≤ 256) (h : i < n) : fanswer (fuA pay q n i) 4 ((i : Int) + 1) 0 = (fuA pay q n (i + 1), fuO pay q n (i + 1), 0) := by
  unfold fanswer
  rw [if_neg (by unfold fuA; rw [if_pos h]; simp), fu_find pay q h]
  have hx : (fuA pay q n i).fl[0]? = some ⟨(i : Int) + 1, fuM pay q i, false⟩ := by unfold fuA; rw [if_pos h]; rfl
  simp only [hx]
  rw [if_pos trivial, if_neg (by show ¬ (q ≠ 1); simp [hq]), fu_over pay q h, fu_go pay q (by omega) hn (by omega)]
/-- QoS 2: a Pubrec .. -/
def fuR (n i : Nat) : FS := frel (fuA pay q n i) 0
theorem fu_rec {n i : Nat} (hq : q = 2) (hn : n ≤ 256) (h : i < n) : fanswer (fuA pay q n i) 5 ((i : Int) + 1) 0 = (fuR pay q n i, [.rel ((i : Int) + 1)], 0) := by
  unfold fanswer
  rw [if_neg (by unfold fuA; rw [if_pos h]; simp), fu_find pay q h]
  have hx : (fuA pay q n i).fl[0]? = some ⟨(i : Int) + 1, fuM pay q i, false⟩ := by unfold fuA; rw [if_pos h]; rfl
  simp only [hx]
  rw [if_neg (by decide), if_pos trivial, if_neg (by show ¬ (q ≠ 2 ∨ _); simp [hq]), if_neg (by decide)]
  have hs : goOn (frel (fuA pay q n i) 0) = (frel (fuA pay q n i) 0, []) := by
    by_cases h2 : i + 1 < n
    · have hw : (frel (fuA pay q n i) 0).wt = fuM pay q (i + 1) :: fuW pay q (i + 2) n := by unfold fuA frel; rw [if_pos h]; exact fuW_cons pay q h2
      exact goOn_full hw (show 0 < q by omega) (by unfold fuA frel; rw [if_pos h]; simp)
    · exact goOn_empty (by unfold fuA frel; rw [if_pos h]; exact fuW_nil pay q (by omega))
  rw [hs]
  rfl
/-- .. and a Pubcomp. -/
theorem fu_comp {n i : Nat} (hq : q = 2) (hn : n ≤ 256) (h : i < n) : fanswer (fuR pay q n i) 7 ((i : Int) + 1) 0 = (fuA pay q n (i + 1), fuO pay q n (i + 1), 0) := by
  unfold fanswer
  have hfl : (fuR pay q n i).fl = [⟨(i : Int) + 1, fuM pay q i, true⟩] := by unfold fuR fuA frel; rw [if_pos h]; rfl
  have hon : (fuR pay q n i).on = true := by unfold fuR fuA frel; rw [if_pos h]
  have hov : fover (fuR pay q n i) 0 = ⟨((i + 1 : Nat) : Int), 1, true, [], fuW pay q (i + 1) n⟩ := by
    unfold fuR fuA frel fover
    rw [if_pos h]
    simp
  rw [if_neg (by rw [hon]; simp), hfl]
  have hf : [(⟨(i : Int) + 1, fuM pay q i, true⟩ : OF)].findIdx? (fun x => x.id == (i : Int) + 1) = some 0 := by simp
  rw [hf]
  simp only [List.getElem?_cons_zero]
  rw [if_neg (by decide), if_neg (by decide), if_neg (by decide), hov, fu_go pay q (by omega) hn (by omega)]
theorem fuA_end (n : Nat) : fuA pay q n n = ⟨n, 1, true, [], []⟩ := by unfold fuA; rw [if_neg (by omega)]
theorem fuO_end (n : Nat) : fuO pay q n n = [] := by unfold fuO; rw [if_neg (by omega)]
end
end Go.Proofs.Ytnclobnnnihpfaa
