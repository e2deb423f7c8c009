/- Rows of rules: plain. -/
import Derived.Test.YtdjiioidkgppjaaDoorRemapPlain
import Derived.Test.YtdjiioidkgppjaaDoorAux
namespace Go.Proofs.YtdjiioidkgppjaaDoor
set_option linter.unusedVariables false
open Go.RowKit Pl

def flat5 (L : List Rl) : List Value := L.flatMap fun p => (ruC p).toList
theorem flat5_snoc (L : List Rl) (p : Rl) : flat5 L ++ (ruC p).toList = flat5 (L ++ [p]) := by unfold flat5; simp
theorem flat5_at {p : Rl} : ∀ {L : List Rl} {i : Nat} {j : Nat} {u : Value}, L[i]? = some p → (ruC p).toList[j]? = some u → (flat5 L)[i * 5 + j]? = some u
  | q :: r, 0, j, u, h, hj => by
    obtain rfl : q = p := by simpa using h
    have hl : (ruC q).toList.length = 5 := rfl
    have hlt : j < 5 := by rw [← hl]; exact (List.getElem?_eq_some_iff.1 hj).1
    show ((ruC q).toList ++ flat5 r)[0 * 5 + j]? = some u
    rw [Nat.zero_mul, Nat.zero_add, List.getElem?_append_left (by rw [hl]; exact hlt)]
    exact hj
  | q :: r, i + 1, j, u, h, hj => by
    have hl : (ruC q).toList.length = 5 := rfl
    show ((ruC q).toList ++ flat5 r)[(i + 1) * 5 + j]? = some u
    rw [List.getElem?_append_right (by rw [hl]; omega), hl, show (i + 1) * 5 + j - 5 = i * 5 + j from by omega]
    exact flat5_at (by simpa using h) hj
theorem flat5_len (L : List Rl) : (flat5 L).length = L.length * 5 := by
  induction L with
  | nil => rfl
  | cons p r ih =>
    show ((ruC p).toList ++ flat5 r).length = _
    rw [List.length_append, ih, List.length_cons]
    have : (ruC p).toList.length = 5 := rfl
    omega
/-- A row of properties, from an offset on. -/
def RRow (w : World) (A : Option Addr) (L : List Rl) : Prop := 0 < L.length → ∃ b o, A = some ⟨b, o, none⟩ ∧ b < w.heap.size ∧ ∀ i p, L[i]? = some p → w.cell? ⟨b, o + i * 5, none⟩ = some (.string p.pat) ∧ w.cell? ⟨b, o + i * 5 + 1, none⟩ = some (.int .i64 p.dir) ∧ w.cell? ⟨b, o + i * 5 + 2, none⟩ = some (.int .i64 p.qos) ∧ w.cell? ⟨b, o + i * 5 + 3, none⟩ = some (.string p.loc) ∧ w.cell? ⟨b, o + i * 5 + 4, none⟩ = some (.string p.rem)
theorem RRow.below {w w' : World} {A : Option Addr} {L : List Rl} (h : RRow w A L) (hb : Below w.heap.size w w') : RRow w' A L := fun hp => by
  obtain ⟨b, o, e, h1, h2⟩ := h hp
  refine ⟨b, o, e, Nat.lt_of_lt_of_le h1 hb.size, fun i p hx => ?_⟩
  obtain ⟨c0, c1, c2, c3, c4⟩ := h2 i p hx
  exact ⟨(hb.cell (p := ⟨b, o + i * 5, none⟩) h1).trans c0, (hb.cell (p := ⟨b, o + i * 5 + 1, none⟩) h1).trans c1, (hb.cell (p := ⟨b, o + i * 5 + 2, none⟩) h1).trans c2, (hb.cell (p := ⟨b, o + i * 5 + 3, none⟩) h1).trans c3, (hb.cell (p := ⟨b, o + i * 5 + 4, none⟩) h1).trans c4⟩
theorem RRow.take {w : World} {A : Option Addr} {L : List Rl} {k : Nat} (h : RRow w A L) : RRow w A (L.take k) := fun hp => by
  obtain ⟨b, o, e, h1, h2⟩ := h (by rw [List.length_take] at hp; omega)
  exact ⟨b, o, e, h1, fun i x hx => h2 i x (by rw [List.getElem?_take] at hx; split at hx; exact hx; cases hx)⟩
theorem own_rrow {w : World} {base m : Nat} {e : TypeId} {v : Value} {L : List Rl} (h : w.ownsRow base e 5 v m (flat5 L)) (hm : m = L.length) : ∃ A cap, v = .slice A m cap ∧ m ≤ cap ∧ RRow w A L := by
  subst hm
  rcases h.2 with ⟨rfl, h0⟩ | ⟨g, cap, cur, rfl, _, hh, hnc, _⟩
  · have : L.length = 0 := by have := flat5_len L; rw [h0] at this; simp at this; omega
    exact ⟨none, 0, by rw [this], by omega, fun hp => absurd hp (by omega)⟩
  · refine ⟨_, cap, rfl, hnc, fun _ => ⟨g, 0, rfl, (h.lt g rfl).2, fun k p hx => ?_⟩⟩
    have hk := (List.getElem?_eq_some_iff.1 hx).1
    have hc : ∀ j u, (ruC p).toList[j]? = some u → w.cell? ⟨g, 0 + k * 5 + j, none⟩ = some u := fun j u hj => by
      have hj5 : j < 5 := (List.getElem?_eq_some_iff.1 hj).1
      rw [Nat.zero_add, h.cellAt (k * 5 + j) (by omega)]
      exact flat5_at hx hj
    exact ⟨hc 0 _ rfl, hc 1 _ rfl, hc 2 _ rfl, hc 3 _ rfl, hc 4 _ rfl⟩
end Go.Proofs.YtdjiioidkgppjaaDoor
