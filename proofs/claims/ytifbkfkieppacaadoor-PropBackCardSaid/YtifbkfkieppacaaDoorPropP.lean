/- Properties: plain; a row of them. -/
import Derived.Test.YtifbkfkieppacaaDoorAux
namespace Go.Proofs.YtifbkfkieppacaaDoor
set_option linter.unusedVariables false
open Go.RowKit

structure Pp where
  id : Int
  n : Int
  s : ByteArray
  t : ByteArray
def ppA (p : Pp) : Array Value := #[.int .i64 p.id, .int .i64 p.n, .string p.s, .string p.t]
def ppV (p : Pp) : Value := .agg (ppA p)
def flat (L : List Pp) : List Value := L.flatMap fun p => (ppA p).toList
theorem flat_snoc (L : List Pp) (p : Pp) : flat L ++ (ppA p).toList = flat (L ++ [p]) := by unfold flat; simp
theorem flat_at {p : Pp} : ∀ {L : List Pp} {i : Nat} {j : Nat} {u : Value}, L[i]? = some p → (ppA p).toList[j]? = some u → (flat L)[i * 4 + j]? = some u
  | q :: r, 0, j, u, h, hj => by
    obtain rfl : q = p := by simpa using h
    have hl : (ppA q).toList.length = 4 := rfl
    have hlt : j < 4 := by rw [← hl]; exact (List.getElem?_eq_some_iff.1 hj).1
    show ((ppA q).toList ++ flat r)[0 * 4 + j]? = some u
    rw [Nat.zero_mul, Nat.zero_add, List.getElem?_append_left (by rw [hl]; exact hlt)]
    exact hj
  | q :: r, i + 1, j, u, h, hj => by
    have hl : (ppA q).toList.length = 4 := rfl
    show ((ppA q).toList ++ flat r)[(i + 1) * 4 + j]? = some u
    rw [List.getElem?_append_right (by rw [hl]; omega), hl, show (i + 1) * 4 + j - 4 = i * 4 + j from by omega]
    exact flat_at (by simpa using h) hj
theorem flat_len (L : List Pp) : (flat L).length = L.length * 4 := by
  induction L with
  | nil => rfl
  | cons p r ih =>
    show ((ppA p).toList ++ flat r).length = _
    rw [List.length_append, ih, List.length_cons]
    have : (ppA p).toList.length = 4 := rfl
    omega
/-- A row of properties, from an offset on. -/
def PRow (w : World) (A : Option Addr) (L : List Pp) : Prop := 0 < L.length → ∃ b o, A = some ⟨b, o, none⟩ ∧ b < w.heap.size ∧ ∀ i p, L[i]? = some p → w.cell? ⟨b, o + i * 4, none⟩ = some (.int .i64 p.id) ∧ w.cell? ⟨b, o + i * 4 + 1, none⟩ = some (.int .i64 p.n) ∧ w.cell? ⟨b, o + i * 4 + 2, none⟩ = some (.string p.s) ∧ w.cell? ⟨b, o + i * 4 + 3, none⟩ = some (.string p.t)
theorem PRow.below {w w' : World} {A : Option Addr} {L : List Pp} (h : PRow w A L) (hb : Below w.heap.size w w') : PRow w' A L := fun hp => by
  obtain ⟨b, o, e, h1, h2⟩ := h hp
  refine ⟨b, o, e, Nat.lt_of_lt_of_le h1 hb.size, fun i p hx => ?_⟩
  obtain ⟨c0, c1, c2, c3⟩ := h2 i p hx
  exact ⟨(hb.cell (p := ⟨b, o + i * 4, none⟩) h1).trans c0, (hb.cell (p := ⟨b, o + i * 4 + 1, none⟩) h1).trans c1, (hb.cell (p := ⟨b, o + i * 4 + 2, none⟩) h1).trans c2, (hb.cell (p := ⟨b, o + i * 4 + 3, none⟩) h1).trans c3⟩
theorem PRow.take {w : World} {A : Option Addr} {L : List Pp} {k : Nat} (h : PRow w A L) : PRow w A (L.take k) := fun hp => by
  obtain ⟨b, o, e, h1, h2⟩ := h (by rw [List.length_take] at hp; omega)
  exact ⟨b, o, e, h1, fun i x hx => h2 i x (by rw [List.getElem?_take] at hx; split at hx; exact hx; cases hx)⟩
theorem own_prow {w : World} {base m : Nat} {e : TypeId} {v : Value} {L : List Pp} (h : w.ownsRow base e 4 v m (flat L)) (hm : m = L.length) : ∃ A cap, v = .slice A m cap ∧ m ≤ cap ∧ PRow w A L := by
  subst hm
  rcases h.2 with ⟨rfl, h0⟩ | ⟨g, cap, cur, rfl, _, hh, hnc, _⟩
  · have : L.length = 0 := by have := flat_len L; rw [h0] at this; simp at this; omega
    exact ⟨none, 0, by rw [this], by omega, fun hp => absurd hp (by omega)⟩
  · refine ⟨_, cap, rfl, hnc, fun _ => ⟨g, 0, rfl, (h.lt g rfl).2, fun k p hx => ?_⟩⟩
    have hk := (List.getElem?_eq_some_iff.1 hx).1
    have hc : ∀ j u, (ppA p).toList[j]? = some u → w.cell? ⟨g, 0 + k * 4 + j, none⟩ = some u := fun j u hj => by
      have hj4 : j < 4 := (List.getElem?_eq_some_iff.1 hj).1
      rw [Nat.zero_add, h.cellAt (k * 4 + j) (by omega)]
      exact flat_at hx hj
    exact ⟨hc 0 _ rfl, hc 1 _ rfl, hc 2 _ rfl, hc 3 _ rfl⟩
end Go.Proofs.YtifbkfkieppacaaDoor
