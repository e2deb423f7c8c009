/- Five cells of a block, behind allocs and stores. -/
import Derived.Test.YtdjiioidkgppjaaDoorRemapLaw1
namespace Go.Proofs.YtdjiioidkgppjaaDoor
open Go.RowKit Pl Go.Shelf
theorem set_same {X : World} {p : Addr} {v : Value} (h : (X.cell? p).isSome = true) : (X.setCell p v).cell? p = some v := by
  obtain ⟨u, hu⟩ := Option.isSome_iff_exists.1 h
  exact World.cell?_setCell_same _ _ _ hu
/-- Five cells of a block. -/
def C5 (W : World) (F : Nat) (r : Rl) : Prop := W.cell? ⟨F, 0, none⟩ = some (.string r.pat) ∧ W.cell? ⟨F, 1, none⟩ = some (.int .i64 r.dir) ∧ W.cell? ⟨F, 2, none⟩ = some (.int .i64 r.qos) ∧ W.cell? ⟨F, 3, none⟩ = some (.string r.loc) ∧ W.cell? ⟨F, 4, none⟩ = some (.string r.rem)
def Z5 (W : World) (F : Nat) : Prop := F < W.heap.size ∧ ∀ i, i < 5 → (W.cell? ⟨F, i, none⟩).isSome = true
theorem z5_alloc {X : World} {F : Nat} {a b c d e : Value} {T : TypeId} (h : F = X.heap.size) : Z5 (X.alloc (.cells #[a, b, c, d, e] T)) F := by
  subst h
  refine ⟨by simp, fun i hi => ?_⟩
  rw [World.cell?_alloc_at _ _ _ _ rfl]
  simp [hi]
theorem z5_past {X : World} {F : Nat} {o : Obj} (h : Z5 X F) : Z5 (X.alloc o) F :=
  ⟨by have := h.1; simp; omega, fun i hi => by rw [World.cell?_alloc_past _ _ _ h.1]; exact h.2 i hi⟩
theorem z5_drew {X : World} {F : Nat} (h : Z5 X F) : Z5 X.drew F := h
theorem z5_below {X Y : World} {F : Nat} (b : Below X.heap.size X Y) (h : Z5 X F) : Z5 Y F :=
  ⟨Nat.lt_of_lt_of_le h.1 b.size, fun i hi => by rw [b.cell (p := ⟨F, i, none⟩) h.1]; exact h.2 i hi⟩
theorem z5_set {X : World} {F : Nat} {p : Addr} {v : Value} (h : Z5 X F) : Z5 (X.setCell p v) F := by
  refine ⟨by simp [World.setCell]; exact h.1, fun i hi => ?_⟩
  by_cases e : p = ⟨F, i, none⟩
  · subst e
    rw [set_same (h.2 i hi)]
    rfl
  · rw [World.cell?_setCell_other _ _ _ _ e]
    exact h.2 i hi
theorem c5_alloc {X : World} {F : Nat} {r : Rl} {T : TypeId} (h : F = X.heap.size) : C5 (X.alloc (.cells #[.string r.pat, .int .i64 r.dir, .int .i64 r.qos, .string r.loc, .string r.rem] T)) F r := by
  subst h
  refine ⟨?_, ?_, ?_, ?_, ?_⟩ <;> (rw [World.cell?_alloc_at _ _ _ _ rfl]; rfl)
theorem c5_past {X : World} {F : Nat} {r : Rl} {o : Obj} (z : F < X.heap.size) (h : C5 X F r) : C5 (X.alloc o) F r := by
  refine ⟨?_, ?_, ?_, ?_, ?_⟩ <;> rw [World.cell?_alloc_past _ _ _ z]
  · exact h.1
  · exact h.2.1
  · exact h.2.2.1
  · exact h.2.2.2.1
  · exact h.2.2.2.2
theorem c5_other {X : World} {F : Nat} {r : Rl} {p : Addr} {v : Value} (e : p.block ≠ F) (h : C5 X F r) : C5 (X.setCell p v) F r := by
  have k : ∀ o, (X.setCell p v).cell? ⟨F, o, none⟩ = X.cell? ⟨F, o, none⟩ := fun o => World.cell?_setCell_other X p ⟨F, o, none⟩ v (fun q => e (by rw [q]))
  exact ⟨(k 0).trans h.1, (k 1).trans h.2.1, (k 2).trans h.2.2.1, (k 3).trans h.2.2.2.1, (k 4).trans h.2.2.2.2⟩
theorem c5_five {X : World} {F : Nat} {r : Rl} (z : Z5 X F) : C5 (((((X.setCell ⟨F, 0, none⟩ (.string r.pat)).setCell ⟨F, 1, none⟩ (.int .i64 r.dir)).setCell ⟨F, 2, none⟩ (.int .i64 r.qos)).setCell ⟨F, 3, none⟩ (.string r.loc)).setCell ⟨F, 4, none⟩ (.string r.rem)) F r := by
  have n : ∀ (W : World) (i j : Nat) (v : Value), i ≠ j → (W.setCell ⟨F, i, none⟩ v).cell? ⟨F, j, none⟩ = W.cell? ⟨F, j, none⟩ := fun W i j v h => World.cell?_setCell_other W ⟨F, i, none⟩ ⟨F, j, none⟩ v (fun q => h (by injection q))
  have g : ∀ (W : World) (i : Nat) (v : Value), i < 5 → Z5 W F → (W.setCell ⟨F, i, none⟩ v).cell? ⟨F, i, none⟩ = some v := fun W i v hi hz => set_same (hz.2 i hi)
  have s : ∀ (W : World) (i : Nat) (v : Value), Z5 W F → Z5 (W.setCell ⟨F, i, none⟩ v) F := fun W i v hz => z5_set hz
  obtain ⟨X1, h1⟩ : ∃ Y, X.setCell ⟨F, 0, none⟩ (.string r.pat) = Y := ⟨_, rfl⟩
  have q1 : X1.cell? ⟨F, 0, none⟩ = some (.string r.pat) := by rw [← h1]; exact g _ 0 _ (by omega) z
  have z1 : Z5 X1 F := by rw [← h1]; exact s _ _ _ z
  rw [h1]
  clear h1 z
  obtain ⟨X2, h2⟩ : ∃ Y, X1.setCell ⟨F, 1, none⟩ (.int .i64 r.dir) = Y := ⟨_, rfl⟩
  have q2 : X2.cell? ⟨F, 1, none⟩ = some (.int .i64 r.dir) := by rw [← h2]; exact g _ 1 _ (by omega) z1
  have q2a : X2.cell? ⟨F, 0, none⟩ = some (.string r.pat) := by rw [← h2, n _ 1 0 _ (by omega)]; exact q1
  have z2 : Z5 X2 F := by rw [← h2]; exact s _ _ _ z1
  rw [h2]
  clear h2 z1 q1
  obtain ⟨X3, h3⟩ : ∃ Y, X2.setCell ⟨F, 2, none⟩ (.int .i64 r.qos) = Y := ⟨_, rfl⟩
  have q3 : X3.cell? ⟨F, 2, none⟩ = some (.int .i64 r.qos) := by rw [← h3]; exact g _ 2 _ (by omega) z2
  have q3a : X3.cell? ⟨F, 0, none⟩ = some (.string r.pat) := by rw [← h3, n _ 2 0 _ (by omega)]; exact q2a
  have q3b : X3.cell? ⟨F, 1, none⟩ = some (.int .i64 r.dir) := by rw [← h3, n _ 2 1 _ (by omega)]; exact q2
  have z3 : Z5 X3 F := by rw [← h3]; exact s _ _ _ z2
  rw [h3]
  clear h3 z2 q2 q2a
  obtain ⟨X4, h4⟩ : ∃ Y, X3.setCell ⟨F, 3, none⟩ (.string r.loc) = Y := ⟨_, rfl⟩
  have q4 : X4.cell? ⟨F, 3, none⟩ = some (.string r.loc) := by rw [← h4]; exact g _ 3 _ (by omega) z3
  have q4a : X4.cell? ⟨F, 0, none⟩ = some (.string r.pat) := by rw [← h4, n _ 3 0 _ (by omega)]; exact q3a
  have q4b : X4.cell? ⟨F, 1, none⟩ = some (.int .i64 r.dir) := by rw [← h4, n _ 3 1 _ (by omega)]; exact q3b
  have q4c : X4.cell? ⟨F, 2, none⟩ = some (.int .i64 r.qos) := by rw [← h4, n _ 3 2 _ (by omega)]; exact q3
  have z4 : Z5 X4 F := by rw [← h4]; exact s _ _ _ z3
  rw [h4]
  clear h4 z3 q3 q3a q3b
  refine ⟨?_, ?_, ?_, ?_, ?_⟩
  · rw [n _ 4 0 _ (by omega)]; exact q4a
  · rw [n _ 4 1 _ (by omega)]; exact q4b
  · rw [n _ 4 2 _ (by omega)]; exact q4c
  · rw [n _ 4 3 _ (by omega)]; exact q4
  · exact g _ 4 _ (by omega) z4
theorem lt_set {X : World} {n : Nat} {p : Addr} {v : Value} (h : n < X.heap.size) : n < (X.setCell p v).heap.size := by simp [World.setCell]; exact h
theorem lt_alloc {X : World} {n : Nat} {o : Obj} (h : n < X.heap.size + 1) : n < (X.alloc o).heap.size := by simp; omega
theorem lt_set1 {X : World} {n k : Nat} {p : Addr} {v : Value} (h : n < X.heap.size + k) : n < (X.setCell p v).heap.size + k := by simp [World.setCell]; exact h
theorem lt_alloc1 {X : World} {n k : Nat} {o : Obj} (h : n < X.heap.size + (k + 1)) : n < (X.alloc o).heap.size + k := by simp; omega
theorem eq_set {X : World} {n : Nat} {p : Addr} {v : Value} (h : n = X.heap.size) : n = (X.setCell p v).heap.size := by simp [World.setCell]; exact h
theorem eq_alloc {X : World} {n : Nat} {o : Obj} (h : n = X.heap.size) : n + 1 = (X.alloc o).heap.size := by simp; omega
theorem eq_drew {X : World} {n : Nat} (h : n = X.heap.size) : n = X.drew.heap.size := h
theorem ne_eta {p F : Nat} {i : Nat} (h : p ≠ F) : (⟨p, i, none⟩ : Addr).block ≠ F := h
theorem le_eta {p F : Nat} {i : Nat} (h : F ≤ p) : F ≤ (⟨p, i, none⟩ : Addr).block := h
end Go.Proofs.YtdjiioidkgppjaaDoor
