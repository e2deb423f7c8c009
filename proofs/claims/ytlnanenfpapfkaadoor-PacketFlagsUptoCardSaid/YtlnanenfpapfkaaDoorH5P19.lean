/- Parts of the proof, joined: Chain1, Gw6, Gw7. -/
import Derived.Test.YtlnanenfpapfkaaDoorH5P5
import Derived.Test.YtlnanenfpapfkaaDoorH5P16
import Derived.Laws.Tables
import Derived.Test.YtlnanenfpapfkaaDoorH5P18
/- A region that draws its order and holds one chain of load, slice literal, append, store. Over whatever program. -/
namespace Go.Proofs.YtlnanenfpapfkaaDoor
set_option linter.unusedVariables false
open Go.RowKit

theorem grown_alloc_then {w w' : World} {o : Obj} {row : Option Nat} (h : (w.alloc o).grownBy w' row) : w.grownBy w' row :=
  ⟨h.os, h.tape, h.output, Nat.le_trans (by simp) h.size, fun k hk hne => (h.block k (by simp; omega) hne).trans (Below.heap_alloc w o k hk)⟩
theorem put_comm {a : Act} {d1 d2 : Nat} (h : d1 ≠ d2) (u v : Value) : (a.put (some d1) u).put (some d2) v = (a.put (some d2) v).put (some d1) u := by
  simp only [Act.put]
  rw [Array.setIfInBounds_comm _ _ h]
section
variable {P : Program} {ops : Array Oper} {Q : Exit → Act → World → Prop} {md : Region.Mode} {S : World → Prop}
def rd3 (md : Region.Mode) (ops : Array Oper) (L : Array Bool) (i0 i1 i2 : Nat) : Bool :=
  Region.ready md ops L == [i0, i1] && Region.ready md ops (L.setIfInBounds i0 true) == [i1] && Region.ready md ops (L.setIfInBounds i1 true) == [i0] && Region.ready md ops ((L.setIfInBounds i0 true).setIfInBounds i1 true) == [i2]
theorem wpAnyH_one {k i : Nat} {L : Array Bool} {a : Act} {w : World} (hr : Region.ready md ops L = [i]) (h : wpOp P ops Q i (fun a' w' => S w' ∧ wpAnyH P md ops Q S k (L.setIfInBounds i true) a' w') a w) : wpAnyH P md ops Q S (k + 1) L a w := by
  refine ⟨fun c => (by rw [hr] at c; cases c), fun j hj => ?_⟩
  rw [hr] at hj
  obtain rfl := List.mem_singleton.1 hj
  exact h
/-- The three operations: whichever of the first two comes first. -/
theorem load_make_append {D : List Nat} {a0 : Act} {w0 : World} {L : Array Bool} {k i0 i1 i2 d1 d2 d3 b f B sz n : Nat} {T e : TypeId} {v : Value} {xs : List Value} {new : Array Value}
    (hrd : rd3 md ops L i0 i1 i2 = true) (hne : i0 ≠ i1) (hd : d1 ≠ d2) (hs1 : d1 < a0.tmps.size) (hs2 : d2 < a0.tmps.size) (hD1 : d1 ∈ D) (hD2 : d2 ∈ D)
    (hload : ∃ o, ops[i0]? = some o ∧ o.guard = none ∧ o.dst = some d1 ∧ ∀ a w, Agr D a0 a → w.cell? ⟨b, f, none⟩ = some v → (execOp a.eval o).run P w = .ok (.value v) w)
    (hmake : ∃ o, ops[i1]? = some o ∧ o.guard = none ∧ o.dst = some d2 ∧ ∀ a w, Agr D a0 a → (execOp a.eval o).run P w = .ok (.value (.slice (some ⟨w.heap.size, 0, none⟩) 1 1)) (w.alloc (.cells new e)))
    (happ : ∃ o t i z by_, ops[i2]? = some o ∧ o.guard = none ∧ o.dst = some d3 ∧ o.op = .call { callee := .builtin .append, args := #[.tmp d1, .tmp d2], argTypes := #[t, t] } ∧ P.underlying t = some (.slice e) ∧ P.info? e = some i ∧ i.zero = some z ∧ i.size = sz ∧ i.bytes = by_ ∧ z.cells.size = sz ∧ (n + 1) * by_ ≤ 140737488355328)
    (hsz : 0 < sz) (hnew : new.size = sz) (h1 : ∀ u ∈ new.toList, u.oneCell' = true) (h63 : n + 1 ≤ maxLen) (hB : B ≤ w0.heap.size)
    (hc : w0.cell? ⟨b, f, none⟩ = some v) (hown : Sl B w0 e sz v n xs) (hS : ∀ w', w0.grownBy w' v.ownBlock → S w')
    (h : ∀ v' w', Sl B w' e sz v' (n + 1) (xs ++ new.toList) → w0.grownBy w' v.ownBlock → (v'.ownBlock = v.ownBlock ∨ v'.ownBlock = some (w0.heap.size + 1)) →
      wpAnyH P md ops Q S k (((L.setIfInBounds i0 true).setIfInBounds i1 true).setIfInBounds i2 true) (((a0.put (some d1) v).put (some d2) (.slice (some ⟨w0.heap.size, 0, none⟩) 1 1)).put (some d3) v') w') :
    wpAnyH P md ops Q S (k + 1 + 1 + 1) L a0 w0 := by
  obtain ⟨o0, q0, g0, e0, r0⟩ := hload
  obtain ⟨o1, q1, g1, e1, r1⟩ := hmake
  obtain ⟨o2, t, ti, z, by_, q2, g2, e2, hop, ht, hti, hz, hszi, hby, hzs, hbytes⟩ := happ
  simp only [rd3, Bool.and_eq_true, beq_iff_eq] at hrd
  obtain ⟨⟨⟨k0, k1⟩, k2⟩, k3⟩ := hrd
  have sl_def : ∃ s, s = Value.slice (some ⟨w0.heap.size, 0, none⟩) 1 1 := ⟨_, rfl⟩
  have ag1 : ∀ u, Agr D a0 (a0.put (some d1) u) := fun u => (Agr.refl D a0).put (fun t ht => by injection ht with ht; exact ht ▸ hD1) u
  have ag2 : ∀ u, Agr D a0 (a0.put (some d2) u) := fun u => (Agr.refl D a0).put (fun t ht => by injection ht with ht; exact ht ▸ hD2) u
  have gA : w0.grownBy (w0.alloc (.cells new e)) v.ownBlock := World.grownBy_alloc _ _ _
  have hcA : (w0.alloc (.cells new e)).cell? ⟨b, f, none⟩ = some v := (World.cell?_alloc_lt _ _ _ (World.block_lt_of_cell? w0 _ hc)).trans hc
  have last : wpAnyH P md ops Q S (k + 1) ((L.setIfInBounds i0 true).setIfInBounds i1 true) ((a0.put (some d1) v).put (some d2) (.slice (some ⟨w0.heap.size, 0, none⟩) 1 1)) (w0.alloc (.cells new e)) := by
    refine wpAnyH_one k3 (wpOp_of_wp q2 g2 ?_)
    have v1 : ((a0.put (some d1) v).put (some d2) (.slice (some ⟨w0.heap.size, 0, none⟩) 1 1)).eval (.tmp d1) = v := by
      rw [put_other (fun c => hd (by injection c with c; exact c.symm))]; exact put_same hs1 _
    have v2 : ((a0.put (some d1) v).put (some d2) (.slice (some ⟨w0.heap.size, 0, none⟩) 1 1)).eval (.tmp d2) = .slice (some ⟨w0.heap.size, 0, none⟩) 1 1 := put_same (by simpa [Act.put] using hs2) _
    obtain ⟨v', w', hrun, p1, p2, p3⟩ := run_append_sl (P := P) t o2.type ti z by_ ht hti hz hszi hby hzs hsz (hown.alloc (.cells new e)) ⟨w0.heap.size, 0, none⟩ 1 1 new.toList (by simpa using hnew) (World.news_of_block (Blk.new w0 new e)) h1 h63 hbytes (by simp; omega)
    have hg' := grown_alloc_then p2
    unfold Oper.wp execOp
    simp only [hop, resolve, invoke, builtin, Sem.run_bind, Sem.run_pure, Result.andThen_ok, List.map_toArray, List.map_cons, List.map_nil, v1, v2, hrun]
    change _ ∧ wpAnyH _ _ _ _ _ _ _ (Act.put _ o2.dst _) _
    rw [e2]
    refine ⟨hS _ hg', h v' w' p1 hg' ?_⟩
    rcases p3 with p3 | p3
    · exact .inl p3
    · exact .inr (by simpa using p3)
  refine ⟨fun c => (by rw [k0] at c; cases c), fun j hj => ?_⟩
  rw [k0] at hj
  rcases List.mem_cons.1 hj with rfl | hj
  · refine wpOp_val q0 g0 (r0 a0 w0 (Agr.refl _ _) hc) ⟨hS _ ⟨rfl, rfl, rfl, Nat.le_refl _, fun _ _ _ => rfl⟩, ?_⟩
    rw [e0]
    refine wpAnyH_one k1 (wpOp_val q1 g1 (r1 _ w0 (ag1 v)) ⟨hS _ gA, ?_⟩)
    rw [e1]
    exact last
  · obtain rfl := List.mem_singleton.1 hj
    refine wpOp_val q1 g1 (r1 a0 w0 (Agr.refl _ _)) ⟨hS _ gA, ?_⟩
    rw [e1]
    refine wpAnyH_one k2 (wpOp_val q0 g0 (r0 _ (w0.alloc (.cells new e)) (ag2 _) hcA) ⟨hS _ gA, ?_⟩)
    rw [e0, Array.setIfInBounds_comm _ _ (Ne.symm hne), put_comm (Ne.symm hd)]
    exact last
theorem y_nil {a : Act} {t : Nat} {ad : Addr} (o : Oper) (hg : o.guard = none) (hop : o.op = .nilCheck (.tmp t)) (ht : a.eval (.tmp t) = .pointer (some ad)) : YieldsIf P ops S o (.pointer (some ad)) a := by
  refine Or.inl ⟨by simp [Region.wanted, hg], fun w _ => ?_⟩
  unfold execOp
  simp [hop, ht]
theorem y_build {a : Act} {T : TypeId} {parts : Array (Nat × Operand)} {cells : Array Value} (o : Oper) (hg : o.guard = none) (hop : o.op = .build T parts) (hf : P.built T (parts.map fun (i, x) => (i, a.eval x)).toList = some cells) : YieldsIf P ops S o (.agg cells) a := by
  refine Or.inl ⟨by simp [Region.wanted, hg], fun w _ => ?_⟩
  unfold execOp
  simp only [hop, Sem.run_bind, run_build w T _ cells hf, Result.andThen_ok, Sem.run_pure]
theorem wpOp_of_wp2 {i : Nat} {o : Oper} {a : Act} {w : World} {K : Act → World → Prop} (ho : ops[i]? = some o) (hg : Region.wanted o (yielded ops a.tmps) = true) (h : o.wp P a w K Q) : wpOp P ops Q i K a w := by
  unfold wpOp
  simp only [ho]
  rw [if_pos hg]
  exact .inl h
theorem wpOp_val2 {i : Nat} {o : Oper} {a : Act} {w w' : World} {v : Value} {K : Act → World → Prop} (ho : ops[i]? = some o) (hg : Region.wanted o (yielded ops a.tmps) = true) (hr : (execOp a.eval o).run P w = .ok (.value v) w') (h : K (a.put o.dst v) w') : wpOp P ops Q i K a w :=
  wpOp_of_wp2 ho hg (by unfold Oper.wp; rw [hr]; exact h)
/-- The store at the end. -/
theorem wpAnyH_store {i t u b f : Nat} {T : TypeId} {ti : TypeInfo} {v v0 : Value} {L : Array Bool} {a : Act} {w : World} (o : Oper) (ho : ops[i]? = some o) (hg : o.guard = none) (hd : o.dst = none) (hop : o.op = .store T (.tmp t) (.tmp u)) (hi : P.info? T = some ti) (hs : ti.size = 1)
    (hr : Region.ready md ops L = [i]) (hr2 : Region.ready md ops (L.setIfInBounds i true) = []) (ht : a.eval (.tmp t) = .pointer (some ⟨b, f, none⟩)) (hu : a.eval (.tmp u) = v) (h1 : v.oneCell' = true) (hc : w.cell? ⟨b, f, none⟩ = some v0) (hf : w.frozen? ⟨b, f, none⟩ = false)
    (hS : S (w.setCell ⟨b, f, none⟩ v)) (h : Q .normal a (w.setCell ⟨b, f, none⟩ v)) : wpAnyH P md ops Q S 1 L a w := by
  refine wpAnyH_one hr (wpOp_skip ho hg (w' := w.setCell ⟨b, f, none⟩ v) ?_ ⟨hS, hr2, ?_⟩)
  · unfold execOp
    simp only [hop, ht, hu, Sem.run_bind, run_storeAt_one hi hs h1 hc hf, Result.andThen_ok, Sem.run_pure]
  · rw [hd]; exact h
end
end Go.Proofs.YtlnanenfpapfkaaDoor

/- A packet's reader walked: 'p.f = append(p.f, r.read())': one region that draws its order. -/
set_option linter.unusedVariables false
set_option linter.unusedSimpArgs false
namespace Go.Proofs.YtlnanenfpapfkaaDoor
open Go.RowKit Pl Go.Shelf Go.PlainAid

section
variable {P : Program} {ops : Array Oper} {Q : Exit → Act → World → Prop} {md : Region.Mode}
def T0 : World → Prop := fun _ => True
theorem put_comm' {a : Act} {d1 d2 : Nat} (h : d1 ≠ d2) (u v : Value) : (a.put (some d1) u).put (some d2) v = (a.put (some d2) v).put (some d1) u := by
  simp only [Act.put]
  rw [Array.setIfInBounds_comm _ _ h]
theorem wt_one {k i : Nat} {L : Array Bool} {a : Act} {w : World} (hr : Region.ready md ops L = [i]) (h : wpOp P ops Q i (fun a' w' => wpAnyH P md ops Q T0 k (L.setIfInBounds i true) a' w') a w) : wpAnyH P md ops Q T0 (k + 1) L a w := by
  refine ⟨fun c => (by rw [hr] at c; cases c), fun j hj => ?_⟩
  rw [hr] at hj
  obtain rfl := List.mem_singleton.1 hj
  exact wpOp_mono (fun a' w' h' => ⟨trivial, h'⟩) h
theorem wt_two {k i j : Nat} {L : Array Bool} {a : Act} {w : World} (hr : Region.ready md ops L = [i, j]) (h1 : wpOp P ops Q i (fun a' w' => wpAnyH P md ops Q T0 k (L.setIfInBounds i true) a' w') a w)
    (h2 : wpOp P ops Q j (fun a' w' => wpAnyH P md ops Q T0 k (L.setIfInBounds j true) a' w') a w) : wpAnyH P md ops Q T0 (k + 1) L a w := by
  refine ⟨fun c => (by rw [hr] at c; cases c), fun l hl => ?_⟩
  rw [hr] at hl
  rcases List.mem_cons.1 hl with rfl | hl
  · exact wpOp_mono (fun a' w' h' => ⟨trivial, h'⟩) h1
  · obtain rfl := List.mem_singleton.1 hl
    exact wpOp_mono (fun a' w' h' => ⟨trivial, h'⟩) h2
/-- An operation yields v in every world that meets C, whatever else the frame holds. -/
def Yld (P : Program) (ops : Array Oper) (i d : Nat) (v : Value) (A : Act → Prop) (C : World → Prop) : Prop :=
  ∃ o, ops[i]? = some o ∧ o.guard = none ∧ o.dst = some d ∧ ∀ a w, A a → C w → (execOp a.eval o).run P w = .ok (.value v) w
theorem Yld.op {i d : Nat} {v : Value} {A : Act → Prop} {C : World → Prop} (h : Yld P ops i d v A C) {a : Act} {w : World} {K : Act → World → Prop} (hA : A a) (hC : C w) (hK : K (a.put (some d) v) w) : wpOp P ops Q i K a w := by
  obtain ⟨o, h1, h2, h3, h4⟩ := h
  refine wpOp_val h1 h2 (h4 a w hA hC) ?_
  rw [h3]; exact hK
/-- The slice literal: one element in a block of its own. -/
def Mks (P : Program) (ops : Array Oper) (i d : Nat) (new : Array Value) (e : TypeId) (A : Act → Prop) : Prop :=
  ∃ o, ops[i]? = some o ∧ o.guard = none ∧ o.dst = some d ∧ ∀ a w, A a → (execOp a.eval o).run P w = .ok (.value (.slice (some ⟨w.heap.size, 0, none⟩) 1 1)) (w.alloc (.cells new e))
theorem Mks.op {i d : Nat} {new : Array Value} {e : TypeId} {A : Act → Prop} (h : Mks P ops i d new e A) {a : Act} {w : World} {K : Act → World → Prop} (hA : A a) (hK : K (a.put (some d) (.slice (some ⟨w.heap.size, 0, none⟩) 1 1)) (w.alloc (.cells new e))) : wpOp P ops Q i K a w := by
  obtain ⟨o, h1, h2, h3, h4⟩ := h
  refine wpOp_val h1 h2 (h4 a w hA) ?_
  rw [h3]; exact hK
/-- The call leaves the region by a panic. -/
theorem push_stop {k i0 i1 d0 : Nat} {L : Array Bool} {a0 : Act} {w0 : World} {v : Value} {A : Act → Prop} {C : World → Prop} (hr : Region.ready md ops L = [i0, i1]) (hr0 : Region.ready md ops (L.setIfInBounds i0 true) = [i1])
    (hload : Yld P ops i0 d0 v A C) (hA : A a0) (hC : C w0) (hcall : ∀ K, wpOp P ops Q i1 K a0 w0) (hcall' : ∀ K, wpOp P ops Q i1 K (a0.put (some d0) v) w0) : wpAnyH P md ops Q T0 (k + 1 + 1) L a0 w0 :=
  wt_two hr (hload.op hA hC (wt_one hr0 (hcall' _))) (hcall _)
/-- A load, and a call and a slice literal: in whatever order the load comes. -/
theorem push_three {k i0 i1 i2 d0 d1 d2 : Nat} {L : Array Bool} {a0 : Act} {w0 : World} {v u : Value} {new : Array Value} {e : TypeId} {A : Act → Prop} {C : World → Prop} {RY : World → Prop}
    (hr : Region.ready md ops L = [i0, i1]) (hr0 : Region.ready md ops (L.setIfInBounds i0 true) = [i1]) (hr1 : Region.ready md ops (L.setIfInBounds i1 true) = [i0, i2])
    (hr01 : Region.ready md ops ((L.setIfInBounds i0 true).setIfInBounds i1 true) = [i2]) (hr12 : Region.ready md ops ((L.setIfInBounds i1 true).setIfInBounds i2 true) = [i0])
    (n01 : i0 ≠ i1) (n02 : i0 ≠ i2) (m01 : d0 ≠ d1) (m02 : d0 ≠ d2)
    (hload : Yld P ops i0 d0 v A C) (hA : A a0) (hA1 : ∀ a d w, A a → (d = d1 ∨ d = d2) → A (a.put (some d) w)) (hC : C w0) (hCY : ∀ Y, RY Y → C Y ∧ C (Y.alloc (.cells new e)))
    (hcall : ∀ K : Act → World → Prop, (∀ Y, RY Y → K (a0.put (some d1) u) Y) → wpOp P ops Q i1 K a0 w0)
    (hcall' : ∀ K : Act → World → Prop, (∀ Y, RY Y → K ((a0.put (some d0) v).put (some d1) u) Y) → wpOp P ops Q i1 K (a0.put (some d0) v) w0)
    (hmake : Mks P ops i2 d2 new e (fun a => a.eval (.tmp d1) = u)) (hu : (a0.put (some d1) u).eval (.tmp d1) = u) (hu' : ((a0.put (some d0) v).put (some d1) u).eval (.tmp d1) = u)
    (h : ∀ Y, RY Y → wpAnyH P md ops Q T0 k (((L.setIfInBounds i0 true).setIfInBounds i1 true).setIfInBounds i2 true) (((a0.put (some d0) v).put (some d1) u).put (some d2) (.slice (some ⟨Y.heap.size, 0, none⟩) 1 1)) (Y.alloc (.cells new e))) :
    wpAnyH P md ops Q T0 (k + 1 + 1 + 1) L a0 w0 := by
  refine wt_two hr (hload.op hA hC (wt_one hr0 (hcall' _ fun Y hY => wt_one hr01 (hmake.op hu' (h Y hY))))) (hcall _ fun Y hY => ?_)
  have hA1' := hA1 a0 d1 u hA (.inl rfl)
  refine wt_two hr1 (hload.op hA1' (hCY Y hY).1 ?_) (hmake.op hu (wt_one hr12 (hload.op (hA1 _ d2 _ hA1' (.inr rfl)) (hCY Y hY).2 ?_)))
  · rw [Array.setIfInBounds_comm _ _ (Ne.symm n01), put_comm' (Ne.symm m01)]
    exact wt_one hr01 (hmake.op hu' (h Y hY))
  · have e1 : ((L.setIfInBounds i1 true).setIfInBounds i2 true).setIfInBounds i0 true = ((L.setIfInBounds i0 true).setIfInBounds i1 true).setIfInBounds i2 true := by
      rw [Array.setIfInBounds_comm _ _ (Ne.symm n02), Array.setIfInBounds_comm _ _ (Ne.symm n01)]
    have e2 : ∀ z, ((a0.put (some d1) u).put (some d2) z).put (some d0) v = ((a0.put (some d0) v).put (some d1) u).put (some d2) z := fun z => by
      rw [put_comm' (Ne.symm m02), put_comm' (Ne.symm m01)]
    rw [e1, e2]
    exact h Y hY
/-- .. with a conversion behind the call. -/
theorem push_four {k i0 i1 ic i2 d0 d1 dc d2 : Nat} {L : Array Bool} {a0 : Act} {w0 : World} {v u uc : Value} {new : Array Value} {e : TypeId} {A : Act → Prop} {C : World → Prop} {RY : World → Prop}
    (hr : Region.ready md ops L = [i0, i1]) (hr0 : Region.ready md ops (L.setIfInBounds i0 true) = [i1]) (hr1 : Region.ready md ops (L.setIfInBounds i1 true) = [i0, ic])
    (hr01 : Region.ready md ops ((L.setIfInBounds i0 true).setIfInBounds i1 true) = [ic]) (hr1c : Region.ready md ops ((L.setIfInBounds i1 true).setIfInBounds ic true) = [i0, i2])
    (hr01c : Region.ready md ops (((L.setIfInBounds i0 true).setIfInBounds i1 true).setIfInBounds ic true) = [i2]) (hr1c2 : Region.ready md ops (((L.setIfInBounds i1 true).setIfInBounds ic true).setIfInBounds i2 true) = [i0])
    (n01 : i0 ≠ i1) (n0c : i0 ≠ ic) (n02 : i0 ≠ i2) (m01 : d0 ≠ d1) (m0c : d0 ≠ dc) (m02 : d0 ≠ d2) (m1c : d1 ≠ dc)
    (hload : Yld P ops i0 d0 v A C) (hA : A a0) (hA1 : ∀ a d w, A a → (d = d1 ∨ d = dc ∨ d = d2) → A (a.put (some d) w)) (hC : C w0) (hCY : ∀ Y, RY Y → C Y ∧ C (Y.alloc (.cells new e)))
    (hcall : ∀ K : Act → World → Prop, (∀ Y, RY Y → K (a0.put (some d1) u) Y) → wpOp P ops Q i1 K a0 w0)
    (hcall' : ∀ K : Act → World → Prop, (∀ Y, RY Y → K ((a0.put (some d0) v).put (some d1) u) Y) → wpOp P ops Q i1 K (a0.put (some d0) v) w0)
    (hconv : Yld P ops ic dc uc (fun a => a.eval (.tmp d1) = u) (fun _ => True)) (hmake : Mks P ops i2 d2 new e (fun a => a.eval (.tmp dc) = uc))
    (s1 : d1 < a0.tmps.size) (sc : dc < a0.tmps.size)
    (h : ∀ Y, RY Y → wpAnyH P md ops Q T0 k ((((L.setIfInBounds i0 true).setIfInBounds i1 true).setIfInBounds ic true).setIfInBounds i2 true) ((((a0.put (some d0) v).put (some d1) u).put (some dc) uc).put (some d2) (.slice (some ⟨Y.heap.size, 0, none⟩) 1 1)) (Y.alloc (.cells new e))) :
    wpAnyH P md ops Q T0 (k + 1 + 1 + 1 + 1) L a0 w0 := by
  have z1 : ∀ (a : Act) d x, (a.put d x).tmps.size = a.tmps.size := fun a d x => by cases d <;> simp [Act.put]
  have hu : (a0.put (some d1) u).eval (.tmp d1) = u := put_same s1 _
  have hu' : ((a0.put (some d0) v).put (some d1) u).eval (.tmp d1) = u := put_same (by rw [z1]; exact s1) _
  have hc' : (((a0.put (some d0) v).put (some d1) u).put (some dc) uc).eval (.tmp dc) = uc := put_same (by rw [z1, z1]; exact sc) _
  have hcc : ((a0.put (some d1) u).put (some dc) uc).eval (.tmp dc) = uc := put_same (by rw [z1]; exact sc) _
  have rest : ∀ Y, RY Y → wpAnyH P md ops Q T0 (k + 1 + 1) ((L.setIfInBounds i0 true).setIfInBounds i1 true) ((a0.put (some d0) v).put (some d1) u) Y := fun Y hY =>
    wt_one hr01 (hconv.op hu' trivial (wt_one hr01c (hmake.op hc' (h Y hY))))
  refine wt_two hr (hload.op hA hC (wt_one hr0 (hcall' _ fun Y hY => rest Y hY))) (hcall _ fun Y hY => ?_)
  have hA1' := hA1 a0 d1 u hA (.inl rfl)
  have hA2' := hA1 _ dc uc hA1' (.inr (.inl rfl))
  refine wt_two hr1 (hload.op hA1' (hCY Y hY).1 ?_) (hconv.op hu trivial (wt_two hr1c (hload.op hA2' (hCY Y hY).1 ?_) (hmake.op hcc (wt_one hr1c2 (hload.op (hA1 _ d2 _ hA2' (.inr (.inr rfl))) (hCY Y hY).2 ?_)))))
  · rw [Array.setIfInBounds_comm _ _ (Ne.symm n01), put_comm' (Ne.symm m01)]
    exact rest Y hY
  · have e1 : ((L.setIfInBounds i1 true).setIfInBounds ic true).setIfInBounds i0 true = ((L.setIfInBounds i0 true).setIfInBounds i1 true).setIfInBounds ic true := by
      rw [Array.setIfInBounds_comm _ _ (Ne.symm n0c), Array.setIfInBounds_comm _ _ (Ne.symm n01)]
    rw [e1, put_comm' (Ne.symm m0c), put_comm' (Ne.symm m01)]
    exact wt_one hr01c (hmake.op hc' (h Y hY))
  · have e1 : (((L.setIfInBounds i1 true).setIfInBounds ic true).setIfInBounds i2 true).setIfInBounds i0 true = (((L.setIfInBounds i0 true).setIfInBounds i1 true).setIfInBounds ic true).setIfInBounds i2 true := by
      rw [Array.setIfInBounds_comm _ _ (Ne.symm n02), Array.setIfInBounds_comm _ _ (Ne.symm n0c), Array.setIfInBounds_comm _ _ (Ne.symm n01)]
    have e2 : ∀ z, (((a0.put (some d1) u).put (some dc) uc).put (some d2) z).put (some d0) v = (((a0.put (some d0) v).put (some d1) u).put (some dc) uc).put (some d2) z := fun z => by
      rw [put_comm' (Ne.symm m02), put_comm' (Ne.symm m0c), put_comm' (Ne.symm m01)]
    rw [e1, e2]
    exact h Y hY
/-- The append. -/
theorem push_app {k i3 d0 d2 d3 B size n bytes : Nat} {L : Array Bool} {a : Act} {w : World} {v : Value} {xs : List Value} {cs : Array Value} {g : Nat} {e T : TypeId} {i : TypeInfo} {z : Value} (o3 : Oper)
    (h3 : ops[i3]? = some o3) (g3 : o3.guard = none) (t3 : o3.dst = some d3) (p3 : o3.op = .call { callee := .builtin .append, args := #[.tmp d0, .tmp d2], argTypes := #[T, T] })
    (hr : Region.ready md ops L = [i3]) (hT : P.underlying T = some (.slice e)) (hi : P.info? e = some i) (hz : i.zero = some z) (hsize : i.size = size) (hby : i.bytes = bytes) (hzs : z.cells.size = size) (hsz : 0 < size)
    (hcl : cs.size = size) (h1 : ∀ x ∈ cs.toList, x.oneCell' = true) (hn : n ≤ 1048576) (hbytes : (n + 1) * bytes ≤ 140737488355328)
    (e0 : a.eval (.tmp d0) = v) (e2 : a.eval (.tmp d2) = .slice (some ⟨g, 0, none⟩) 1 1)
    (hown : Sl B w e size v n xs) (hb : Blk w g cs e) (hB : B ≤ w.heap.size)
    (h : ∀ v' w', Sl B w' e size v' (n + 1) (xs ++ cs.toList) → w.grownBy w' v.ownBlock → (v'.ownBlock = v.ownBlock ∨ v'.ownBlock = some w.heap.size) → wpAnyH P md ops Q T0 k (L.setIfInBounds i3 true) (a.put (some d3) v') w') :
    wpAnyH P md ops Q T0 (k + 1) L a w := by
  refine wt_one hr (wpOp_of_wp h3 g3 ?_)
  obtain ⟨v', w', hrun, r1, r2, r3⟩ := run_append_sl (P := P) T o3.type i z bytes hT hi hz hsize hby hzs hsz hown ⟨g, 0, none⟩ 1 1 cs.toList (by simpa using hcl) (World.news_of_block hb) h1 (by unfold maxLen; omega) hbytes hB
  unfold Oper.wp
  simp only [execOp, p3, resolve, invoke, builtin, Sem.run_bind, Sem.run_pure, Result.andThen_ok, List.map_toArray, List.map_cons, List.map_nil, e0, e2, hrun]
  change wpAnyH _ _ _ _ _ _ _ (Act.put _ o3.dst _) _
  rw [t3]
  exact h v' w' r1 r2 r3
theorem yld_load {i d t b f : Nat} {T e : TypeId} {v : Value} (o : Oper) (ho : ops[i]? = some o) (hg : o.guard = none) (hd : o.dst = some d) (hop : o.op = .load T (.tmp t)) (hu : P.underlying T = some (.slice e)) :
    Yld P ops i d v (fun a => a.eval (.tmp t) = .pointer (some ⟨b, f, none⟩)) (fun w => w.cell? ⟨b, f, none⟩ = some v) := by
  refine ⟨o, ho, hg, hd, fun a w hA hC => ?_⟩
  unfold execOp
  simp only [hop, hA, Sem.run_bind, run_loadAt_slice hu hC, Result.andThen_ok, Sem.run_pure]
theorem mks_of {i d t : Nat} {T e : TypeId} {ti : TypeInfo} {z v : Value} {new : Array Value} (o : Oper) (ho : ops[i]? = some o) (hg : o.guard = none) (hd : o.dst = some d) (hop : o.op = .buildSlice T 1 #[(0, .tmp t)])
    (hu : P.underlying T = some (.slice e)) (hi : P.info? e = some ti) (hz : ti.zero = some z) {sz : Nat} (hs : ti.size = sz) (h1 : ¬ 1 * sz > 2 ^ 24) (hn : ¬ 1 * sz = 0) (hf : Instr.fill (fun k => some (k * sz, sz)) ((Array.range (1 * sz)).map (z.cells[· % z.cells.size]!)) [(0, v)] = some new) :
    Mks P ops i d new e (fun a => a.eval (.tmp t) = v) := by
  subst hs
  refine ⟨o, ho, hg, hd, fun a w h => ?_⟩
  unfold execOp
  simp only [hop, List.map_toArray, List.map_cons, List.map_nil, h, Sem.run_bind, run_buildSlice w T e 1 #[(0, v)] new ti z hu hi hz h1 hn hf, Result.andThen_ok, Sem.run_pure]
end
end Go.Proofs.YtlnanenfpapfkaaDoor

/- A packet's reader walked: lists. -/
set_option linter.unusedVariables false
set_option linter.unusedSimpArgs false
namespace Go.Proofs.YtlnanenfpapfkaaDoor
open Go.RowKit Pl Go.Shelf Go.PlainAid

theorem info_parts' {α β γ : Type} {P : Program} {t : TypeId} {f : TypeInfo → α × β × γ} {x : α} {y : β} {z : γ} (h : (P.info? t).map f = some (x, y, z)) : ∃ i, P.info? t = some i ∧ (f i).1 = x ∧ (f i).2.1 = y ∧ (f i).2.2 = z := by
  cases hq : P.info? t with
  | none => rw [hq] at h; cases h
  | some i => rw [hq] at h; injection h with h; exact ⟨i, rfl, by rw [h], by rw [h], by rw [h]⟩
theorem info_sub : (Tryd.prog.info? 63).map (fun i => (i.zero, i.size, i.bytes)) = some (some (.agg (sbA zSb)), 5, 40) := by kernel_rfl
theorem info_str5 : (Tryd.prog.info? 9).map (fun i => (i.zero, i.size, i.bytes)) = some (some (.string ⟨#[]⟩), 1, 16) := by kernel_rfl
theorem info_code5 : (Tryd.prog.info? 31).map (fun i => (i.zero, i.size, i.bytes)) = some (some (.int .u8 0), 1, 1) := by kernel_rfl
theorem info_subs1 : (Tryd.prog.info? 36).map (fun i => (i.zero, i.size, i.bytes)) = some (some (.slice none 0 0), 1, 24) := by kernel_rfl
theorem info_strs1 : (Tryd.prog.info? 27).map (fun i => (i.zero, i.size, i.bytes)) = some (some (.slice none 0 0), 1, 24) := by kernel_rfl
theorem info_codes1 : (Tryd.prog.info? 32).map (fun i => (i.zero, i.size, i.bytes)) = some (some (.slice none 0 0), 1, 24) := by kernel_rfl
theorem grown_ne {w w9 : World} {P R : Nat} {e T : TypeId} {B size n : Nat} {v : Value} {xs : List Value} {cs : Array Value} (hs : Sl B w e size v n xs) (hb : Blk w R cs T) (hT : T ≠ e) (hg : w.grownBy w9 v.ownBlock) : Blk w9 R cs T :=
  (hg.block R hb.lt (hs.ne hb hT).symm).trans hb
/-- A list has grown: what else stands. -/
theorem St.grown {w : World} {R P : Nat} {s : ByteArray} {b : Int} {q : Pk} {m : Hs} {Y w9 : World} {e : TypeId} {size n : Nat} {v : Value} {xs : List Value} (h : St w R P s b q m Y) (hw : Tabs w) (hs : Sl w.heap.size Y e size v n xs)
    (h1 : 94 ≠ e) (h2 : 38 ≠ e) (hg : Y.grownBy w9 v.ownBlock) :
    Blk w9 R (rdrA s b) 94 ∧ Blk w9 P (pkA .u8 q m) 38 ∧ (∀ (e' : TypeId) (size' : Nat) v' n' xs', e' ≠ e → Sl w.heap.size Y e' size' v' n' xs' → Sl w.heap.size w9 e' size' v' n' xs') ∧ Mod (fun k => k = R ∨ k = P) w w9 ∧ Tabs w9 :=
  ⟨grown_ne (P := P) hs h.rB h1 hg, grown_ne (P := P) hs h.pB h2 hg, fun e' size' v' n' xs' he hs' => hs'.grown hg (fun k hk => hs'.ne2 hs he k hk), h.md.grown hg (fun k hk => .inr (hs.lt k hk).1),
    tabs_keep (S := fun k => v.ownBlock = some k) h.tb ⟨hg.os, hg.tape, hg.output, hg.size, fun k hk hn => hg.block k hk (fun c => hn c.symm)⟩ (fun k hk => NoTab.new hw (hs.lt k hk).1)⟩

theorem St.push_subs {w : World} {R P : Nat} {s : ByteArray} {b : Int} {q : Pk} {m : Hs} {Y w9 : World} {v' : Value} {x : Sb} (h : St w R P s b q m Y) (hw : Tabs w) (hs9 : Sl w.heap.size w9 63 5 v' (q.subs.length + 1) ((sbF q.subs) ++ (sbA x : Array Value).toList)) (hg : Y.grownBy w9 m.s.v.ownBlock) :
    ∃ m', St w R P s b { q with subs := q.subs ++ [x] } m' (w9.setCell ⟨P, 24, none⟩ v') := by
  obtain ⟨g1, g2, g3, g4, g5⟩ := h.grown hw h.o.ss (by decide) (by decide) hg
  obtain ⟨ao, cap, rfl, -⟩ := hs9.form
  have r : Sl w.heap.size (w9.setCell ⟨P, 24, none⟩ (.slice ao (q.subs.length + 1) cap)) 63 5 (.slice ao (q.subs ++ [x]).length cap) (q.subs ++ [x]).length (sbF (q.subs ++ [x])) := by
    have := hs9.set (R := P) 24 (.slice ao (q.subs.length + 1) cap) (hs9.ne g2 (by decide))
    rw [show (q.subs ++ [x]).length = q.subs.length + 1 from by simp, show sbF (q.subs ++ [x]) = (sbF q.subs) ++ (sbA x : Array Value).toList from by simp [sbF]]
    exact this
  refine ⟨{ m with s := ⟨ao, (q.subs ++ [x]).length, cap⟩ }, g1.other h.ne 24 _, ?_, ⟨(g3 _ _ _ _ _ (by decide) h.o.ps).set 24 _ ((g3 _ _ _ _ _ (by decide) h.o.ps).ne g2 (by decide)), (g3 _ _ _ _ _ (by decide) h.o.wps).set 24 _ ((g3 _ _ _ _ _ (by decide) h.o.wps).ne g2 (by decide)), (g3 _ _ _ _ _ (by decide) h.o.cs).set 24 _ ((g3 _ _ _ _ _ (by decide) h.o.cs).ne g2 (by decide)), r, (g3 _ _ _ _ _ (by decide) h.o.fs).set 24 _ ((g3 _ _ _ _ _ (by decide) h.o.fs).ne g2 (by decide))⟩, g4.setCell (.inl (.inr rfl)) _, tabs_set g5 h.nP _, h.lR, h.lP, h.ne, h.nR, h.nP, h.a0, h.a1, h.sz⟩
  have := g2.set 24 (.slice ao (q.subs.length + 1) cap)
  rw [show (q.subs ++ [x]).length = q.subs.length + 1 from by simp]
  exact this
theorem St.push_filters {w : World} {R P : Nat} {s : ByteArray} {b : Int} {q : Pk} {m : Hs} {Y w9 : World} {v' : Value} {x : ByteArray} (h : St w R P s b q m Y) (hw : Tabs w) (hs9 : Sl w.heap.size w9 9 1 v' (q.filters.length + 1) ((q.filters.map Value.string) ++ (#[.string x] : Array Value).toList)) (hg : Y.grownBy w9 m.f.v.ownBlock) :
    ∃ m', St w R P s b { q with filters := q.filters ++ [x] } m' (w9.setCell ⟨P, 25, none⟩ v') := by
  obtain ⟨g1, g2, g3, g4, g5⟩ := h.grown hw h.o.fs (by decide) (by decide) hg
  obtain ⟨ao, cap, rfl, -⟩ := hs9.form
  have r : Sl w.heap.size (w9.setCell ⟨P, 25, none⟩ (.slice ao (q.filters.length + 1) cap)) 9 1 (.slice ao (q.filters ++ [x]).length cap) (q.filters ++ [x]).length ((q.filters ++ [x]).map Value.string) := by
    have := hs9.set (R := P) 25 (.slice ao (q.filters.length + 1) cap) (hs9.ne g2 (by decide))
    rw [show (q.filters ++ [x]).length = q.filters.length + 1 from by simp, show (q.filters ++ [x]).map Value.string = (q.filters.map Value.string) ++ (#[.string x] : Array Value).toList from by simp]
    exact this
  refine ⟨{ m with f := ⟨ao, (q.filters ++ [x]).length, cap⟩ }, g1.other h.ne 25 _, ?_, ⟨(g3 _ _ _ _ _ (by decide) h.o.ps).set 25 _ ((g3 _ _ _ _ _ (by decide) h.o.ps).ne g2 (by decide)), (g3 _ _ _ _ _ (by decide) h.o.wps).set 25 _ ((g3 _ _ _ _ _ (by decide) h.o.wps).ne g2 (by decide)), (g3 _ _ _ _ _ (by decide) h.o.cs).set 25 _ ((g3 _ _ _ _ _ (by decide) h.o.cs).ne g2 (by decide)), (g3 _ _ _ _ _ (by decide) h.o.ss).set 25 _ ((g3 _ _ _ _ _ (by decide) h.o.ss).ne g2 (by decide)), r⟩, g4.setCell (.inl (.inr rfl)) _, tabs_set g5 h.nP _, h.lR, h.lP, h.ne, h.nR, h.nP, h.a0, h.a1, h.sz⟩
  have := g2.set 25 (.slice ao (q.filters.length + 1) cap)
  rw [show (q.filters ++ [x]).length = q.filters.length + 1 from by simp]
  exact this
theorem St.push_codes {w : World} {R P : Nat} {s : ByteArray} {b : Int} {q : Pk} {m : Hs} {Y w9 : World} {v' : Value} {x : Int} (h : St w R P s b q m Y) (hw : Tabs w) (hs9 : Sl w.heap.size w9 31 1 v' (q.codes.length + 1) ((q.codes.map (Value.int .u8)) ++ (#[.int .u8 x] : Array Value).toList)) (hg : Y.grownBy w9 m.c.v.ownBlock) :
    ∃ m', St w R P s b { q with codes := q.codes ++ [x] } m' (w9.setCell ⟨P, 8, none⟩ v') := by
  obtain ⟨g1, g2, g3, g4, g5⟩ := h.grown hw h.o.cs (by decide) (by decide) hg
  obtain ⟨ao, cap, rfl, -⟩ := hs9.form
  have r : Sl w.heap.size (w9.setCell ⟨P, 8, none⟩ (.slice ao (q.codes.length + 1) cap)) 31 1 (.slice ao (q.codes ++ [x]).length cap) (q.codes ++ [x]).length ((q.codes ++ [x]).map (Value.int .u8)) := by
    have := hs9.set (R := P) 8 (.slice ao (q.codes.length + 1) cap) (hs9.ne g2 (by decide))
    rw [show (q.codes ++ [x]).length = q.codes.length + 1 from by simp, show (q.codes ++ [x]).map (Value.int .u8) = (q.codes.map (Value.int .u8)) ++ (#[.int .u8 x] : Array Value).toList from by simp]
    exact this
  refine ⟨{ m with c := ⟨ao, (q.codes ++ [x]).length, cap⟩ }, g1.other h.ne 8 _, ?_, ⟨(g3 _ _ _ _ _ (by decide) h.o.ps).set 8 _ ((g3 _ _ _ _ _ (by decide) h.o.ps).ne g2 (by decide)), (g3 _ _ _ _ _ (by decide) h.o.wps).set 8 _ ((g3 _ _ _ _ _ (by decide) h.o.wps).ne g2 (by decide)), r, (g3 _ _ _ _ _ (by decide) h.o.ss).set 8 _ ((g3 _ _ _ _ _ (by decide) h.o.ss).ne g2 (by decide)), (g3 _ _ _ _ _ (by decide) h.o.fs).set 8 _ ((g3 _ _ _ _ _ (by decide) h.o.fs).ne g2 (by decide))⟩, g4.setCell (.inl (.inr rfl)) _, tabs_set g5 h.nP _, h.lR, h.lP, h.ne, h.nR, h.nP, h.a0, h.a1, h.sz⟩
  have := g2.set 8 (.slice ao (q.codes.length + 1) cap)
  rw [show (q.codes ++ [x]).length = q.codes.length + 1 from by simp]
  exact this
end Go.Proofs.YtlnanenfpapfkaaDoor
