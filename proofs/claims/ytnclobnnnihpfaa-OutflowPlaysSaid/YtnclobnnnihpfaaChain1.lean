/- A region that draws its order and holds one chain of load, slice literal, append, store. Over whatever program. -/
import Derived.Test.YtnclobnnnihpfaaChains2
import Derived.Test.YtnclobnnnihpfaaFr
import Derived.Laws.Tables
namespace Go.Proofs.Ytnclobnnnihpfaa
set_option linter.unusedVariables false
open Go.RowKit

theorem grown_alloc_then {w w' : World} {o : Obj} {row : Option Nat} (h : (w.alloc o).grownBy w' row) : w.grownBy w' row :=
  ⟨h.os, h.tape, h.output, Nat.le_trans (by simp) h.size, fun k hk hne => (h.block k (by simp; omega) hne).trans (Below.heap_alloc w o k hk)⟩
theorem put_comm {a : Act} {d1 d2 : Nat} (h : d1 ≠ d2) (u v : Value) : (a.put (some d1) u).put (some d2) v = (a.put (some d2) v).put (some d1) u := by
  simp only [Act.put]
  rw [Array.setIfInBounds_comm _ _ h]
section
variable {P : Program} {ops : Array Oper} {Q : Exit → Act → World → Prop} {md : Region.Mode} {S : World → Prop}
def rd3 (md : Region.Mode) (ops : Array Oper) (L : Array Bool) (i0 i1 i2 : Nat) : Bool :=
  Region.ready md ops L == [i0, i1] && Region.ready md ops (L.setIfInBounds i0 true) == [i1] && Region.ready md ops (L.setIfInBounds i1 true) == [i0] && Region.ready md ops ((L.setIfInBounds i0 true).setIfInBounds i1 true) == [i2]
theorem wpAnyH_one {k i : Nat} {L : Array Bool} {a : Act} {w : World} (hr : Region.ready md ops L = [i]) (h : wpOp P ops Q i (fun a' w' => S w' ∧ wpAnyH P md ops Q S k (L.setIfInBounds i true) a' w') a w) : wpAnyH P md ops Q S (k + 1) L a w := by
  refine ⟨fun c => (by rw [hr] at c; cases c), fun j hj => ?_⟩
  rw [hr] at hj
  obtain rfl := List.mem_singleton.1 hj
  exact h
/-- The three operations: whichever of the first two comes first. -/
theorem load_make_append {D : List Nat} {a0 : Act} {w0 : World} {L : Array Bool} {k i0 i1 i2 d1 d2 d3 b f B sz n : Nat} {T e : TypeId} {v : Value} {xs : List Value} {new : Array Value}
    (hrd : rd3 md ops L i0 i1 i2 = true) (hne : i0 ≠ i1) (hd : d1 ≠ d2) (hs1 : d1 < a0.tmps.size) (hs2 : d2 < a0.tmps.size) (hD1 : d1 ∈ D) (hD2 : d2 ∈ D)
    (hload : ∃ o, ops[i0]? = some o ∧ o.guard = none ∧ o.dst = some d1 ∧ ∀ a w, Agr D a0 a → w.cell? ⟨b, f, none⟩ = some v → (execOp a.eval o).run P w = .ok (.value v) w)
    (hmake : ∃ o, ops[i1]? = some o ∧ o.guard = none ∧ o.dst = some d2 ∧ ∀ a w, Agr D a0 a → (execOp a.eval o).run P w = .ok (.value (.slice (some ⟨w.heap.size, 0, none⟩) 1 1)) (w.alloc (.cells new e)))
    (happ : ∃ o t i z by_, ops[i2]? = some o ∧ o.guard = none ∧ o.dst = some d3 ∧ o.op = .call { callee := .builtin .append, args := #[.tmp d1, .tmp d2], argTypes := #[t, t] } ∧ P.underlying t = some (.slice e) ∧ P.info? e = some i ∧ i.zero = some z ∧ i.size = sz ∧ i.bytes = by_ ∧ z.cells.size = sz ∧ (n + 1) * by_ ≤ 140737488355328)
    (hsz : 0 < sz) (hnew : new.size = sz) (h1 : ∀ u ∈ new.toList, u.oneCell' = true) (h63 : n + 1 ≤ maxLen) (hB : B ≤ w0.heap.size)
    (hc : w0.cell? ⟨b, f, none⟩ = some v) (hown : Sl B w0 e sz v n xs) (hS : ∀ w', w0.grownBy w' v.ownBlock → S w')
    (h : ∀ v' w', Sl B w' e sz v' (n + 1) (xs ++ new.toList) → w0.grownBy w' v.ownBlock → (v'.ownBlock = v.ownBlock ∨ v'.ownBlock = some (w0.heap.size + 1)) →
      wpAnyH P md ops Q S k (((L.setIfInBounds i0 true).setIfInBounds i1 true).setIfInBounds i2 true) (((a0.put (some d1) v).put (some d2) (.slice (some ⟨w0.heap.size, 0, none⟩) 1 1)).put (some d3) v') w') :
    wpAnyH P md ops Q S (k + 1 + 1 + 1) L a0 w0 := by
  obtain ⟨o0, q0, g0, e0, r0⟩ := hload
  obtain ⟨o1, q1, g1, e1, r1⟩ := hmake
  obtain ⟨o2, t, ti, z, by_, q2, g2, e2, hop, ht, hti, hz, hszi, hby, hzs, hbytes⟩ := happ
  simp only [rd3, Bool.and_eq_true, beq_iff_eq] at hrd
  obtain ⟨⟨⟨k0, k1⟩, k2⟩, k3⟩ := hrd
  have sl_def : ∃ s, s = Value.slice (some ⟨w0.heap.size, 0, none⟩) 1 1 := ⟨_, rfl⟩
  have ag1 : ∀ u, Agr D a0 (a0.put (some d1) u) := fun u => (Agr.refl D a0).put (fun t ht => by injection ht with ht; exact ht ▸ hD1) u
  have ag2 : ∀ u, Agr D a0 (a0.put (some d2) u) := fun u => (Agr.refl D a0).put (fun t ht => by injection ht with ht; exact ht ▸ hD2) u
  have gA : w0.grownBy (w0.alloc (.cells new e)) v.ownBlock := World.grownBy_alloc _ _ _
  have hcA : (w0.alloc (.cells new e)).cell? ⟨b, f, none⟩ = some v := (World.cell?_alloc_lt _ _ _ (World.block_lt_of_cell? w0 _ hc)).trans hc
  have last : wpAnyH P md ops Q S (k + 1) ((L.setIfInBounds i0 true).setIfInBounds i1 true) ((a0.put (some d1) v).put (some d2) (.slice (some ⟨w0.heap.size, 0, none⟩) 1 1)) (w0.alloc (.cells new e)) := by
    refine wpAnyH_one k3 (wpOp_of_wp q2 g2 ?_)
    have v1 : ((a0.put (some d1) v).put (some d2) (.slice (some ⟨w0.heap.size, 0, none⟩) 1 1)).eval (.tmp d1) = v := by
      rw [put_other (fun c => hd (by injection c with c; exact c.symm))]; exact put_same hs1 _
    have v2 : ((a0.put (some d1) v).put (some d2) (.slice (some ⟨w0.heap.size, 0, none⟩) 1 1)).eval (.tmp d2) = .slice (some ⟨w0.heap.size, 0, none⟩) 1 1 := put_same (by simpa [Act.put] using hs2) _
    obtain ⟨v', w', hrun, p1, p2, p3⟩ := run_append_sl (P := P) t o2.type ti z by_ ht hti hz hszi hby hzs hsz (hown.alloc (.cells new e)) ⟨w0.heap.size, 0, none⟩ 1 1 new.toList (by simpa using hnew) (World.news_of_block (Blk.new w0 new e)) h1 h63 hbytes (by simp; omega)
    have hg' := grown_alloc_then p2
    unfold Oper.wp execOp
    simp only [hop, resolve, invoke, builtin, Sem.run_bind, Sem.run_pure, Result.andThen_ok, List.map_toArray, List.map_cons, List.map_nil, v1, v2, hrun]
    change _ ∧ wpAnyH _ _ _ _ _ _ _ (Act.put _ o2.dst _) _
    rw [e2]
    refine ⟨hS _ hg', h v' w' p1 hg' ?_⟩
    rcases p3 with p3 | p3
    · exact .inl p3
    · exact .inr (by simpa using p3)
  refine ⟨fun c => (by rw [k0] at c; cases c), fun j hj => ?_⟩
  rw [k0] at hj
  rcases List.mem_cons.1 hj with rfl | hj
  · refine wpOp_val q0 g0 (r0 a0 w0 (Agr.refl _ _) hc) ⟨hS _ ⟨rfl, rfl, rfl, Nat.le_refl _, fun _ _ _ => rfl⟩, ?_⟩
    rw [e0]
    refine wpAnyH_one k1 (wpOp_val q1 g1 (r1 _ w0 (ag1 v)) ⟨hS _ gA, ?_⟩)
    rw [e1]
    exact last
  · obtain rfl := List.mem_singleton.1 hj
    refine wpOp_val q1 g1 (r1 a0 w0 (Agr.refl _ _)) ⟨hS _ gA, ?_⟩
    rw [e1]
    refine wpAnyH_one k2 (wpOp_val q0 g0 (r0 _ (w0.alloc (.cells new e)) (ag2 _) hcA) ⟨hS _ gA, ?_⟩)
    rw [e0, Array.setIfInBounds_comm _ _ (Ne.symm hne), put_comm (Ne.symm hd)]
    exact last
theorem y_nil {a : Act} {t : Nat} {ad : Addr} (o : Oper) (hg : o.guard = none) (hop : o.op = .nilCheck (.tmp t)) (ht : a.eval (.tmp t) = .pointer (some ad)) : YieldsIf P ops S o (.pointer (some ad)) a := by
  refine Or.inl ⟨by simp [Region.wanted, hg], fun w _ => ?_⟩
  unfold execOp
  simp [hop, ht]
theorem y_build {a : Act} {T : TypeId} {parts : Array (Nat × Operand)} {cells : Array Value} (o : Oper) (hg : o.guard = none) (hop : o.op = .build T parts) (hf : P.built T (parts.map fun (i, x) => (i, a.eval x)).toList = some cells) : YieldsIf P ops S o (.agg cells) a := by
  refine Or.inl ⟨by simp [Region.wanted, hg], fun w _ => ?_⟩
  unfold execOp
  simp only [hop, Sem.run_bind, run_build w T _ cells hf, Result.andThen_ok, Sem.run_pure]
theorem wpOp_of_wp2 {i : Nat} {o : Oper} {a : Act} {w : World} {K : Act → World → Prop} (ho : ops[i]? = some o) (hg : Region.wanted o (yielded ops a.tmps) = true) (h : o.wp P a w K Q) : wpOp P ops Q i K a w := by
  unfold wpOp
  simp only [ho]
  rw [if_pos hg]
  exact .inl h
theorem wpOp_val2 {i : Nat} {o : Oper} {a : Act} {w w' : World} {v : Value} {K : Act → World → Prop} (ho : ops[i]? = some o) (hg : Region.wanted o (yielded ops a.tmps) = true) (hr : (execOp a.eval o).run P w = .ok (.value v) w') (h : K (a.put o.dst v) w') : wpOp P ops Q i K a w :=
  wpOp_of_wp2 ho hg (by unfold Oper.wp; rw [hr]; exact h)
/-- The store at the end. -/
theorem wpAnyH_store {i t u b f : Nat} {T : TypeId} {ti : TypeInfo} {v v0 : Value} {L : Array Bool} {a : Act} {w : World} (o : Oper) (ho : ops[i]? = some o) (hg : o.guard = none) (hd : o.dst = none) (hop : o.op = .store T (.tmp t) (.tmp u)) (hi : P.info? T = some ti) (hs : ti.size = 1)
    (hr : Region.ready md ops L = [i]) (hr2 : Region.ready md ops (L.setIfInBounds i true) = []) (ht : a.eval (.tmp t) = .pointer (some ⟨b, f, none⟩)) (hu : a.eval (.tmp u) = v) (h1 : v.oneCell' = true) (hc : w.cell? ⟨b, f, none⟩ = some v0) (hf : w.frozen? ⟨b, f, none⟩ = false)
    (hS : S (w.setCell ⟨b, f, none⟩ v)) (h : Q .normal a (w.setCell ⟨b, f, none⟩ v)) : wpAnyH P md ops Q S 1 L a w := by
  refine wpAnyH_one hr (wpOp_skip ho hg (w' := w.setCell ⟨b, f, none⟩ v) ?_ ⟨hS, hr2, ?_⟩)
  · unfold execOp
    simp only [hop, ht, hu, Sem.run_bind, run_storeAt_one hi hs h1 hc hf, Result.andThen_ok, Sem.run_pure]
  · rw [hd]; exact h
end
end Go.Proofs.Ytnclobnnnihpfaa
