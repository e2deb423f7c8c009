/- Parts of the proof, joined: Chains2, Chain1, Gw6, Gw7, Gw8. -/
import Derived.Test.YtedapgeabpadaaaDoorJ6P6
import Derived.Great.BuildSlice
import Derived.Test.YtedapgeabpadaaaDoorJ6P5
import Derived.Laws.Tables
namespace Go.Proofs.YtedapgeabpadaaaDoor
set_option linter.unusedVariables false
open Go.RowKit

theorem cells_one {v : Value} (h : v.oneCell' = true) : v.cells = #[v] := by cases v <;> first | rfl | cases h
theorem run_storeAt_one {P : Program} {w : World} {ty : TypeId} {i : TypeInfo} {a : Addr} {v u : Value} (hi : P.info? ty = some i) (hs : i.size = 1) (hv : v.oneCell' = true) (hc : w.cell? a = some u) (hf : w.frozen? a = false) :
    (Instr.storeAt ty (.pointer (some a)) v).run P w = .ok () (w.setCell a v) := by
  have ha : a.add 0 = a := by simp [Addr.add]
  simp [Instr.storeAt, Instr.sureAddr, storeVar, sizeOf, typeInfo, hi, hs, cells_one hv, storeCells, ha, run_store _ _ _ _ _ hv, hc, hf]
theorem run_loadAt_slice {P : Program} {w : World} {ty e : TypeId} {a : Addr} {v : Value} (hu : P.underlying ty = some (.slice e)) (hc : w.cell? a = some v) :
    (Instr.loadAt ty (.pointer (some a))).run P w = .ok v w := by
  simp [Instr.loadAt, Instr.sureAddr, loadVar, isAgg, underlying, hu, run_load, hc]
theorem run_loadAt_row {P : Program} (w : World) (g : Nat) (t ty : TypeId) (cs : Array Value) (fr : Nat × Nat) (d : TypeDesc) (hg : w.heap[g]? = some (.cells cs t fr))
    (hu : P.underlying ty = some d) (hd : (match d with | .struct _ | .array _ _ => true | _ => false) = true) (hi : (P.info? ty).map (·.size) = some cs.size) :
    (Instr.loadAt ty (.pointer (some ⟨g, 0, none⟩))).run P w = .ok (.agg cs) w := by
  simp [Instr.loadAt, Instr.sureAddr, run_loadVar_row w g t ty cs fr d hg hu hd hi]
section
variable {P : Program} {ops : Array Oper} {D : List Nat} {a0 : Act}
theorem range_one : Array.range (1 * 1) = #[0] := by rfl
theorem fill_one {z v : Value} (h : v.oneCell' = true) : Instr.fill (fun k => some (k * 1, 1)) ((Array.range (1 * 1)).map (z.cells[· % z.cells.size]!)) [(0, v)] = some #[v] := by
  have hc : v.cells = #[v] := by cases v <;> first | rfl | cases h
  rw [range_one]
  simp [Instr.fill, hc]
theorem fill_five {z v a b c d e : Value} (h : v.cells = #[a, b, c, d, e]) : Instr.fill (fun k => some (k * 5, 5)) ((Array.range (1 * 5)).map (z.cells[· % z.cells.size]!)) [(0, v)] = some #[a, b, c, d, e] := by
  have hr : Array.range (1 * 5) = #[0, 1, 2, 3, 4] := by rfl
  rw [hr]
  simp [Instr.fill, h]
theorem y_move {S : World → Prop} {a : Act} {t : Nat} {v : Value} (o : Oper) (hg : o.guard = none) (hop : o.op = .move (.tmp t)) (ht : a.eval (.tmp t) = v) : YieldsIf P ops S o v a := by
  refine Or.inl ⟨by simp [Region.wanted, hg], fun w _ => ?_⟩
  unfold execOp
  simp only [hop, ht, Sem.run_pure]
theorem y_load {S : World → Prop} {a : Act} {t b : Nat} {T : TypeId} {cs : Array Value} (o : Oper) (hg : o.guard = none) (hop : o.op = .load T (.tmp t)) (ht : a.eval (.tmp t) = .pointer (some ⟨b, 0, none⟩)) (h : ∀ w, S w → (Instr.loadAt T (.pointer (some ⟨b, 0, none⟩))).run P w = .ok (.agg cs) w) : YieldsIf P ops S o (.agg cs) a := by
  refine Or.inl ⟨by simp [Region.wanted, hg], fun w hw => ?_⟩
  unfold execOp
  simp only [hop, ht, Sem.run_bind, h w hw, Result.andThen_ok, Sem.run_pure]
theorem wpAnyH_takeD {Q : Exit → Act → World → Prop} {md : Region.Mode} {S : World → Prop} {i d : Nat} {oi : Oper} {v : Value} {fuel : Nat} {listed : Array Bool} {a : Act} {w : World} (hi : ops[i]? = some oi) (hd : oi.dst = some d)
    (hs : Region.noSelect ops = true) (hf : Region.free md ops listed i = true) (hr : (Region.ready md ops listed).contains i = true)
    (hQ : ∀ c a w, Q (.panic c) (a.put (some d) v) w → Q (.panic c) a w) (hy : YieldsIf P ops S oi v a) (hS : S w)
    (h : wpAnyH P md ops Q S fuel (listed.setIfInBounds i true) (a.put (some d) v) w) : wpAnyH P md ops Q S (fuel + 1) listed a w :=
  wpAnyH_take hi hs hf hr (by rw [hd]; exact hQ) hy hS (by rw [hd]; exact h)
end
end Go.Proofs.YtedapgeabpadaaaDoor

namespace Go.Proofs.YtedapgeabpadaaaDoor
set_option linter.unusedVariables false
open Go.RowKit

section
variable {P : Program} {ops : Array Oper} {Q : Exit → Act → World → Prop} {md : Region.Mode} {S : World → Prop}
theorem wpAnyH_one {k i : Nat} {L : Array Bool} {a : Act} {w : World} (hr : Region.ready md ops L = [i]) (h : wpOp P ops Q i (fun a' w' => S w' ∧ wpAnyH P md ops Q S k (L.setIfInBounds i true) a' w') a w) : wpAnyH P md ops Q S (k + 1) L a w := by
  refine ⟨fun c => (by rw [hr] at c; cases c), fun j hj => ?_⟩
  rw [hr] at hj
  obtain rfl := List.mem_singleton.1 hj
  exact h
/-- The store at the end. -/
theorem wpAnyH_store {i t u b f : Nat} {T : TypeId} {ti : TypeInfo} {v v0 : Value} {L : Array Bool} {a : Act} {w : World} (o : Oper) (ho : ops[i]? = some o) (hg : o.guard = none) (hd : o.dst = none) (hop : o.op = .store T (.tmp t) (.tmp u)) (hi : P.info? T = some ti) (hs : ti.size = 1)
    (hr : Region.ready md ops L = [i]) (hr2 : Region.ready md ops (L.setIfInBounds i true) = []) (ht : a.eval (.tmp t) = .pointer (some ⟨b, f, none⟩)) (hu : a.eval (.tmp u) = v) (h1 : v.oneCell' = true) (hc : w.cell? ⟨b, f, none⟩ = some v0) (hf : w.frozen? ⟨b, f, none⟩ = false)
    (hS : S (w.setCell ⟨b, f, none⟩ v)) (h : Q .normal a (w.setCell ⟨b, f, none⟩ v)) : wpAnyH P md ops Q S 1 L a w := by
  refine wpAnyH_one hr (wpOp_skip ho hg (w' := w.setCell ⟨b, f, none⟩ v) ?_ ⟨hS, hr2, ?_⟩)
  · unfold execOp
    simp only [hop, ht, hu, Sem.run_bind, run_storeAt_one hi hs h1 hc hf, Result.andThen_ok, Sem.run_pure]
  · rw [hd]; exact h
end
end Go.Proofs.YtedapgeabpadaaaDoor

set_option linter.unusedVariables false
set_option linter.unusedSimpArgs false
namespace Go.Proofs.YtedapgeabpadaaaDoor
open Go.RowKit Pl Go.Shelf Go.PlainAid

section
variable {P : Program} {ops : Array Oper} {Q : Exit → Act → World → Prop} {md : Region.Mode}
def T0 : World → Prop := fun _ => True
theorem put_comm' {a : Act} {d1 d2 : Nat} (h : d1 ≠ d2) (u v : Value) : (a.put (some d1) u).put (some d2) v = (a.put (some d2) v).put (some d1) u := by
  simp only [Act.put]
  rw [Array.setIfInBounds_comm _ _ h]
theorem wt_one {k i : Nat} {L : Array Bool} {a : Act} {w : World} (hr : Region.ready md ops L = [i]) (h : wpOp P ops Q i (fun a' w' => wpAnyH P md ops Q T0 k (L.setIfInBounds i true) a' w') a w) : wpAnyH P md ops Q T0 (k + 1) L a w := by
  refine ⟨fun c => (by rw [hr] at c; cases c), fun j hj => ?_⟩
  rw [hr] at hj
  obtain rfl := List.mem_singleton.1 hj
  exact wpOp_mono (fun a' w' h' => ⟨trivial, h'⟩) h
theorem wt_two {k i j : Nat} {L : Array Bool} {a : Act} {w : World} (hr : Region.ready md ops L = [i, j]) (h1 : wpOp P ops Q i (fun a' w' => wpAnyH P md ops Q T0 k (L.setIfInBounds i true) a' w') a w)
    (h2 : wpOp P ops Q j (fun a' w' => wpAnyH P md ops Q T0 k (L.setIfInBounds j true) a' w') a w) : wpAnyH P md ops Q T0 (k + 1) L a w := by
  refine ⟨fun c => (by rw [hr] at c; cases c), fun l hl => ?_⟩
  rw [hr] at hl
  rcases List.mem_cons.1 hl with rfl | hl
  · exact wpOp_mono (fun a' w' h' => ⟨trivial, h'⟩) h1
  · obtain rfl := List.mem_singleton.1 hl
    exact wpOp_mono (fun a' w' h' => ⟨trivial, h'⟩) h2
/-- An operation yields v in every world that meets C, whatever else the frame holds. -/
def Yld (P : Program) (ops : Array Oper) (i d : Nat) (v : Value) (A : Act → Prop) (C : World → Prop) : Prop :=
  ∃ o, ops[i]? = some o ∧ o.guard = none ∧ o.dst = some d ∧ ∀ a w, A a → C w → (execOp a.eval o).run P w = .ok (.value v) w
theorem Yld.op {i d : Nat} {v : Value} {A : Act → Prop} {C : World → Prop} (h : Yld P ops i d v A C) {a : Act} {w : World} {K : Act → World → Prop} (hA : A a) (hC : C w) (hK : K (a.put (some d) v) w) : wpOp P ops Q i K a w := by
  obtain ⟨o, h1, h2, h3, h4⟩ := h
  refine wpOp_val h1 h2 (h4 a w hA hC) ?_
  rw [h3]; exact hK
/-- The slice literal: one element in a block of its own. -/
def Mks (P : Program) (ops : Array Oper) (i d : Nat) (new : Array Value) (e : TypeId) (A : Act → Prop) : Prop :=
  ∃ o, ops[i]? = some o ∧ o.guard = none ∧ o.dst = some d ∧ ∀ a w, A a → (execOp a.eval o).run P w = .ok (.value (.slice (some ⟨w.heap.size, 0, none⟩) 1 1)) (w.alloc (.cells new e))
theorem Mks.op {i d : Nat} {new : Array Value} {e : TypeId} {A : Act → Prop} (h : Mks P ops i d new e A) {a : Act} {w : World} {K : Act → World → Prop} (hA : A a) (hK : K (a.put (some d) (.slice (some ⟨w.heap.size, 0, none⟩) 1 1)) (w.alloc (.cells new e))) : wpOp P ops Q i K a w := by
  obtain ⟨o, h1, h2, h3, h4⟩ := h
  refine wpOp_val h1 h2 (h4 a w hA) ?_
  rw [h3]; exact hK
/-- The call leaves the region by a panic. -/
theorem push_stop {k i0 i1 d0 : Nat} {L : Array Bool} {a0 : Act} {w0 : World} {v : Value} {A : Act → Prop} {C : World → Prop} (hr : Region.ready md ops L = [i0, i1]) (hr0 : Region.ready md ops (L.setIfInBounds i0 true) = [i1])
    (hload : Yld P ops i0 d0 v A C) (hA : A a0) (hC : C w0) (hcall : ∀ K, wpOp P ops Q i1 K a0 w0) (hcall' : ∀ K, wpOp P ops Q i1 K (a0.put (some d0) v) w0) : wpAnyH P md ops Q T0 (k + 1 + 1) L a0 w0 :=
  wt_two hr (hload.op hA hC (wt_one hr0 (hcall' _))) (hcall _)
/-- A load, and a call and a slice literal: in whatever order the load comes. -/
theorem push_three {k i0 i1 i2 d0 d1 d2 : Nat} {L : Array Bool} {a0 : Act} {w0 : World} {v u : Value} {new : Array Value} {e : TypeId} {A : Act → Prop} {C : World → Prop} {RY : World → Prop}
    (hr : Region.ready md ops L = [i0, i1]) (hr0 : Region.ready md ops (L.setIfInBounds i0 true) = [i1]) (hr1 : Region.ready md ops (L.setIfInBounds i1 true) = [i0, i2])
    (hr01 : Region.ready md ops ((L.setIfInBounds i0 true).setIfInBounds i1 true) = [i2]) (hr12 : Region.ready md ops ((L.setIfInBounds i1 true).setIfInBounds i2 true) = [i0])
    (n01 : i0 ≠ i1) (n02 : i0 ≠ i2) (m01 : d0 ≠ d1) (m02 : d0 ≠ d2)
    (hload : Yld P ops i0 d0 v A C) (hA : A a0) (hA1 : ∀ a d w, A a → (d = d1 ∨ d = d2) → A (a.put (some d) w)) (hC : C w0) (hCY : ∀ Y, RY Y → C Y ∧ C (Y.alloc (.cells new e)))
    (hcall : ∀ K : Act → World → Prop, (∀ Y, RY Y → K (a0.put (some d1) u) Y) → wpOp P ops Q i1 K a0 w0)
    (hcall' : ∀ K : Act → World → Prop, (∀ Y, RY Y → K ((a0.put (some d0) v).put (some d1) u) Y) → wpOp P ops Q i1 K (a0.put (some d0) v) w0)
    (hmake : Mks P ops i2 d2 new e (fun a => a.eval (.tmp d1) = u)) (hu : (a0.put (some d1) u).eval (.tmp d1) = u) (hu' : ((a0.put (some d0) v).put (some d1) u).eval (.tmp d1) = u)
    (h : ∀ Y, RY Y → wpAnyH P md ops Q T0 k (((L.setIfInBounds i0 true).setIfInBounds i1 true).setIfInBounds i2 true) (((a0.put (some d0) v).put (some d1) u).put (some d2) (.slice (some ⟨Y.heap.size, 0, none⟩) 1 1)) (Y.alloc (.cells new e))) :
    wpAnyH P md ops Q T0 (k + 1 + 1 + 1) L a0 w0 := by
  refine wt_two hr (hload.op hA hC (wt_one hr0 (hcall' _ fun Y hY => wt_one hr01 (hmake.op hu' (h Y hY))))) (hcall _ fun Y hY => ?_)
  have hA1' := hA1 a0 d1 u hA (.inl rfl)
  refine wt_two hr1 (hload.op hA1' (hCY Y hY).1 ?_) (hmake.op hu (wt_one hr12 (hload.op (hA1 _ d2 _ hA1' (.inr rfl)) (hCY Y hY).2 ?_)))
  · rw [Array.setIfInBounds_comm _ _ (Ne.symm n01), put_comm' (Ne.symm m01)]
    exact wt_one hr01 (hmake.op hu' (h Y hY))
  · have e1 : ((L.setIfInBounds i1 true).setIfInBounds i2 true).setIfInBounds i0 true = ((L.setIfInBounds i0 true).setIfInBounds i1 true).setIfInBounds i2 true := by
      rw [Array.setIfInBounds_comm _ _ (Ne.symm n02), Array.setIfInBounds_comm _ _ (Ne.symm n01)]
    have e2 : ∀ z, ((a0.put (some d1) u).put (some d2) z).put (some d0) v = ((a0.put (some d0) v).put (some d1) u).put (some d2) z := fun z => by
      rw [put_comm' (Ne.symm m02), put_comm' (Ne.symm m01)]
    rw [e1, e2]
    exact h Y hY
/-- .. with a conversion behind the call. -/
theorem push_four {k i0 i1 ic i2 d0 d1 dc d2 : Nat} {L : Array Bool} {a0 : Act} {w0 : World} {v u uc : Value} {new : Array Value} {e : TypeId} {A : Act → Prop} {C : World → Prop} {RY : World → Prop}
    (hr : Region.ready md ops L = [i0, i1]) (hr0 : Region.ready md ops (L.setIfInBounds i0 true) = [i1]) (hr1 : Region.ready md ops (L.setIfInBounds i1 true) = [i0, ic])
    (hr01 : Region.ready md ops ((L.setIfInBounds i0 true).setIfInBounds i1 true) = [ic]) (hr1c : Region.ready md ops ((L.setIfInBounds i1 true).setIfInBounds ic true) = [i0, i2])
    (hr01c : Region.ready md ops (((L.setIfInBounds i0 true).setIfInBounds i1 true).setIfInBounds ic true) = [i2]) (hr1c2 : Region.ready md ops (((L.setIfInBounds i1 true).setIfInBounds ic true).setIfInBounds i2 true) = [i0])
    (n01 : i0 ≠ i1) (n0c : i0 ≠ ic) (n02 : i0 ≠ i2) (m01 : d0 ≠ d1) (m0c : d0 ≠ dc) (m02 : d0 ≠ d2) (m1c : d1 ≠ dc)
    (hload : Yld P ops i0 d0 v A C) (hA : A a0) (hA1 : ∀ a d w, A a → (d = d1 ∨ d = dc ∨ d = d2) → A (a.put (some d) w)) (hC : C w0) (hCY : ∀ Y, RY Y → C Y ∧ C (Y.alloc (.cells new e)))
    (hcall : ∀ K : Act → World → Prop, (∀ Y, RY Y → K (a0.put (some d1) u) Y) → wpOp P ops Q i1 K a0 w0)
    (hcall' : ∀ K : Act → World → Prop, (∀ Y, RY Y → K ((a0.put (some d0) v).put (some d1) u) Y) → wpOp P ops Q i1 K (a0.put (some d0) v) w0)
    (hconv : Yld P ops ic dc uc (fun a => a.eval (.tmp d1) = u) (fun _ => True)) (hmake : Mks P ops i2 d2 new e (fun a => a.eval (.tmp dc) = uc))
    (s1 : d1 < a0.tmps.size) (sc : dc < a0.tmps.size)
    (h : ∀ Y, RY Y → wpAnyH P md ops Q T0 k ((((L.setIfInBounds i0 true).setIfInBounds i1 true).setIfInBounds ic true).setIfInBounds i2 true) ((((a0.put (some d0) v).put (some d1) u).put (some dc) uc).put (some d2) (.slice (some ⟨Y.heap.size, 0, none⟩) 1 1)) (Y.alloc (.cells new e))) :
    wpAnyH P md ops Q T0 (k + 1 + 1 + 1 + 1) L a0 w0 := by
  have z1 : ∀ (a : Act) d x, (a.put d x).tmps.size = a.tmps.size := fun a d x => by cases d <;> simp [Act.put]
  have hu : (a0.put (some d1) u).eval (.tmp d1) = u := put_same s1 _
  have hu' : ((a0.put (some d0) v).put (some d1) u).eval (.tmp d1) = u := put_same (by rw [z1]; exact s1) _
  have hc' : (((a0.put (some d0) v).put (some d1) u).put (some dc) uc).eval (.tmp dc) = uc := put_same (by rw [z1, z1]; exact sc) _
  have hcc : ((a0.put (some d1) u).put (some dc) uc).eval (.tmp dc) = uc := put_same (by rw [z1]; exact sc) _
  have rest : ∀ Y, RY Y → wpAnyH P md ops Q T0 (k + 1 + 1) ((L.setIfInBounds i0 true).setIfInBounds i1 true) ((a0.put (some d0) v).put (some d1) u) Y := fun Y hY =>
    wt_one hr01 (hconv.op hu' trivial (wt_one hr01c (hmake.op hc' (h Y hY))))
  refine wt_two hr (hload.op hA hC (wt_one hr0 (hcall' _ fun Y hY => rest Y hY))) (hcall _ fun Y hY => ?_)
  have hA1' := hA1 a0 d1 u hA (.inl rfl)
  have hA2' := hA1 _ dc uc hA1' (.inr (.inl rfl))
  refine wt_two hr1 (hload.op hA1' (hCY Y hY).1 ?_) (hconv.op hu trivial (wt_two hr1c (hload.op hA2' (hCY Y hY).1 ?_) (hmake.op hcc (wt_one hr1c2 (hload.op (hA1 _ d2 _ hA2' (.inr (.inr rfl))) (hCY Y hY).2 ?_)))))
  · rw [Array.setIfInBounds_comm _ _ (Ne.symm n01), put_comm' (Ne.symm m01)]
    exact rest Y hY
  · have e1 : ((L.setIfInBounds i1 true).setIfInBounds ic true).setIfInBounds i0 true = ((L.setIfInBounds i0 true).setIfInBounds i1 true).setIfInBounds ic true := by
      rw [Array.setIfInBounds_comm _ _ (Ne.symm n0c), Array.setIfInBounds_comm _ _ (Ne.symm n01)]
    rw [e1, put_comm' (Ne.symm m0c), put_comm' (Ne.symm m01)]
    exact wt_one hr01c (hmake.op hc' (h Y hY))
  · have e1 : (((L.setIfInBounds i1 true).setIfInBounds ic true).setIfInBounds i2 true).setIfInBounds i0 true = (((L.setIfInBounds i0 true).setIfInBounds i1 true).setIfInBounds ic true).setIfInBounds i2 true := by
      rw [Array.setIfInBounds_comm _ _ (Ne.symm n02), Array.setIfInBounds_comm _ _ (Ne.symm n0c), Array.setIfInBounds_comm _ _ (Ne.symm n01)]
    have e2 : ∀ z, (((a0.put (some d1) u).put (some dc) uc).put (some d2) z).put (some d0) v = (((a0.put (some d0) v).put (some d1) u).put (some dc) uc).put (some d2) z := fun z => by
      rw [put_comm' (Ne.symm m02), put_comm' (Ne.symm m0c), put_comm' (Ne.symm m01)]
    rw [e1, e2]
    exact h Y hY
/-- The append. -/
theorem push_app {k i3 d0 d2 d3 B size n bytes : Nat} {L : Array Bool} {a : Act} {w : World} {v : Value} {xs : List Value} {cs : Array Value} {g : Nat} {e T : TypeId} {i : TypeInfo} {z : Value} (o3 : Oper)
    (h3 : ops[i3]? = some o3) (g3 : o3.guard = none) (t3 : o3.dst = some d3) (p3 : o3.op = .call { callee := .builtin .append, args := #[.tmp d0, .tmp d2], argTypes := #[T, T] })
    (hr : Region.ready md ops L = [i3]) (hT : P.underlying T = some (.slice e)) (hi : P.info? e = some i) (hz : i.zero = some z) (hsize : i.size = size) (hby : i.bytes = bytes) (hzs : z.cells.size = size) (hsz : 0 < size)
    (hcl : cs.size = size) (h1 : ∀ x ∈ cs.toList, x.oneCell' = true) (hn : n ≤ 1048576) (hbytes : (n + 1) * bytes ≤ 140737488355328)
    (e0 : a.eval (.tmp d0) = v) (e2 : a.eval (.tmp d2) = .slice (some ⟨g, 0, none⟩) 1 1)
    (hown : Sl B w e size v n xs) (hb : Blk w g cs e) (hB : B ≤ w.heap.size)
    (h : ∀ v' w', Sl B w' e size v' (n + 1) (xs ++ cs.toList) → w.grownBy w' v.ownBlock → (v'.ownBlock = v.ownBlock ∨ v'.ownBlock = some w.heap.size) → wpAnyH P md ops Q T0 k (L.setIfInBounds i3 true) (a.put (some d3) v') w') :
    wpAnyH P md ops Q T0 (k + 1) L a w := by
  refine wt_one hr (wpOp_of_wp h3 g3 ?_)
  obtain ⟨v', w', hrun, r1, r2, r3⟩ := run_append_sl (P := P) T o3.type i z bytes hT hi hz hsize hby hzs hsz hown ⟨g, 0, none⟩ 1 1 cs.toList (by simpa using hcl) (World.news_of_block hb) h1 (by unfold maxLen; omega) hbytes hB
  unfold Oper.wp
  simp only [execOp, p3, resolve, invoke, builtin, Sem.run_bind, Sem.run_pure, Result.andThen_ok, List.map_toArray, List.map_cons, List.map_nil, e0, e2, hrun]
  change wpAnyH _ _ _ _ _ _ _ (Act.put _ o3.dst _) _
  rw [t3]
  exact h v' w' r1 r2 r3
theorem yld_load {i d t b f : Nat} {T e : TypeId} {v : Value} (o : Oper) (ho : ops[i]? = some o) (hg : o.guard = none) (hd : o.dst = some d) (hop : o.op = .load T (.tmp t)) (hu : P.underlying T = some (.slice e)) :
    Yld P ops i d v (fun a => a.eval (.tmp t) = .pointer (some ⟨b, f, none⟩)) (fun w => w.cell? ⟨b, f, none⟩ = some v) := by
  refine ⟨o, ho, hg, hd, fun a w hA hC => ?_⟩
  unfold execOp
  simp only [hop, hA, Sem.run_bind, run_loadAt_slice hu hC, Result.andThen_ok, Sem.run_pure]
theorem mks_of {i d t : Nat} {T e : TypeId} {ti : TypeInfo} {z v : Value} {new : Array Value} (o : Oper) (ho : ops[i]? = some o) (hg : o.guard = none) (hd : o.dst = some d) (hop : o.op = .buildSlice T 1 #[(0, .tmp t)])
    (hu : P.underlying T = some (.slice e)) (hi : P.info? e = some ti) (hz : ti.zero = some z) {sz : Nat} (hs : ti.size = sz) (h1 : ¬ 1 * sz > 2 ^ 24) (hn : ¬ 1 * sz = 0) (hf : Instr.fill (fun k => some (k * sz, sz)) ((Array.range (1 * sz)).map (z.cells[· % z.cells.size]!)) [(0, v)] = some new) :
    Mks P ops i d new e (fun a => a.eval (.tmp t) = v) := by
  subst hs
  refine ⟨o, ho, hg, hd, fun a w h => ?_⟩
  unfold execOp
  simp only [hop, List.map_toArray, List.map_cons, List.map_nil, h, Sem.run_bind, run_buildSlice w T e 1 #[(0, v)] new ti z hu hi hz h1 hn hf, Result.andThen_ok, Sem.run_pure]
end
end Go.Proofs.YtedapgeabpadaaaDoor

set_option linter.unusedVariables false
set_option linter.unusedSimpArgs false
namespace Go.Proofs.YtedapgeabpadaaaDoor
open Go.RowKit Pl Go.Shelf Go.PlainAid

theorem info_parts' {α β γ : Type} {P : Program} {t : TypeId} {f : TypeInfo → α × β × γ} {x : α} {y : β} {z : γ} (h : (P.info? t).map f = some (x, y, z)) : ∃ i, P.info? t = some i ∧ (f i).1 = x ∧ (f i).2.1 = y ∧ (f i).2.2 = z := by
  cases hq : P.info? t with
  | none => rw [hq] at h; cases h
  | some i => rw [hq] at h; injection h with h; exact ⟨i, rfl, by rw [h], by rw [h], by rw [h]⟩
theorem info_sub : (Tryd.prog.info? 84).map (fun i => (i.zero, i.size, i.bytes)) = some (some (.agg (sbA zSb)), 5, 40) := by kernel_rfl
theorem info_str5 : (Tryd.prog.info? 9).map (fun i => (i.zero, i.size, i.bytes)) = some (some (.string ⟨#[]⟩), 1, 16) := by kernel_rfl
theorem info_code5 : (Tryd.prog.info? 30).map (fun i => (i.zero, i.size, i.bytes)) = some (some (.int .u8 0), 1, 1) := by kernel_rfl
theorem info_subs1 : (Tryd.prog.info? 43).map (fun i => (i.zero, i.size, i.bytes)) = some (some (.slice none 0 0), 1, 24) := by kernel_rfl
theorem info_strs1 : (Tryd.prog.info? 22).map (fun i => (i.zero, i.size, i.bytes)) = some (some (.slice none 0 0), 1, 24) := by kernel_rfl
theorem info_codes1 : (Tryd.prog.info? 39).map (fun i => (i.zero, i.size, i.bytes)) = some (some (.slice none 0 0), 1, 24) := by kernel_rfl
theorem grown_ne {w w9 : World} {P R : Nat} {e T : TypeId} {B size n : Nat} {v : Value} {xs : List Value} {cs : Array Value} (hs : Sl B w e size v n xs) (hb : Blk w R cs T) (hT : T ≠ e) (hg : w.grownBy w9 v.ownBlock) : Blk w9 R cs T :=
  (hg.block R hb.lt (hs.ne hb hT).symm).trans hb
/-- A list has grown: what else stands. -/
theorem St.grown {w : World} {R P : Nat} {s : ByteArray} {b : Int} {q : Pk} {m : Hs} {Y w9 : World} {e : TypeId} {size n : Nat} {v : Value} {xs : List Value} (h : St w R P s b q m Y) (hw : Tabs w) (hs : Sl w.heap.size Y e size v n xs)
    (h1 : 110 ≠ e) (h2 : 45 ≠ e) (hg : Y.grownBy w9 v.ownBlock) :
    Blk w9 R (rdrA s b) 110 ∧ Blk w9 P (pkA .u8 q m) 45 ∧ (∀ (e' : TypeId) (size' : Nat) v' n' xs', e' ≠ e → Sl w.heap.size Y e' size' v' n' xs' → Sl w.heap.size w9 e' size' v' n' xs') ∧ Mod (fun k => k = R ∨ k = P) w w9 ∧ Tabs w9 :=
  ⟨grown_ne (P := P) hs h.rB h1 hg, grown_ne (P := P) hs h.pB h2 hg, fun e' size' v' n' xs' he hs' => hs'.grown hg (fun k hk => hs'.ne2 hs he k hk), h.md.grown hg (fun k hk => .inr (hs.lt k hk).1),
    tabs_keep (S := fun k => v.ownBlock = some k) h.tb ⟨hg.os, hg.tape, hg.output, hg.size, fun k hk hn => hg.block k hk (fun c => hn c.symm)⟩ (fun k hk => NoTab.new hw (hs.lt k hk).1)⟩

theorem St.push_subs {w : World} {R P : Nat} {s : ByteArray} {b : Int} {q : Pk} {m : Hs} {Y w9 : World} {v' : Value} {x : Sb} (h : St w R P s b q m Y) (hw : Tabs w) (hs9 : Sl w.heap.size w9 84 5 v' (q.subs.length + 1) ((sbF q.subs) ++ (sbA x : Array Value).toList)) (hg : Y.grownBy w9 m.s.v.ownBlock) :
    ∃ m', St w R P s b { q with subs := q.subs ++ [x] } m' (w9.setCell ⟨P, 24, none⟩ v') := by
  obtain ⟨g1, g2, g3, g4, g5⟩ := h.grown hw h.o.ss (by decide) (by decide) hg
  obtain ⟨ao, cap, rfl, -⟩ := hs9.form
  have r : Sl w.heap.size (w9.setCell ⟨P, 24, none⟩ (.slice ao (q.subs.length + 1) cap)) 84 5 (.slice ao (q.subs ++ [x]).length cap) (q.subs ++ [x]).length (sbF (q.subs ++ [x])) := by
    have := hs9.set (R := P) 24 (.slice ao (q.subs.length + 1) cap) (hs9.ne g2 (by decide))
    rw [show (q.subs ++ [x]).length = q.subs.length + 1 from by simp, show sbF (q.subs ++ [x]) = (sbF q.subs) ++ (sbA x : Array Value).toList from by simp [sbF]]
    exact this
  refine ⟨{ m with s := ⟨ao, (q.subs ++ [x]).length, cap⟩ }, g1.other h.ne 24 _, ?_, ⟨(g3 _ _ _ _ _ (by decide) h.o.ps).set 24 _ ((g3 _ _ _ _ _ (by decide) h.o.ps).ne g2 (by decide)), (g3 _ _ _ _ _ (by decide) h.o.wps).set 24 _ ((g3 _ _ _ _ _ (by decide) h.o.wps).ne g2 (by decide)), (g3 _ _ _ _ _ (by decide) h.o.cs).set 24 _ ((g3 _ _ _ _ _ (by decide) h.o.cs).ne g2 (by decide)), r, (g3 _ _ _ _ _ (by decide) h.o.fs).set 24 _ ((g3 _ _ _ _ _ (by decide) h.o.fs).ne g2 (by decide))⟩, g4.setCell (.inl (.inr rfl)) _, tabs_set g5 h.nP _, h.lR, h.lP, h.ne, h.nR, h.nP, h.a0, h.a1, h.sz⟩
  have := g2.set 24 (.slice ao (q.subs.length + 1) cap)
  rw [show (q.subs ++ [x]).length = q.subs.length + 1 from by simp]
  exact this
theorem St.push_filters {w : World} {R P : Nat} {s : ByteArray} {b : Int} {q : Pk} {m : Hs} {Y w9 : World} {v' : Value} {x : ByteArray} (h : St w R P s b q m Y) (hw : Tabs w) (hs9 : Sl w.heap.size w9 9 1 v' (q.filters.length + 1) ((q.filters.map Value.string) ++ (#[.string x] : Array Value).toList)) (hg : Y.grownBy w9 m.f.v.ownBlock) :
    ∃ m', St w R P s b { q with filters := q.filters ++ [x] } m' (w9.setCell ⟨P, 25, none⟩ v') := by
  obtain ⟨g1, g2, g3, g4, g5⟩ := h.grown hw h.o.fs (by decide) (by decide) hg
  obtain ⟨ao, cap, rfl, -⟩ := hs9.form
  have r : Sl w.heap.size (w9.setCell ⟨P, 25, none⟩ (.slice ao (q.filters.length + 1) cap)) 9 1 (.slice ao (q.filters ++ [x]).length cap) (q.filters ++ [x]).length ((q.filters ++ [x]).map Value.string) := by
    have := hs9.set (R := P) 25 (.slice ao (q.filters.length + 1) cap) (hs9.ne g2 (by decide))
    rw [show (q.filters ++ [x]).length = q.filters.length + 1 from by simp, show (q.filters ++ [x]).map Value.string = (q.filters.map Value.string) ++ (#[.string x] : Array Value).toList from by simp]
    exact this
  refine ⟨{ m with f := ⟨ao, (q.filters ++ [x]).length, cap⟩ }, g1.other h.ne 25 _, ?_, ⟨(g3 _ _ _ _ _ (by decide) h.o.ps).set 25 _ ((g3 _ _ _ _ _ (by decide) h.o.ps).ne g2 (by decide)), (g3 _ _ _ _ _ (by decide) h.o.wps).set 25 _ ((g3 _ _ _ _ _ (by decide) h.o.wps).ne g2 (by decide)), (g3 _ _ _ _ _ (by decide) h.o.cs).set 25 _ ((g3 _ _ _ _ _ (by decide) h.o.cs).ne g2 (by decide)), (g3 _ _ _ _ _ (by decide) h.o.ss).set 25 _ ((g3 _ _ _ _ _ (by decide) h.o.ss).ne g2 (by decide)), r⟩, g4.setCell (.inl (.inr rfl)) _, tabs_set g5 h.nP _, h.lR, h.lP, h.ne, h.nR, h.nP, h.a0, h.a1, h.sz⟩
  have := g2.set 25 (.slice ao (q.filters.length + 1) cap)
  rw [show (q.filters ++ [x]).length = q.filters.length + 1 from by simp]
  exact this
theorem St.push_codes {w : World} {R P : Nat} {s : ByteArray} {b : Int} {q : Pk} {m : Hs} {Y w9 : World} {v' : Value} {x : Int} (h : St w R P s b q m Y) (hw : Tabs w) (hs9 : Sl w.heap.size w9 30 1 v' (q.codes.length + 1) ((q.codes.map (Value.int .u8)) ++ (#[.int .u8 x] : Array Value).toList)) (hg : Y.grownBy w9 m.c.v.ownBlock) :
    ∃ m', St w R P s b { q with codes := q.codes ++ [x] } m' (w9.setCell ⟨P, 8, none⟩ v') := by
  obtain ⟨g1, g2, g3, g4, g5⟩ := h.grown hw h.o.cs (by decide) (by decide) hg
  obtain ⟨ao, cap, rfl, -⟩ := hs9.form
  have r : Sl w.heap.size (w9.setCell ⟨P, 8, none⟩ (.slice ao (q.codes.length + 1) cap)) 30 1 (.slice ao (q.codes ++ [x]).length cap) (q.codes ++ [x]).length ((q.codes ++ [x]).map (Value.int .u8)) := by
    have := hs9.set (R := P) 8 (.slice ao (q.codes.length + 1) cap) (hs9.ne g2 (by decide))
    rw [show (q.codes ++ [x]).length = q.codes.length + 1 from by simp, show (q.codes ++ [x]).map (Value.int .u8) = (q.codes.map (Value.int .u8)) ++ (#[.int .u8 x] : Array Value).toList from by simp]
    exact this
  refine ⟨{ m with c := ⟨ao, (q.codes ++ [x]).length, cap⟩ }, g1.other h.ne 8 _, ?_, ⟨(g3 _ _ _ _ _ (by decide) h.o.ps).set 8 _ ((g3 _ _ _ _ _ (by decide) h.o.ps).ne g2 (by decide)), (g3 _ _ _ _ _ (by decide) h.o.wps).set 8 _ ((g3 _ _ _ _ _ (by decide) h.o.wps).ne g2 (by decide)), r, (g3 _ _ _ _ _ (by decide) h.o.ss).set 8 _ ((g3 _ _ _ _ _ (by decide) h.o.ss).ne g2 (by decide)), (g3 _ _ _ _ _ (by decide) h.o.fs).set 8 _ ((g3 _ _ _ _ _ (by decide) h.o.fs).ne g2 (by decide))⟩, g4.setCell (.inl (.inr rfl)) _, tabs_set g5 h.nP _, h.lR, h.lP, h.ne, h.nR, h.nP, h.a0, h.a1, h.sz⟩
  have := g2.set 8 (.slice ao (q.codes.length + 1) cap)
  rw [show (q.codes ++ [x]).length = q.codes.length + 1 from by simp]
  exact this
end Go.Proofs.YtedapgeabpadaaaDoor

set_option linter.unusedVariables false
set_option linter.unusedSimpArgs false
namespace Go.Proofs.YtedapgeabpadaaaDoor
open Go.RowKit Pl Go.Shelf Go.PlainAid

theorem rItems_end {s : ByteArray} {f : Nat} {p : Pk} {a : Int} (h : ¬ a < s.size) : rItems s f p a = .ok (p, a) := by
  cases f with
  | zero => unfold rItems; rw [if_neg h]
  | succ f => unfold rItems; rw [if_neg h]
theorem rItems_full {s : ByteArray} {p : Pk} {a : Int} (h : a < s.size) : rItems s 0 p a = .error 149 := by unfold rItems; rw [if_pos h]
theorem rItems_more {s : ByteArray} {n : Nat} {p : Pk} {a : Int} (h : a < s.size) (hn : n < 64) : rItems s (64 - n) p a = bindR (rItem s p a) fun p a => rItems s (64 - (n + 1)) p a := by
  rw [show 64 - n = (64 - (n + 1)) + 1 from by omega]
  show (if a < (s.size : Int) then bindR (rItem s p a) fun p a => rItems s (64 - (n + 1)) p a else .ok (p, a)) = _
  rw [if_pos h]

theorem conv_byte {x : Int} (h0 : 0 ≤ x) (h1 : x < 256) (w : World) : (convert 3 30 (.int .i64 x)).run Tryd.prog w = .ok (.int .u8 x) w := by
  have hx : x % 256 = x := by omega
  go_simp
  rw [IntKind.wrap_u8]; exact hx
theorem yld_conv {P : Program} {ops : Array Oper} {i d t : Nat} {S D : TypeId} {u v : Value} (o : Oper) (ho : ops[i]? = some o) (hg : o.guard = none) (hd : o.dst = some d) (hop : o.op = .convert S D (.tmp t)) (h : ∀ w, (convert S D u).run P w = .ok v w) : Yld P ops i d v (fun a => a.eval (.tmp t) = u) (fun _ => True) := by
  refine ⟨o, ho, hg, hd, fun a w hA _ => ?_⟩
  unfold execOp
  simp only [hop, hA, Sem.run_bind, h, Result.andThen_ok, Sem.run_pure]
theorem rSub_at {s : ByteArray} {a b : Int} {x : Sb} (h : rSub s a = .ok (x, b)) : a ≤ b ∧ b ≤ s.size ∧ 0 ≤ a := by
  unfold rSub at h
  obtain ⟨r, hr⟩ : ∃ r, rText s a = r := ⟨_, rfl⟩
  rw [hr] at h
  cases r with
  | error c => cases h
  | ok v =>
    obtain ⟨f, a1⟩ := v
    simp only [bR_ok] at h
    obtain ⟨r2, hr2⟩ : ∃ r, rNum s 1 a1 = r := ⟨_, rfl⟩
    rw [hr2] at h
    cases r2 with
    | error c => cases h
    | ok v2 =>
      obtain ⟨n, a2⟩ := v2
      simp only [bR_ok] at h
      split at h
      · cases h
      · split at h
        · cases h
        · cases h
          have e1 := rText_at hr
          have e2 := rNum_at hr2
          omega

set_option maxHeartbeats 8000000 in
set_option maxRecDepth 100000 in
theorem rlists_any {w : World} {R P : Nat} {s : ByteArray} {a : Int} {p : Pk} {m : Hs} {X : World} (h : St w R P s a p m X) (hw : Tabs w) (hL : p.subs.length + p.filters.length + p.codes.length ≤ 1000) :
    Calls Tryd.prog 56 #[.pointer (some ⟨R, 0, none⟩), .pointer (some ⟨P, 0, none⟩)] X (PkPost' w R P s (rLists s p a)) := by
  have H0 := Lib.hid h
  have HW := Lib.hid hw
  obtain ⟨RES, hres⟩ : ∃ RES, rLists s p a = RES := ⟨_, rfl⟩
  rw [hres]
  unfold rLists at hres
  have HK0 := Lib.hid hres
  clear h hres hw
  go_enter Tryd.func56, Tryd.ntmps56
  obtain ⟨r1, e1⟩ : ∃ r, rId s a = r := ⟨_, rfl⟩
  have C1 := Lib.hid (rid_any R s a X H0.out.rB H0.out.sz H0.out.a0 H0.out.a1)
  rw [e1] at C1
  have hk1 := HK0.out
  rw [e1] at hk1
  have EE1 := Lib.hid e1
  clear e1
  have HKK1 := Lib.hid hk1; clear hk1
  go_wp2_with (first | (fail))
  (with_reducible refine C1.out.mono ?_)
  cases r1 with
  | error c =>
    rintro e Y1 ⟨rfl, hm1⟩
    refine ⟨rfl, ?_⟩
    have hk := HKK1.out
    simp only [bR_err] at hk
    rw [← hk]
    exact ⟨rfl, H0.out.goneR hm1⟩
  | ok v1 =>
    obtain ⟨x1, b1⟩ := v1
    rintro e Y1 ⟨u1, rfl, rfl, hb1, hm1⟩
    have HH1 := Lib.hid (H0.out.read hb1 hm1 (rId_at EE1.out))
    have hk1 := HKK1.out
    simp only [bR_ok] at hk1
    have HK1 := Lib.hid hk1
    clear hb1 hm1 hk1 C1 HKK1 
    have c2 : Y1.cell? ⟨P, 4, none⟩ = some (.int .i64 (p.id)) := HH1.out.pB.cell 4
    have f2 := HH1.out.pB.frozen 4
    obtain ⟨q2, eq2⟩ : ∃ q : Pk, { p with id := x1 } = q := ⟨_, rfl⟩
    obtain ⟨Z2, z2⟩ : ∃ Z, Y1.setCell ⟨P, 4, none⟩ (.int .i64 (x1)) = Z := ⟨_, rfl⟩
    have hh2 := HH1.out.set 4 (.int .i64 (x1)) ({ p with id := x1 }) (m) rfl ⟨HH1.out.o.ps, HH1.out.o.wps, HH1.out.o.cs, HH1.out.o.ss, HH1.out.o.fs⟩
    rw [z2, eq2] at hh2
    have HH2 := Lib.hid hh2
    have EQ2 := Lib.hid eq2
    clear hh2 eq2
    have HQK := Lib.hid (show q2.kind = p.kind from by rw [← EQ2.out])
    have l3 : Z2.cell? ⟨P, 0, none⟩ = some (.int .i64 (p.kind)) := (HH2.out.pB.cell 0).trans (by show some (Value.int .i64 (q2.kind)) = _; rw [HQK.out])
    obtain ⟨r4, e4⟩ : ∃ r, rProps p.kind s b1 = r := ⟨_, rfl⟩
    have C4 := Lib.hid (rprops_any R s b1 p.kind Z2 HH2.out.rB HH2.out.sz HH2.out.a0 HH2.out.a1 HH2.out.tb)
    rw [e4] at C4
    have hk4 := HK1.out
    rw [e4] at hk4
    have EE4 := Lib.hid e4
    clear e4
    have HKK4 := Lib.hid hk4; clear hk4
    go_wp2_with (first | (fail))
    (with_reducible refine C4.out.mono ?_)
    cases r4 with
    | error c =>
      rintro e Y4 ⟨rfl, hm4⟩
      refine ⟨rfl, ?_⟩
      have hk := HKK4.out
      simp only [bR_err] at hk
      rw [← hk]
      exact ⟨rfl, HH2.out.goneR hm4⟩
    | ok v4 =>
      obtain ⟨x4, b4⟩ := v4
      rintro e Y4 ⟨u4, rfl, hps4, hb4, hm4⟩
      have HH4 := Lib.hid (HH2.out.read hb4 hm4 (rProps_at EE4.out HH2.out.a0))
      have hk4 := HKK4.out
      simp only [bR_ok] at hk4
      have HK4 := Lib.hid hk4
      obtain ⟨ao4, cp4, rfl, -⟩ := hps4.form
      have HS4 := Lib.hid (hps4.mono' HH2.out.md.size)
      clear hps4
      clear hb4 hm4 hk4 C4 HKK4 c2 f2 z2 l3
      have c5 : Y4.cell? ⟨P, 9, none⟩ = some (.slice m.p.A m.p.n m.p.cap) := HH4.out.pB.cell 9
      have f5 := HH4.out.pB.frozen 9
      obtain ⟨q5, eq5⟩ : ∃ q : Pk, { q2 with ps := x4 } = q := ⟨_, rfl⟩
      obtain ⟨Z5, z5⟩ : ∃ Z, Y4.setCell ⟨P, 9, none⟩ (.slice ao4 x4.length cp4) = Z := ⟨_, rfl⟩
      have hh5 := HH4.out.set 9 (.slice ao4 x4.length cp4) ({ q2 with ps := x4 }) ({ m with p := ⟨ao4, x4.length, cp4⟩ }) rfl ⟨HS4.out, HH4.out.o.wps, HH4.out.o.cs, HH4.out.o.ss, HH4.out.o.fs⟩
      obtain ⟨M5, em5⟩ : ∃ M : Hs, { m with p := ⟨ao4, x4.length, cp4⟩ } = M := ⟨_, rfl⟩
      rw [z5, eq5, em5] at hh5
      clear em5
      have HH5 := Lib.hid hh5
      have EQ5 := Lib.hid eq5
      clear hh5 eq5
      have hk6 := HK4.out
      rw [show ({ p with id := x1, ps := x4 } : Pk) = q5 from by rw [← EQ5.out, ← EQ2.out]] at hk6
      have HK6 := Lib.hid hk6
      clear hk6
      have HQ2 := Lib.hid (show q5.kind = p.kind from by rw [← EQ5.out]; exact HQK.out)
      have HL2 := Lib.hid (show q5.subs.length + q5.filters.length + q5.codes.length ≤ 1000 from by rw [← EQ5.out, ← EQ2.out]; exact hL)
      clear hL
      go_wp2_with fail
      clear c5 f5 z5
      go_loopw [4] (fun t wr => ∃ (n : Nat) (q1 : Pk) (m1 : Hs) (b1 : Int), t = .int .i64 n ∧ n ≤ 64 ∧ Hid (St w R P s b1 q1 m1 wr) ∧ Hid (q1.kind = p.kind) ∧ Hid (rItems s (64 - n) q1 b1 = rItems s 64 q5 b4) ∧ Hid (n = 0 → b1 = b4) ∧ Hid (0 < n → b4 < (s.size : Int)) ∧ Hid (q1.subs.length + q1.filters.length + q1.codes.length ≤ 1000 + n)) (fun t wr => 65 - (intOf t).toNat)
      case atStart => exact ⟨0, q5, M5, b4, rfl, by decide, HH5, HQ2, Lib.hid rfl, Lib.hid fun _ => rfl, Lib.hid fun c => absurd c (by decide), HL2⟩
      case round =>
        obtain ⟨n, q1, m1, b1, rfl, hn, H1, HQ1, HI, HN0, HN1, HLEN⟩ := hrel
        have CL := Lib.hid (left_any R s b1 wr H1.out.rB)
        go_wp2_with fail
        (with_reducible refine CL.out.mono ?_)
        rintro e Y ⟨rfl, hbY, hhY⟩
        have H2 := Lib.hid (H1.out.heap hbY)
        clear hbY hhY CL
        by_cases hl : b1 < (s.size : Int)
        · have hd : decide (b1 < (s.size : Int)) = true := by simp [hl]
          rw [hd]
          have hbs : b4 < (s.size : Int) := by
            by_cases c : n = 0
            · rw [← HN0.out c]; exact hl
            · exact HN1.out (by omega)
          have hk := HK6.out
          rw [if_pos hbs, ← HI.out] at hk
          have HR := Lib.hid hk
          have HBS := Lib.hid hbs
          clear hk hbs
          by_cases hn64 : n < 64
          · have hnI : (n : Int) < 64 := by omega
            have hk := HR.out
            rw [rItems_more hl hn64] at hk
            unfold rItem at hk
            have k0 : Y.cell? ⟨P, 0, none⟩ = some (.int .i64 p.kind) := (H2.out.pB.cell 0).trans (by show some (Value.int .i64 q1.kind) = _; rw [HQ1.out])
            by_cases h8 : p.kind = 8
            · have e8 : (p.kind == 8) = true := by simp [h8]
              have h8q := HQ1.out.trans h8
              clear h8
              rw [if_pos h8q] at hk
              obtain ⟨r, hr⟩ : ∃ r, rSub s b1 = r := ⟨_, rfl⟩
              rw [hr] at hk
              have CR := Lib.hid (rsub_any R s b1 Y.drew (H2.out.drew 1).rB H2.out.sz H2.out.a0 H2.out.a1 (H2.out.drew 1).tb H2.out.nR)
              rw [hr] at CR
              have ER := Lib.hid hr; have HR2 := Lib.hid hk
              have c24 : Y.cell? ⟨P, 24, none⟩ = some (.slice m1.s.A m1.s.n m1.s.cap) := H2.out.pB.cell 24
              have HPL := Lib.hid H2.out.pB.lt
              clear hr hk
              go_wp2_with fail
              refine wp_region_held (S := T0) (by kernel_rfl) ?_
              change wpAnyH _ _ _ _ T0 _ _ _ Y.drew
              refine' wpAnyH_takeD (i := 0) (d := 44) (v := ?v44_0) (hi := ?hi44_0) ?hd44_0 (by kernel_rfl) (by kernel_rfl) (by kernel_rfl) (fun _ _ _ h => h) (Or.inl ⟨?hw44_0, ?hy44_0⟩) trivial ?rest44_0
              case hi44_0 => (simp only [List.getElem?_toArray, List.getElem?_cons_succ, List.getElem?_cons_zero]; rfl)
              case hd44_0 => rfl
              case hw44_0 => rfl
              case hy44_0 => (intro W hW; go_simp; (try with_reducible rfl))
              simp only [Act.put, List.setIfInBounds_toArray, List.set_cons_succ, List.set_cons_zero]
              refine' wpAnyH_takeD (i := 1) (d := 45) (v := ?v44_1) (hi := ?hi44_1) ?hd44_1 (by kernel_rfl) (by kernel_rfl) (by kernel_rfl) (fun _ _ _ h => h) (Or.inl ⟨?hw44_1, ?hy44_1⟩) trivial ?rest44_1
              case hi44_1 => (simp only [List.getElem?_toArray, List.getElem?_cons_succ, List.getElem?_cons_zero]; rfl)
              case hd44_1 => rfl
              case hw44_1 => rfl
              case hy44_1 => (intro W hW; go_simp; (try with_reducible rfl))
              simp only [Act.put, List.setIfInBounds_toArray, List.set_cons_succ, List.set_cons_zero]
              refine' wpAnyH_takeD (i := 2) (d := 46) (v := ?v44_2) (hi := ?hi44_2) ?hd44_2 (by kernel_rfl) (by kernel_rfl) (by kernel_rfl) (fun _ _ _ h => h) (Or.inl ⟨?hw44_2, ?hy44_2⟩) trivial ?rest44_2
              case hi44_2 => (simp only [List.getElem?_toArray, List.getElem?_cons_succ, List.getElem?_cons_zero]; rfl)
              case hd44_2 => rfl
              case hw44_2 => rfl
              case hy44_2 => (intro W hW; go_simp; (try with_reducible rfl))
              simp only [Act.put, List.setIfInBounds_toArray, List.set_cons_succ, List.set_cons_zero]
              refine' wpAnyH_takeD (i := 3) (d := 47) (v := ?v44_3) (hi := ?hi44_3) ?hd44_3 (by kernel_rfl) (by kernel_rfl) (by kernel_rfl) (fun _ _ _ h => h) (Or.inl ⟨?hw44_3, ?hy44_3⟩) trivial ?rest44_3
              case hi44_3 => (simp only [List.getElem?_toArray, List.getElem?_cons_succ, List.getElem?_cons_zero]; rfl)
              case hd44_3 => rfl
              case hw44_3 => rfl
              case hy44_3 => (intro W hW; go_simp; (try with_reducible rfl))
              simp only [Act.put, List.setIfInBounds_toArray, List.set_cons_succ, List.set_cons_zero]
              refine' wpAnyH_takeD (i := 5) (d := 49) (v := ?v44_5) (hi := ?hi44_5) ?hd44_5 (by kernel_rfl) (by kernel_rfl) (by kernel_rfl) (fun _ _ _ h => h) (Or.inl ⟨?hw44_5, ?hy44_5⟩) trivial ?rest44_5
              case hi44_5 => (simp only [List.getElem?_toArray, List.getElem?_cons_succ, List.getElem?_cons_zero]; rfl)
              case hd44_5 => rfl
              case hw44_5 => rfl
              case hy44_5 => (intro W hW; go_simp; (try with_reducible rfl))
              simp only [Act.put, List.setIfInBounds_toArray, List.set_cons_succ, List.set_cons_zero]
              cases r with
              | error c =>
                change wpAnyH _ _ _ _ _ (5 + 1 + 1) _ _ _
                refine push_stop (i0 := 4) (i1 := 6) (d0 := 48) (v := (.slice m1.s.A m1.s.n m1.s.cap)) (A := fun a => a.eval (.tmp 47) = .pointer (some ⟨P, 24, none⟩)) (C := fun Z => Z.cell? ⟨P, 24, none⟩ = some (.slice m1.s.A m1.s.n m1.s.cap)) (by kernel_rfl) (by kernel_rfl) (yld_load _ rfl rfl rfl rfl Tryd.underlying43) rfl c24 (fun K => ?_) (fun K => ?_)
                · refine' wpOp_of_wp ?hos44_0 ?hgs44_0 ?gos44_0
                  case hos44_0 => (simp only [List.getElem?_toArray, List.getElem?_cons_succ, List.getElem?_cons_zero]; rfl)
                  case hgs44_0 => rfl
                  case gos44_0 =>
                    go_simp
                    (with_reducible refine CR.out.mono ?_)
                    rintro e Yc ⟨rfl, hm⟩
                    refine ⟨rfl, ?_⟩
                    have hk := HR2.out
                    simp only [bR_err] at hk
                    rw [← hk]
                    exact ⟨rfl, (H2.out.drew 1).goneR hm⟩
                · refine' wpOp_of_wp ?hos44_1 ?hgs44_1 ?gos44_1
                  case hos44_1 => (simp only [List.getElem?_toArray, List.getElem?_cons_succ, List.getElem?_cons_zero]; rfl)
                  case hgs44_1 => rfl
                  case gos44_1 =>
                    go_simp
                    (with_reducible refine CR.out.mono ?_)
                    rintro e Yc ⟨rfl, hm⟩
                    refine ⟨rfl, ?_⟩
                    have hk := HR2.out
                    simp only [bR_err] at hk
                    rw [← hk]
                    exact ⟨rfl, (H2.out.drew 1).goneR hm⟩
              | ok v =>
                obtain ⟨x, b2⟩ := v
                have hat := rSub_at ER.out
                have HAT := Lib.hid hat
                have hk := HR2.out
                simp only [bR_ok] at hk
                have HR3 := Lib.hid hk
                clear hk hat
                obtain ⟨i1, hi1, hi1z, hi1s, hi1b⟩ := info_parts' info_sub
                obtain ⟨i2, hi2, hi2z, hi2s, hi2b⟩ := info_parts' info_subs1
                change wpAnyH _ _ _ _ _ (4 + 1 + 1 + 1) _ _ _
                refine push_three (i0 := 4) (i1 := 6) (i2 := 7) (d0 := 48) (d1 := 50) (d2 := 51) (v := (.slice m1.s.A m1.s.n m1.s.cap)) (u := .agg (sbA x)) (new := (sbA x)) (e := 84) (A := fun a => a.eval (.tmp 47) = .pointer (some ⟨P, 24, none⟩)) (C := fun Z => Z.cell? ⟨P, 24, none⟩ = some (.slice m1.s.A m1.s.n m1.s.cap)) (RY := fun Yc => Blk Yc R (rdrA s b2) 110 ∧ Mod (· = R) Y.drew Yc) (by kernel_rfl) (by kernel_rfl) (by kernel_rfl) (by kernel_rfl) (by kernel_rfl) (by decide) (by decide) (by decide) (by decide) (yld_load _ rfl rfl rfl rfl Tryd.underlying43) rfl (fun a d w hA hd => by rcases hd with rfl | rfl <;> exact (put_other (by decide) _).trans hA) c24 (fun Yc hY => by have q : Yc.cell? ⟨P, 24, none⟩ = some (.slice m1.s.A m1.s.n m1.s.cap) := (hY.2.cell (p := ⟨P, 24, none⟩) HPL.out (fun c => H2.out.ne c.symm)).trans c24; exact ⟨q, (World.cell?_alloc_past _ _ _ (World.block_lt_of_cell? Yc _ q)).trans q⟩) (fun K hK => ?_) (fun K hK => ?_) (mks_of _ rfl rfl rfl rfl Tryd.underlying43 hi1 hi1z hi1s (by decide) (by decide) (fill_five rfl)) rfl rfl (fun Yc hY => ?_)
                · refine' wpOp_of_wp ?hot44_0 ?hgt44_0 ?got44_0
                  case hot44_0 => (simp only [List.getElem?_toArray, List.getElem?_cons_succ, List.getElem?_cons_zero]; rfl)
                  case hgt44_0 => rfl
                  case got44_0 =>
                    go_simp
                    (with_reducible refine CR.out.mono ?_)
                    rintro e Yc ⟨uu, rfl, rfl, hb, hm⟩
                    exact hK Yc ⟨hb, hm⟩
                · refine' wpOp_of_wp ?hot44_1 ?hgt44_1 ?got44_1
                  case hot44_1 => (simp only [List.getElem?_toArray, List.getElem?_cons_succ, List.getElem?_cons_zero]; rfl)
                  case hgt44_1 => rfl
                  case got44_1 =>
                    go_simp
                    (with_reducible refine CR.out.mono ?_)
                    rintro e Yc ⟨uu, rfl, rfl, hb, hm⟩
                    exact hK Yc ⟨hb, hm⟩
                · obtain ⟨hb, hm⟩ := hY
                  have HYC := Lib.hid ((H2.out.drew 1).read hb hm HAT.out)
                  have HYA := Lib.hid (HYC.out.heap ((Below.refl _ _).alloc (Nat.le_refl _) (.cells (sbA x) 84)))
                  clear hb hm
                  change wpAnyH _ _ _ _ _ (3 + 1) _ _ _
                  refine push_app (i3 := 8) (d0 := 48) (d2 := 51) (d3 := 52) (B := w.heap.size) (size := 5) (n := q1.subs.length) (e := 84) (T := 43) (v := m1.s.v) (xs := (sbF q1.subs)) (cs := (sbA x)) (g := Yc.heap.size) _ rfl rfl rfl rfl (by kernel_rfl) Tryd.underlying43 hi1 hi1z hi1s hi1b rfl (by decide) rfl (fun y hy => by have := sb_one x; exact (Array.all_eq_true'.1 this) y (Array.mem_toList_iff.1 hy)) (by have := HLEN.out; omega) (by have := HLEN.out; omega) rfl rfl HYA.out.o.ss (Blk.new Yc (sbA x) 84) (by have := HYA.out.md.size; exact this) ?_
                  intro v' w9 hs9 hg9 _
                  obtain ⟨g1, g2, -, -, -⟩ := HYA.out.grown HW.out HYA.out.o.ss (by decide) (by decide) hg9
                  have hv1 : v'.oneCell' = true := by obtain ⟨ao, cap, ev, -⟩ := hs9.form; rw [ev]; rfl
                  have c9 : w9.cell? ⟨P, 24, none⟩ = some (.slice m1.s.A m1.s.n m1.s.cap) := g2.cell 24
                  have f9 := g2.frozen 24
                  obtain ⟨m2, hm2⟩ := HYA.out.push_subs HW.out hs9 hg9
                  have H9 := Lib.hid hm2
                  clear hm2 g1 g2 hs9 hg9
                  simp only [Act.put, List.setIfInBounds_toArray, List.set_cons_succ, List.set_cons_zero]
                  refine' wpAnyH_takeD (i := 9) (d := 53) (v := ?v44_9) (hi := ?hi44_9) ?hd44_9 (by kernel_rfl) (by kernel_rfl) (by kernel_rfl) (fun _ _ _ h => h) (Or.inl ⟨?hw44_9, ?hy44_9⟩) trivial ?rest44_9
                  case hi44_9 => (simp only [List.getElem?_toArray, List.getElem?_cons_succ, List.getElem?_cons_zero]; rfl)
                  case hd44_9 => rfl
                  case hw44_9 => rfl
                  case hy44_9 => (intro W hW; go_simp; (try with_reducible rfl))
                  simp only [Act.put, List.setIfInBounds_toArray, List.set_cons_succ, List.set_cons_zero]
                  refine' wpAnyH_takeD (i := 10) (d := 54) (v := ?v44_10) (hi := ?hi44_10) ?hd44_10 (by kernel_rfl) (by kernel_rfl) (by kernel_rfl) (fun _ _ _ h => h) (Or.inl ⟨?hw44_10, ?hy44_10⟩) trivial ?rest44_10
                  case hi44_10 => (simp only [List.getElem?_toArray, List.getElem?_cons_succ, List.getElem?_cons_zero]; rfl)
                  case hd44_10 => rfl
                  case hw44_10 => rfl
                  case hy44_10 => (intro W hW; go_simp; (try with_reducible rfl))
                  simp only [Act.put, List.setIfInBounds_toArray, List.set_cons_succ, List.set_cons_zero]
                  refine wpAnyH_store (i := 11) (t := 54) (u := 52) (b := P) (f := 24) (v := v') (v0 := (.slice m1.s.A m1.s.n m1.s.cap)) _ rfl rfl rfl rfl hi2 hi2s (by kernel_rfl) (by kernel_rfl) rfl rfl hv1 c9 f9 trivial ?_
                  obtain ⟨Zf, hZf⟩ : ∃ Zf, w9.setCell ⟨P, 24, none⟩ v' = Zf := ⟨_, rfl⟩
                  rw [hZf] at H9 ⊢
                  clear hZf c9 f9 k0 c24
                  go_wp2
                  go_roundw
                  case rel => exact ⟨n + 1, _, m2, b2, by go_num, by omega, H9, Lib.hid HQ1.out, Lib.hid (HR3.out.trans (HR.out.symm.trans HI.out)), Lib.hid (fun c => absurd c (by omega)), Lib.hid (fun _ => HBS.out), Lib.hid (by have := HLEN.out; simp only [List.length_append, List.length_cons, List.length_nil]; omega)⟩
                  case measure => simp [intOf]; omega
            · have e8 : (p.kind == 8) = false := by simp [h8]
              by_cases h10 : p.kind = 10
              · have e10 : (p.kind == 10) = true := by simp [h10]
                have h10q := HQ1.out.trans h10
                have h8q : ¬ q1.kind = 8 := fun c => h8 (HQ1.out.symm.trans c)
                clear h8 h10
                rw [if_neg h8q, if_pos h10q] at hk
                obtain ⟨r, hr⟩ : ∃ r, rText s b1 = r := ⟨_, rfl⟩
                rw [hr] at hk
                have CR := Lib.hid (rtext_any R s b1 Y.drew (H2.out.drew 1).rB H2.out.sz H2.out.a0 H2.out.a1 ((H2.out.drew 1).drew 1).tb)
                rw [hr] at CR
                have ER := Lib.hid hr; have HR2 := Lib.hid hk
                have c24 : Y.cell? ⟨P, 25, none⟩ = some (.slice m1.f.A m1.f.n m1.f.cap) := H2.out.pB.cell 25
                have HPL := Lib.hid H2.out.pB.lt
                clear hr hk
                go_wp2_with fail
                refine wp_region_held (S := T0) (by kernel_rfl) ?_
                change wpAnyH _ _ _ _ T0 _ _ _ Y.drew
                refine' wpAnyH_takeD (i := 0) (d := 57) (v := ?v57_0) (hi := ?hi57_0) ?hd57_0 (by kernel_rfl) (by kernel_rfl) (by kernel_rfl) (fun _ _ _ h => h) (Or.inl ⟨?hw57_0, ?hy57_0⟩) trivial ?rest57_0
                case hi57_0 => (simp only [List.getElem?_toArray, List.getElem?_cons_succ, List.getElem?_cons_zero]; rfl)
                case hd57_0 => rfl
                case hw57_0 => rfl
                case hy57_0 => (intro W hW; go_simp; (try with_reducible rfl))
                simp only [Act.put, List.setIfInBounds_toArray, List.set_cons_succ, List.set_cons_zero]
                refine' wpAnyH_takeD (i := 1) (d := 58) (v := ?v57_1) (hi := ?hi57_1) ?hd57_1 (by kernel_rfl) (by kernel_rfl) (by kernel_rfl) (fun _ _ _ h => h) (Or.inl ⟨?hw57_1, ?hy57_1⟩) trivial ?rest57_1
                case hi57_1 => (simp only [List.getElem?_toArray, List.getElem?_cons_succ, List.getElem?_cons_zero]; rfl)
                case hd57_1 => rfl
                case hw57_1 => rfl
                case hy57_1 => (intro W hW; go_simp; (try with_reducible rfl))
                simp only [Act.put, List.setIfInBounds_toArray, List.set_cons_succ, List.set_cons_zero]
                refine' wpAnyH_takeD (i := 2) (d := 59) (v := ?v57_2) (hi := ?hi57_2) ?hd57_2 (by kernel_rfl) (by kernel_rfl) (by kernel_rfl) (fun _ _ _ h => h) (Or.inl ⟨?hw57_2, ?hy57_2⟩) trivial ?rest57_2
                case hi57_2 => (simp only [List.getElem?_toArray, List.getElem?_cons_succ, List.getElem?_cons_zero]; rfl)
                case hd57_2 => rfl
                case hw57_2 => rfl
                case hy57_2 => (intro W hW; go_simp; (try with_reducible rfl))
                simp only [Act.put, List.setIfInBounds_toArray, List.set_cons_succ, List.set_cons_zero]
                refine' wpAnyH_takeD (i := 3) (d := 60) (v := ?v57_3) (hi := ?hi57_3) ?hd57_3 (by kernel_rfl) (by kernel_rfl) (by kernel_rfl) (fun _ _ _ h => h) (Or.inl ⟨?hw57_3, ?hy57_3⟩) trivial ?rest57_3
                case hi57_3 => (simp only [List.getElem?_toArray, List.getElem?_cons_succ, List.getElem?_cons_zero]; rfl)
                case hd57_3 => rfl
                case hw57_3 => rfl
                case hy57_3 => (intro W hW; go_simp; (try with_reducible rfl))
                simp only [Act.put, List.setIfInBounds_toArray, List.set_cons_succ, List.set_cons_zero]
                refine' wpAnyH_takeD (i := 5) (d := 62) (v := ?v57_5) (hi := ?hi57_5) ?hd57_5 (by kernel_rfl) (by kernel_rfl) (by kernel_rfl) (fun _ _ _ h => h) (Or.inl ⟨?hw57_5, ?hy57_5⟩) trivial ?rest57_5
                case hi57_5 => (simp only [List.getElem?_toArray, List.getElem?_cons_succ, List.getElem?_cons_zero]; rfl)
                case hd57_5 => rfl
                case hw57_5 => rfl
                case hy57_5 => (intro W hW; go_simp; (try with_reducible rfl))
                simp only [Act.put, List.setIfInBounds_toArray, List.set_cons_succ, List.set_cons_zero]
                cases r with
                | error c =>
                  change wpAnyH _ _ _ _ _ (5 + 1 + 1) _ _ _
                  refine push_stop (i0 := 4) (i1 := 6) (d0 := 61) (v := (.slice m1.f.A m1.f.n m1.f.cap)) (A := fun a => a.eval (.tmp 60) = .pointer (some ⟨P, 25, none⟩)) (C := fun Z => Z.cell? ⟨P, 25, none⟩ = some (.slice m1.f.A m1.f.n m1.f.cap)) (by kernel_rfl) (by kernel_rfl) (yld_load _ rfl rfl rfl rfl Tryd.underlying22) rfl c24 (fun K => ?_) (fun K => ?_)
                  · refine' wpOp_of_wp ?hos57_0 ?hgs57_0 ?gos57_0
                    case hos57_0 => (simp only [List.getElem?_toArray, List.getElem?_cons_succ, List.getElem?_cons_zero]; rfl)
                    case hgs57_0 => rfl
                    case gos57_0 =>
                      go_simp
                      (with_reducible refine CR.out.mono ?_)
                      rintro e Yc ⟨rfl, hm⟩
                      refine ⟨rfl, ?_⟩
                      have hk := HR2.out
                      simp only [bR_err] at hk
                      rw [← hk]
                      exact ⟨rfl, (H2.out.drew 1).goneR hm⟩
                  · refine' wpOp_of_wp ?hos57_1 ?hgs57_1 ?gos57_1
                    case hos57_1 => (simp only [List.getElem?_toArray, List.getElem?_cons_succ, List.getElem?_cons_zero]; rfl)
                    case hgs57_1 => rfl
                    case gos57_1 =>
                      go_simp
                      (with_reducible refine CR.out.mono ?_)
                      rintro e Yc ⟨rfl, hm⟩
                      refine ⟨rfl, ?_⟩
                      have hk := HR2.out
                      simp only [bR_err] at hk
                      rw [← hk]
                      exact ⟨rfl, (H2.out.drew 1).goneR hm⟩
                | ok v =>
                  obtain ⟨x, b2⟩ := v
                  have hat := rText_at ER.out
                  have HAT := Lib.hid hat
                  have hk := HR2.out
                  simp only [bR_ok] at hk
                  have HR3 := Lib.hid hk
                  clear hk hat
                  obtain ⟨i1, hi1, hi1z, hi1s, hi1b⟩ := info_parts' info_str5
                  obtain ⟨i2, hi2, hi2z, hi2s, hi2b⟩ := info_parts' info_strs1
                  change wpAnyH _ _ _ _ _ (4 + 1 + 1 + 1) _ _ _
                  refine push_three (i0 := 4) (i1 := 6) (i2 := 7) (d0 := 61) (d1 := 63) (d2 := 64) (v := (.slice m1.f.A m1.f.n m1.f.cap)) (u := .string x) (new := (#[.string x] : Array Value)) (e := 9) (A := fun a => a.eval (.tmp 60) = .pointer (some ⟨P, 25, none⟩)) (C := fun Z => Z.cell? ⟨P, 25, none⟩ = some (.slice m1.f.A m1.f.n m1.f.cap)) (RY := fun Yc => Blk Yc R (rdrA s b2) 110 ∧ Mod (· = R) Y.drew Yc) (by kernel_rfl) (by kernel_rfl) (by kernel_rfl) (by kernel_rfl) (by kernel_rfl) (by decide) (by decide) (by decide) (by decide) (yld_load _ rfl rfl rfl rfl Tryd.underlying22) rfl (fun a d w hA hd => by rcases hd with rfl | rfl <;> exact (put_other (by decide) _).trans hA) c24 (fun Yc hY => by have q : Yc.cell? ⟨P, 25, none⟩ = some (.slice m1.f.A m1.f.n m1.f.cap) := (hY.2.cell (p := ⟨P, 25, none⟩) HPL.out (fun c => H2.out.ne c.symm)).trans c24; exact ⟨q, (World.cell?_alloc_past _ _ _ (World.block_lt_of_cell? Yc _ q)).trans q⟩) (fun K hK => ?_) (fun K hK => ?_) (mks_of _ rfl rfl rfl rfl Tryd.underlying22 hi1 hi1z hi1s (by decide) (by decide) (fill_one rfl)) rfl rfl (fun Yc hY => ?_)
                  · refine' wpOp_of_wp ?hot57_0 ?hgt57_0 ?got57_0
                    case hot57_0 => (simp only [List.getElem?_toArray, List.getElem?_cons_succ, List.getElem?_cons_zero]; rfl)
                    case hgt57_0 => rfl
                    case got57_0 =>
                      go_simp
                      (with_reducible refine CR.out.mono ?_)
                      rintro e Yc ⟨uu, rfl, rfl, hb, hm⟩
                      exact hK Yc ⟨hb, hm⟩
                  · refine' wpOp_of_wp ?hot57_1 ?hgt57_1 ?got57_1
                    case hot57_1 => (simp only [List.getElem?_toArray, List.getElem?_cons_succ, List.getElem?_cons_zero]; rfl)
                    case hgt57_1 => rfl
                    case got57_1 =>
                      go_simp
                      (with_reducible refine CR.out.mono ?_)
                      rintro e Yc ⟨uu, rfl, rfl, hb, hm⟩
                      exact hK Yc ⟨hb, hm⟩
                  · obtain ⟨hb, hm⟩ := hY
                    have HYC := Lib.hid ((H2.out.drew 1).read hb hm HAT.out)
                    have HYA := Lib.hid (HYC.out.heap ((Below.refl _ _).alloc (Nat.le_refl _) (.cells (#[.string x] : Array Value) 9)))
                    clear hb hm
                    change wpAnyH _ _ _ _ _ (3 + 1) _ _ _
                    refine push_app (i3 := 8) (d0 := 61) (d2 := 64) (d3 := 65) (B := w.heap.size) (size := 1) (n := q1.filters.length) (e := 9) (T := 22) (v := m1.f.v) (xs := (q1.filters.map Value.string)) (cs := (#[.string x] : Array Value)) (g := Yc.heap.size) _ rfl rfl rfl rfl (by kernel_rfl) Tryd.underlying22 hi1 hi1z hi1s hi1b rfl (by decide) rfl (fun y hy => by simp at hy; subst hy; rfl) (by have := HLEN.out; omega) (by have := HLEN.out; omega) rfl rfl HYA.out.o.fs (Blk.new Yc (#[.string x] : Array Value) 9) (by have := HYA.out.md.size; exact this) ?_
                    intro v' w9 hs9 hg9 _
                    obtain ⟨g1, g2, -, -, -⟩ := HYA.out.grown HW.out HYA.out.o.fs (by decide) (by decide) hg9
                    have hv1 : v'.oneCell' = true := by obtain ⟨ao, cap, ev, -⟩ := hs9.form; rw [ev]; rfl
                    have c9 : w9.cell? ⟨P, 25, none⟩ = some (.slice m1.f.A m1.f.n m1.f.cap) := g2.cell 25
                    have f9 := g2.frozen 25
                    obtain ⟨m2, hm2⟩ := HYA.out.push_filters HW.out hs9 hg9
                    have H9 := Lib.hid hm2
                    clear hm2 g1 g2 hs9 hg9
                    simp only [Act.put, List.setIfInBounds_toArray, List.set_cons_succ, List.set_cons_zero]
                    refine' wpAnyH_takeD (i := 9) (d := 66) (v := ?v57_9) (hi := ?hi57_9) ?hd57_9 (by kernel_rfl) (by kernel_rfl) (by kernel_rfl) (fun _ _ _ h => h) (Or.inl ⟨?hw57_9, ?hy57_9⟩) trivial ?rest57_9
                    case hi57_9 => (simp only [List.getElem?_toArray, List.getElem?_cons_succ, List.getElem?_cons_zero]; rfl)
                    case hd57_9 => rfl
                    case hw57_9 => rfl
                    case hy57_9 => (intro W hW; go_simp; (try with_reducible rfl))
                    simp only [Act.put, List.setIfInBounds_toArray, List.set_cons_succ, List.set_cons_zero]
                    refine' wpAnyH_takeD (i := 10) (d := 67) (v := ?v57_10) (hi := ?hi57_10) ?hd57_10 (by kernel_rfl) (by kernel_rfl) (by kernel_rfl) (fun _ _ _ h => h) (Or.inl ⟨?hw57_10, ?hy57_10⟩) trivial ?rest57_10
                    case hi57_10 => (simp only [List.getElem?_toArray, List.getElem?_cons_succ, List.getElem?_cons_zero]; rfl)
                    case hd57_10 => rfl
                    case hw57_10 => rfl
                    case hy57_10 => (intro W hW; go_simp; (try with_reducible rfl))
                    simp only [Act.put, List.setIfInBounds_toArray, List.set_cons_succ, List.set_cons_zero]
                    refine wpAnyH_store (i := 11) (t := 67) (u := 65) (b := P) (f := 25) (v := v') (v0 := (.slice m1.f.A m1.f.n m1.f.cap)) _ rfl rfl rfl rfl hi2 hi2s (by kernel_rfl) (by kernel_rfl) rfl rfl hv1 c9 f9 trivial ?_
                    obtain ⟨Zf, hZf⟩ : ∃ Zf, w9.setCell ⟨P, 25, none⟩ v' = Zf := ⟨_, rfl⟩
                    rw [hZf] at H9 ⊢
                    clear hZf c9 f9 k0 c24
                    go_wp2
                    go_roundw
                    case rel => exact ⟨n + 1, _, m2, b2, by go_num, by omega, H9, Lib.hid HQ1.out, Lib.hid (HR3.out.trans (HR.out.symm.trans HI.out)), Lib.hid (fun c => absurd c (by omega)), Lib.hid (fun _ => HBS.out), Lib.hid (by have := HLEN.out; simp only [List.length_append, List.length_cons, List.length_nil]; omega)⟩
                    case measure => simp [intOf]; omega
              · have e10 : (p.kind == 10) = false := by simp [h10]
                have h10q : ¬ q1.kind = 10 := fun c => h10 (HQ1.out.symm.trans c)
                have h8q : ¬ q1.kind = 8 := fun c => h8 (HQ1.out.symm.trans c)
                clear h8 h10
                rw [if_neg h8q, if_neg h10q] at hk
                obtain ⟨r, hr⟩ : ∃ r, rNum s 1 b1 = r := ⟨_, rfl⟩
                rw [hr] at hk
                have CR := Lib.hid (rnum_any R s b1 1 Y.drew (H2.out.drew 1).rB H2.out.sz H2.out.a0 H2.out.a1)
                rw [hr] at CR
                have ER := Lib.hid hr; have HR2 := Lib.hid hk
                have c24 : Y.cell? ⟨P, 8, none⟩ = some (.slice m1.c.A m1.c.n m1.c.cap) := H2.out.pB.cell 8
                have HPL := Lib.hid H2.out.pB.lt
                clear hr hk
                go_wp2_with fail
                refine wp_region_held (S := T0) (by kernel_rfl) ?_
                change wpAnyH _ _ _ _ T0 _ _ _ Y.drew
                refine' wpAnyH_takeD (i := 0) (d := 30) (v := ?v30_0) (hi := ?hi30_0) ?hd30_0 (by kernel_rfl) (by kernel_rfl) (by kernel_rfl) (fun _ _ _ h => h) (Or.inl ⟨?hw30_0, ?hy30_0⟩) trivial ?rest30_0
                case hi30_0 => (simp only [List.getElem?_toArray, List.getElem?_cons_succ, List.getElem?_cons_zero]; rfl)
                case hd30_0 => rfl
                case hw30_0 => rfl
                case hy30_0 => (intro W hW; go_simp; (try with_reducible rfl))
                simp only [Act.put, List.setIfInBounds_toArray, List.set_cons_succ, List.set_cons_zero]
                refine' wpAnyH_takeD (i := 1) (d := 31) (v := ?v30_1) (hi := ?hi30_1) ?hd30_1 (by kernel_rfl) (by kernel_rfl) (by kernel_rfl) (fun _ _ _ h => h) (Or.inl ⟨?hw30_1, ?hy30_1⟩) trivial ?rest30_1
                case hi30_1 => (simp only [List.getElem?_toArray, List.getElem?_cons_succ, List.getElem?_cons_zero]; rfl)
                case hd30_1 => rfl
                case hw30_1 => rfl
                case hy30_1 => (intro W hW; go_simp; (try with_reducible rfl))
                simp only [Act.put, List.setIfInBounds_toArray, List.set_cons_succ, List.set_cons_zero]
                refine' wpAnyH_takeD (i := 2) (d := 32) (v := ?v30_2) (hi := ?hi30_2) ?hd30_2 (by kernel_rfl) (by kernel_rfl) (by kernel_rfl) (fun _ _ _ h => h) (Or.inl ⟨?hw30_2, ?hy30_2⟩) trivial ?rest30_2
                case hi30_2 => (simp only [List.getElem?_toArray, List.getElem?_cons_succ, List.getElem?_cons_zero]; rfl)
                case hd30_2 => rfl
                case hw30_2 => rfl
                case hy30_2 => (intro W hW; go_simp; (try with_reducible rfl))
                simp only [Act.put, List.setIfInBounds_toArray, List.set_cons_succ, List.set_cons_zero]
                refine' wpAnyH_takeD (i := 3) (d := 33) (v := ?v30_3) (hi := ?hi30_3) ?hd30_3 (by kernel_rfl) (by kernel_rfl) (by kernel_rfl) (fun _ _ _ h => h) (Or.inl ⟨?hw30_3, ?hy30_3⟩) trivial ?rest30_3
                case hi30_3 => (simp only [List.getElem?_toArray, List.getElem?_cons_succ, List.getElem?_cons_zero]; rfl)
                case hd30_3 => rfl
                case hw30_3 => rfl
                case hy30_3 => (intro W hW; go_simp; (try with_reducible rfl))
                simp only [Act.put, List.setIfInBounds_toArray, List.set_cons_succ, List.set_cons_zero]
                refine' wpAnyH_takeD (i := 5) (d := 35) (v := ?v30_5) (hi := ?hi30_5) ?hd30_5 (by kernel_rfl) (by kernel_rfl) (by kernel_rfl) (fun _ _ _ h => h) (Or.inl ⟨?hw30_5, ?hy30_5⟩) trivial ?rest30_5
                case hi30_5 => (simp only [List.getElem?_toArray, List.getElem?_cons_succ, List.getElem?_cons_zero]; rfl)
                case hd30_5 => rfl
                case hw30_5 => rfl
                case hy30_5 => (intro W hW; go_simp; (try with_reducible rfl))
                simp only [Act.put, List.setIfInBounds_toArray, List.set_cons_succ, List.set_cons_zero]
                cases r with
                | error c =>
                  change wpAnyH _ _ _ _ _ (6 + 1 + 1) _ _ _
                  refine push_stop (i0 := 4) (i1 := 6) (d0 := 34) (v := (.slice m1.c.A m1.c.n m1.c.cap)) (A := fun a => a.eval (.tmp 33) = .pointer (some ⟨P, 8, none⟩)) (C := fun Z => Z.cell? ⟨P, 8, none⟩ = some (.slice m1.c.A m1.c.n m1.c.cap)) (by kernel_rfl) (by kernel_rfl) (yld_load _ rfl rfl rfl rfl Tryd.underlying39) rfl c24 (fun K => ?_) (fun K => ?_)
                  · refine' wpOp_of_wp ?hos30_0 ?hgs30_0 ?gos30_0
                    case hos30_0 => (simp only [List.getElem?_toArray, List.getElem?_cons_succ, List.getElem?_cons_zero]; rfl)
                    case hgs30_0 => rfl
                    case gos30_0 =>
                      go_simp
                      (with_reducible refine CR.out.mono ?_)
                      rintro e Yc ⟨rfl, hm⟩
                      refine ⟨rfl, ?_⟩
                      have hk := HR2.out
                      simp only [bR_err] at hk
                      rw [← hk]
                      exact ⟨rfl, (H2.out.drew 1).goneR hm⟩
                  · refine' wpOp_of_wp ?hos30_1 ?hgs30_1 ?gos30_1
                    case hos30_1 => (simp only [List.getElem?_toArray, List.getElem?_cons_succ, List.getElem?_cons_zero]; rfl)
                    case hgs30_1 => rfl
                    case gos30_1 =>
                      go_simp
                      (with_reducible refine CR.out.mono ?_)
                      rintro e Yc ⟨rfl, hm⟩
                      refine ⟨rfl, ?_⟩
                      have hk := HR2.out
                      simp only [bR_err] at hk
                      rw [← hk]
                      exact ⟨rfl, (H2.out.drew 1).goneR hm⟩
                | ok v =>
                  obtain ⟨x, b2⟩ := v
                  have hat := rNum_at ER.out
                  have HAT := Lib.hid hat
                  obtain ⟨hx0, hx1⟩ := rNum_byte ER.out
                  have hk := HR2.out
                  simp only [bR_ok] at hk
                  have HR3 := Lib.hid hk
                  clear hk hat
                  obtain ⟨i1, hi1, hi1z, hi1s, hi1b⟩ := info_parts' info_code5
                  obtain ⟨i2, hi2, hi2z, hi2s, hi2b⟩ := info_parts' info_codes1
                  change wpAnyH _ _ _ _ _ (4 + 1 + 1 + 1 + 1) _ _ _
                  refine push_four (i0 := 4) (i1 := 6) (ic := 7) (i2 := 8) (d0 := 34) (d1 := 36) (dc := 37) (d2 := 38) (v := (.slice m1.c.A m1.c.n m1.c.cap)) (u := .int .i64 x) (uc := .int .u8 x) (new := (#[.int .u8 x] : Array Value)) (e := 30) (A := fun a => a.eval (.tmp 33) = .pointer (some ⟨P, 8, none⟩)) (C := fun Z => Z.cell? ⟨P, 8, none⟩ = some (.slice m1.c.A m1.c.n m1.c.cap)) (RY := fun Yc => Blk Yc R (rdrA s b2) 110 ∧ Mod (· = R) Y.drew Yc) (by kernel_rfl) (by kernel_rfl) (by kernel_rfl) (by kernel_rfl) (by kernel_rfl) (by kernel_rfl) (by kernel_rfl) (by decide) (by decide) (by decide) (by decide) (by decide) (by decide) (by decide) (yld_load _ rfl rfl rfl rfl Tryd.underlying39) rfl (fun a d w hA hd => by rcases hd with rfl | rfl | rfl <;> exact (put_other (by decide) _).trans hA) c24 (fun Yc hY => by have q : Yc.cell? ⟨P, 8, none⟩ = some (.slice m1.c.A m1.c.n m1.c.cap) := (hY.2.cell (p := ⟨P, 8, none⟩) HPL.out (fun c => H2.out.ne c.symm)).trans c24; exact ⟨q, (World.cell?_alloc_past _ _ _ (World.block_lt_of_cell? Yc _ q)).trans q⟩) (fun K hK => ?_) (fun K hK => ?_) (yld_conv _ rfl rfl rfl rfl (fun w => conv_byte hx0 hx1 w)) (mks_of _ rfl rfl rfl rfl Tryd.underlying39 hi1 hi1z hi1s (by decide) (by decide) (fill_one rfl)) (by simp) (by simp) (fun Yc hY => ?_)
                  · refine' wpOp_of_wp ?hot30_0 ?hgt30_0 ?got30_0
                    case hot30_0 => (simp only [List.getElem?_toArray, List.getElem?_cons_succ, List.getElem?_cons_zero]; rfl)
                    case hgt30_0 => rfl
                    case got30_0 =>
                      go_simp
                      (with_reducible refine CR.out.mono ?_)
                      rintro e Yc ⟨uu, rfl, rfl, hb, hm⟩
                      exact hK Yc ⟨hb, hm⟩
                  · refine' wpOp_of_wp ?hot30_1 ?hgt30_1 ?got30_1
                    case hot30_1 => (simp only [List.getElem?_toArray, List.getElem?_cons_succ, List.getElem?_cons_zero]; rfl)
                    case hgt30_1 => rfl
                    case got30_1 =>
                      go_simp
                      (with_reducible refine CR.out.mono ?_)
                      rintro e Yc ⟨uu, rfl, rfl, hb, hm⟩
                      exact hK Yc ⟨hb, hm⟩
                  · obtain ⟨hb, hm⟩ := hY
                    have HYC := Lib.hid ((H2.out.drew 1).read hb hm HAT.out)
                    have HYA := Lib.hid (HYC.out.heap ((Below.refl _ _).alloc (Nat.le_refl _) (.cells (#[.int .u8 x] : Array Value) 30)))
                    clear hb hm
                    change wpAnyH _ _ _ _ _ (3 + 1) _ _ _
                    refine push_app (i3 := 9) (d0 := 34) (d2 := 38) (d3 := 39) (B := w.heap.size) (size := 1) (n := q1.codes.length) (e := 30) (T := 39) (v := m1.c.v) (xs := (q1.codes.map (Value.int .u8))) (cs := (#[.int .u8 x] : Array Value)) (g := Yc.heap.size) _ rfl rfl rfl rfl (by kernel_rfl) Tryd.underlying39 hi1 hi1z hi1s hi1b rfl (by decide) rfl (fun y hy => by simp at hy; subst hy; rfl) (by have := HLEN.out; omega) (by have := HLEN.out; omega) rfl rfl HYA.out.o.cs (Blk.new Yc (#[.int .u8 x] : Array Value) 30) (by have := HYA.out.md.size; exact this) ?_
                    intro v' w9 hs9 hg9 _
                    obtain ⟨g1, g2, -, -, -⟩ := HYA.out.grown HW.out HYA.out.o.cs (by decide) (by decide) hg9
                    have hv1 : v'.oneCell' = true := by obtain ⟨ao, cap, ev, -⟩ := hs9.form; rw [ev]; rfl
                    have c9 : w9.cell? ⟨P, 8, none⟩ = some (.slice m1.c.A m1.c.n m1.c.cap) := g2.cell 8
                    have f9 := g2.frozen 8
                    obtain ⟨m2, hm2⟩ := HYA.out.push_codes HW.out hs9 hg9
                    have H9 := Lib.hid hm2
                    clear hm2 g1 g2 hs9 hg9
                    simp only [Act.put, List.setIfInBounds_toArray, List.set_cons_succ, List.set_cons_zero]
                    refine' wpAnyH_takeD (i := 10) (d := 40) (v := ?v30_10) (hi := ?hi30_10) ?hd30_10 (by kernel_rfl) (by kernel_rfl) (by kernel_rfl) (fun _ _ _ h => h) (Or.inl ⟨?hw30_10, ?hy30_10⟩) trivial ?rest30_10
                    case hi30_10 => (simp only [List.getElem?_toArray, List.getElem?_cons_succ, List.getElem?_cons_zero]; rfl)
                    case hd30_10 => rfl
                    case hw30_10 => rfl
                    case hy30_10 => (intro W hW; go_simp; (try with_reducible rfl))
                    simp only [Act.put, List.setIfInBounds_toArray, List.set_cons_succ, List.set_cons_zero]
                    refine' wpAnyH_takeD (i := 11) (d := 41) (v := ?v30_11) (hi := ?hi30_11) ?hd30_11 (by kernel_rfl) (by kernel_rfl) (by kernel_rfl) (fun _ _ _ h => h) (Or.inl ⟨?hw30_11, ?hy30_11⟩) trivial ?rest30_11
                    case hi30_11 => (simp only [List.getElem?_toArray, List.getElem?_cons_succ, List.getElem?_cons_zero]; rfl)
                    case hd30_11 => rfl
                    case hw30_11 => rfl
                    case hy30_11 => (intro W hW; go_simp; (try with_reducible rfl))
                    simp only [Act.put, List.setIfInBounds_toArray, List.set_cons_succ, List.set_cons_zero]
                    refine wpAnyH_store (i := 12) (t := 41) (u := 39) (b := P) (f := 8) (v := v') (v0 := (.slice m1.c.A m1.c.n m1.c.cap)) _ rfl rfl rfl rfl hi2 hi2s (by kernel_rfl) (by kernel_rfl) rfl rfl hv1 c9 f9 trivial ?_
                    obtain ⟨Zf, hZf⟩ : ∃ Zf, w9.setCell ⟨P, 8, none⟩ v' = Zf := ⟨_, rfl⟩
                    rw [hZf] at H9 ⊢
                    clear hZf c9 f9 k0 c24
                    go_wp2
                    go_roundw
                    case rel => exact ⟨n + 1, _, m2, b2, by go_num, by omega, H9, Lib.hid HQ1.out, Lib.hid (HR3.out.trans (HR.out.symm.trans HI.out)), Lib.hid (fun c => absurd c (by omega)), Lib.hid (fun _ => HBS.out), Lib.hid (by have := HLEN.out; simp only [List.length_append, List.length_cons, List.length_nil]; omega)⟩
                    case measure => simp [intOf]; omega
          · have hnI : (64 : Int) ≤ (n : Int) := by omega
            have hk := HR.out
            rw [show 64 - n = 0 from by omega, rItems_full hl] at hk
            go_wp2_with fail
            (with_reducible refine (fail_any _ _).mono ?_)
            rintro e YF ⟨rfl, rfl⟩
            refine ⟨rfl, ?_⟩
            rw [← hk]
            exact ⟨rfl, H2.out.gone⟩
        · have hd : decide (b1 < (s.size : Int)) = false := by simp [hl]
          rw [hd]
          by_cases hz : n = 0
          · subst hz
            have hk := HK6.out
            rw [if_neg (by rw [← HN0.out rfl]; exact hl)] at hk
            go_wp2_with fail
            (with_reducible refine (fail_any _ _).mono ?_)
            rintro e YF ⟨rfl, rfl⟩
            refine ⟨rfl, ?_⟩
            rw [← hk]
            exact ⟨rfl, H2.out.gone⟩
          · have hk := HK6.out
            rw [if_pos (HN1.out (by omega)), ← HI.out, rItems_end hl] at hk
            have hz2 : ((n : Int) == 0) = false := by rw [beq_eq_false_iff_ne]; omega
            go_wp2
            go_end0
            rw [← hk]
            exact ⟨rfl, _, H2.out⟩
end Go.Proofs.YtedapgeabpadaaaDoor

