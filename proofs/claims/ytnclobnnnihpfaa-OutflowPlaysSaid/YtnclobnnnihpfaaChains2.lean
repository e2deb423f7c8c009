/- The four operations of a chain, each shown from what the frame holds. Over whatever program. -/
import Derived.Test.YtnclobnnnihpfaaChains
import Derived.Great.BuildSlice
namespace Go.Proofs.Ytnclobnnnihpfaa
set_option linter.unusedVariables false
open Go.RowKit

theorem cells_one {v : Value} (h : v.oneCell' = true) : v.cells = #[v] := by cases v <;> first | rfl | cases h
theorem run_storeAt_one {P : Program} {w : World} {ty : TypeId} {i : TypeInfo} {a : Addr} {v u : Value} (hi : P.info? ty = some i) (hs : i.size = 1) (hv : v.oneCell' = true) (hc : w.cell? a = some u) (hf : w.frozen? a = false) :
    (Instr.storeAt ty (.pointer (some a)) v).run P w = .ok () (w.setCell a v) := by
  have ha : a.add 0 = a := by simp [Addr.add]
  simp [Instr.storeAt, Instr.sureAddr, storeVar, sizeOf, typeInfo, hi, hs, cells_one hv, storeCells, ha, run_store _ _ _ _ _ hv, hc, hf]
theorem run_loadAt_slice {P : Program} {w : World} {ty e : TypeId} {a : Addr} {v : Value} (hu : P.underlying ty = some (.slice e)) (hc : w.cell? a = some v) :
    (Instr.loadAt ty (.pointer (some a))).run P w = .ok v w := by
  simp [Instr.loadAt, Instr.sureAddr, loadVar, isAgg, underlying, hu, run_load, hc]
theorem run_loadAt_row {P : Program} (w : World) (g : Nat) (t ty : TypeId) (cs : Array Value) (fr : Nat × Nat) (d : TypeDesc) (hg : w.heap[g]? = some (.cells cs t fr))
    (hu : P.underlying ty = some d) (hd : (match d with | .struct _ | .array _ _ => true | _ => false) = true) (hi : (P.info? ty).map (·.size) = some cs.size) :
    (Instr.loadAt ty (.pointer (some ⟨g, 0, none⟩))).run P w = .ok (.agg cs) w := by
  simp [Instr.loadAt, Instr.sureAddr, run_loadVar_row w g t ty cs fr d hg hu hd hi]
section
variable {P : Program} {ops : Array Oper} {D : List Nat} {a0 : Act}
theorem mk_load {i0 d1 t b k : Nat} {T e : TypeId} {v : Value} (o : Oper) (ho : ops[i0]? = some o) (hg : o.guard = none) (hd : o.dst = some d1) (hop : o.op = .load T (.tmp t)) (ht : t ∉ D) (hp : a0.eval (.tmp t) = .pointer (some ⟨b, k, none⟩)) (hu : P.underlying T = some (.slice e)) :
    ∃ o, ops[i0]? = some o ∧ o.guard = none ∧ o.dst = some d1 ∧ ∀ a w, Agr D a0 a → w.cell? ⟨b, k, none⟩ = some v → (execOp a.eval o).run P w = .ok (.value v) w := by
  refine ⟨o, ho, hg, hd, fun a w hag hc => ?_⟩
  have h := (hag.eval ht).trans hp
  unfold execOp
  simp only [hop, h, Sem.run_bind, run_loadAt_slice hu hc, Result.andThen_ok, Sem.run_pure]
theorem mk_make {i1 d2 t : Nat} {T e : TypeId} {i : TypeInfo} {z v : Value} {new : Array Value} (o : Oper) (ho : ops[i1]? = some o) (hg : o.guard = none) (hd : o.dst = some d2) (hop : o.op = .buildSlice T 1 #[(0, .tmp t)]) (ht : t ∉ D) (hp : a0.eval (.tmp t) = v)
    (hu : P.underlying T = some (.slice e)) (hi : P.info? e = some i) (hz : i.zero = some z) {sz : Nat} (hs : i.size = sz) (h1 : ¬ 1 * sz > 2 ^ 24) (hn : ¬ 1 * sz = 0) (hf : Instr.fill (fun k => some (k * sz, sz)) ((Array.range (1 * sz)).map (z.cells[· % z.cells.size]!)) [(0, v)] = some new) :
    ∃ o, ops[i1]? = some o ∧ o.guard = none ∧ o.dst = some d2 ∧ ∀ a w, Agr D a0 a → (execOp a.eval o).run P w = .ok (.value (.slice (some ⟨w.heap.size, 0, none⟩) 1 1)) (w.alloc (.cells new e)) := by
  subst hs
  refine ⟨o, ho, hg, hd, fun a w hag => ?_⟩
  have h := (hag.eval ht).trans hp
  unfold execOp
  simp only [hop, List.map_toArray, List.map_cons, List.map_nil, h, Sem.run_bind, run_buildSlice w T e 1 #[(0, v)] new i z hu hi hz h1 hn hf, Result.andThen_ok, Sem.run_pure]
theorem mk_fa {i3 d4 t b k s : Nat} {j : Nat} (o : Oper) (ho : ops[i3]? = some o) (hg : o.guard = none) (hd : o.dst = some d4) (hop : o.op = .fieldAddr s (.tmp t) j) (ht : t ∉ D) (hp : a0.eval (.tmp t) = .pointer (some ⟨b, 0, none⟩)) (h : ∀ w, (Instr.fieldAt s (.pointer (some ⟨b, 0, none⟩)) j).run P w = .ok (.pointer (some ⟨b, k, none⟩)) w) :
    ∃ o, ops[i3]? = some o ∧ o.guard = none ∧ o.dst = some d4 ∧ ∀ a w, Agr D a0 a → (execOp a.eval o).run P w = .ok (.value (.pointer (some ⟨b, k, none⟩))) w := by
  refine ⟨o, ho, hg, hd, fun a w hag => ?_⟩
  have hh := (hag.eval ht).trans hp
  unfold execOp
  simp only [hop, hh, h, Sem.run_bind, Result.andThen_ok, Sem.run_pure]
theorem mk_put {i4 d3 d4 b k : Nat} {T : TypeId} {i : TypeInfo} (o : Oper) (ho : ops[i4]? = some o) (hg : o.guard = none) (hd : o.dst = none) (hop : o.op = .store T (.tmp d4) (.tmp d3)) (hi : P.info? T = some i) (hs : i.size = 1) :
    ∃ o, ops[i4]? = some o ∧ o.guard = none ∧ o.dst = none ∧ ∀ (a : Act) (w : World) (v u : Value), a.eval (.tmp d4) = .pointer (some ⟨b, k, none⟩) → a.eval (.tmp d3) = v → v.oneCell' = true → w.cell? ⟨b, k, none⟩ = some u → w.frozen? ⟨b, k, none⟩ = false → (execOp a.eval o).run P w = .ok .skip (w.setCell ⟨b, k, none⟩ v) := by
  refine ⟨o, ho, hg, hd, fun a w v u h hv h1 hc hf => ?_⟩
  unfold execOp
  simp only [hop, h, hv, Sem.run_bind, run_storeAt_one hi hs h1 hc hf, Result.andThen_ok, Sem.run_pure]
theorem range_one : Array.range (1 * 1) = #[0] := by rfl
theorem fill_one {z v : Value} (h : v.oneCell' = true) : Instr.fill (fun k => some (k * 1, 1)) ((Array.range (1 * 1)).map (z.cells[· % z.cells.size]!)) [(0, v)] = some #[v] := by
  have hc : v.cells = #[v] := by cases v <;> first | rfl | cases h
  rw [range_one]
  simp [Instr.fill, hc]
theorem fill_five {z v a b c d e : Value} (h : v.cells = #[a, b, c, d, e]) : Instr.fill (fun k => some (k * 5, 5)) ((Array.range (1 * 5)).map (z.cells[· % z.cells.size]!)) [(0, v)] = some #[a, b, c, d, e] := by
  have hr : Array.range (1 * 5) = #[0, 1, 2, 3, 4] := by rfl
  rw [hr]
  simp [Instr.fill, h]
/-! Pure operations, yielding whatever the world. -/
theorem y_field {S : World → Prop} {a : Act} {s t b k : Nat} {j : Nat} (o : Oper) (hg : o.guard = none) (hop : o.op = .fieldAddr s (.tmp t) j) (ht : a.eval (.tmp t) = .pointer (some ⟨b, 0, none⟩)) (h : ∀ w, (Instr.fieldAt s (.pointer (some ⟨b, 0, none⟩)) j).run P w = .ok (.pointer (some ⟨b, k, none⟩)) w) :
    YieldsIf P ops S o (.pointer (some ⟨b, k, none⟩)) a := by
  refine Or.inl ⟨by simp [Region.wanted, hg], fun w _ => ?_⟩
  unfold execOp
  simp only [hop, ht, Sem.run_bind, h, Result.andThen_ok, Sem.run_pure]
theorem y_move {S : World → Prop} {a : Act} {t : Nat} {v : Value} (o : Oper) (hg : o.guard = none) (hop : o.op = .move (.tmp t)) (ht : a.eval (.tmp t) = v) : YieldsIf P ops S o v a := by
  refine Or.inl ⟨by simp [Region.wanted, hg], fun w _ => ?_⟩
  unfold execOp
  simp only [hop, ht, Sem.run_pure]
theorem y_load {S : World → Prop} {a : Act} {t b : Nat} {T : TypeId} {cs : Array Value} (o : Oper) (hg : o.guard = none) (hop : o.op = .load T (.tmp t)) (ht : a.eval (.tmp t) = .pointer (some ⟨b, 0, none⟩)) (h : ∀ w, S w → (Instr.loadAt T (.pointer (some ⟨b, 0, none⟩))).run P w = .ok (.agg cs) w) : YieldsIf P ops S o (.agg cs) a := by
  refine Or.inl ⟨by simp [Region.wanted, hg], fun w hw => ?_⟩
  unfold execOp
  simp only [hop, ht, Sem.run_bind, h w hw, Result.andThen_ok, Sem.run_pure]
theorem y_conv {S : World → Prop} {a : Act} {t : Nat} {s d : TypeId} {v u : Value} (o : Oper) (hg : o.guard = none) (hop : o.op = .convert s d (.tmp t)) (ht : a.eval (.tmp t) = u) (h : ∀ w, (convert s d u).run P w = .ok v w) : YieldsIf P ops S o v a := by
  refine Or.inl ⟨by simp [Region.wanted, hg], fun w _ => ?_⟩
  unfold execOp
  simp only [hop, ht, Sem.run_bind, h, Result.andThen_ok, Sem.run_pure]
theorem wpAnyH_takeD {Q : Exit → Act → World → Prop} {md : Region.Mode} {S : World → Prop} {i d : Nat} {oi : Oper} {v : Value} {fuel : Nat} {listed : Array Bool} {a : Act} {w : World} (hi : ops[i]? = some oi) (hd : oi.dst = some d)
    (hs : Region.noSelect ops = true) (hf : Region.free md ops listed i = true) (hr : (Region.ready md ops listed).contains i = true)
    (hQ : ∀ c a w, Q (.panic c) (a.put (some d) v) w → Q (.panic c) a w) (hy : YieldsIf P ops S oi v a) (hS : S w)
    (h : wpAnyH P md ops Q S fuel (listed.setIfInBounds i true) (a.put (some d) v) w) : wpAnyH P md ops Q S (fuel + 1) listed a w :=
  wpAnyH_take hi hs hf hr (by rw [hd]; exact hQ) hy hS (by rw [hd]; exact h)
end
end Go.Proofs.Ytnclobnnnihpfaa
