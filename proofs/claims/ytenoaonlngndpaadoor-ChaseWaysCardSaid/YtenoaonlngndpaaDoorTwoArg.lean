/- An array of two numbers as an argument. -/
import Derived.Test.YtenoaonlngndpaaDoorAvArg
namespace Go.Proofs.YtenoaonlngndpaaDoor
open Go.ChangeShapes Go.WideShapes Go.RowKit Go.Deep Pl
set_option linter.unusedVariables false

set_option maxRecDepth 100000 in
theorem open_two_arg {H : Type} {enc : TypeId × Value → H} {w : World} {v : Value} {d : DataW H} {p : List MemPlace} {r : Reach} {b0 : Nat} (hv : Value.okWide Tryd.prog w r b0 23 v) (h : DataW.Trod enc Tryd.prog w 0 (fun _ => true) true 23 v d p) :
    ∃ z : Int × Int, (v = .agg #[.int .i64 z.1, .int .i64 z.2] ∧ -9223372036854775808 ≤ z.1 ∧ z.1 ≤ 9223372036854775807 ∧ -9223372036854775808 ≤ z.2 ∧ z.2 ≤ 9223372036854775807) ∧ True := by
  obtain ⟨fuel, hf⟩ := h
  have hv2 := hv
  simp only [Value.okWide, Tryd.underlying23] at hv2
  obtain ⟨cs, rfl, hsz, _⟩ := hv2
  have k3 : Tryd.prog.cellsOf 3 = 1 := by kernel_rfl
  have k2 : Tryd.prog.cellsOf 23 = 2 := by kernel_rfl
  rw [k2] at hsz
  obtain ⟨xs, m, _, _, hl, hxl, hg⟩ := DataW.trod_array Tryd.underlying23 hf
  obtain ⟨l⟩ := cs
  match l, hsz with
  | [v0, v1], _ =>
    match xs, hxl with
    | [x0, x1], _ =>
      have h0 : DataW.trod enc Tryd.prog w 0 (fun _ => true) true m 3 [v0] = some x0 := by simpa [k3, Value.cells] using hg 0 (by omega)
      have h1 : DataW.trod enc Tryd.prog w 0 (fun _ => true) true m 3 [v1] = some x1 := by simpa [k3, Value.cells] using hg 1 (by omega)
      obtain ⟨i0, e0, _, z0⟩ := DataW.trod_int Tryd.underlying3 h0
      obtain ⟨i1, e1, _, z1⟩ := DataW.trod_int Tryd.underlying3 h1
      simp only [List.cons.injEq, and_true] at e0 e1
      subst e0 e1
      have hb0 := i64_bd z0
      have hb1 := i64_bd z1
      exact ⟨(i0, i1), ⟨rfl, hb0.1, hb0.2, hb1.1, hb1.2⟩, trivial⟩
end Go.Proofs.YtenoaonlngndpaaDoor
