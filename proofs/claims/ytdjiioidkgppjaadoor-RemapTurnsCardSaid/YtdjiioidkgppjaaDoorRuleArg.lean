/- What the form's reading says of an argument that is a rule. -/
import Derived.Test.YtdjiioidkgppjaaDoorRows
import Derived.Test.YtdjiioidkgppjaaDoorRemapPlain
import Derived.WalkKit
import Derived.ProofKit
import Derived.OpenShut
import Derived.ShutString
import Derived.Lib.SmallJoins
import Derived.SizedLaws
import Derived.Deep.Fields
namespace Go.Proofs.YtdjiioidkgppjaaDoor
open Go.Joins Go.ChangeShapes Go.WideShapes Go.RowKit Go.Deep Pl
set_option linter.unusedVariables false

section
variable {H : Type} {enc : TypeId × Value → H} {P : Program} {w : World} {base : Nat} {spare : Nat → Bool} {held : Bool}
theorem open_agg5 {r : Reach} {b0 : Nat} {t : TypeId} {f0 f1 f2 f3 f4 : Field} {v : Value} {d : DataW H} {p : List MemPlace} (hs : P.underlying t = some (.struct #[f0, f1, f2, f3, f4])) (hone : oneCellFields P #[f0, f1, f2, f3, f4] = true) (hC : P.cellsOf t = 5)
    (hv : Value.okWide P w r b0 t v) (h : DataW.Trod enc P w base spare held t v d p) :
    ∃ (v0 v1 v2 v3 v4 : Value) (y0 y1 y2 y3 y4 : DataW H × List MemPlace) (n : Nat), v = .agg #[v0, v1, v2, v3, v4] ∧ d = .agg [y0.1, y1.1, y2.1, y3.1, y4.1] ∧ p = y0.2 ++ (y1.2 ++ (y2.2 ++ (y3.2 ++ y4.2))) ∧
      DataW.trod enc P w base spare held n f0.type [v0] = some y0 ∧ DataW.trod enc P w base spare held n f1.type [v1] = some y1 ∧ DataW.trod enc P w base spare held n f2.type [v2] = some y2 ∧ DataW.trod enc P w base spare held n f3.type [v3] = some y3 ∧ DataW.trod enc P w base spare held n f4.type [v4] = some y4 := by
  obtain ⟨cs, rfl, hsz⟩ := okWide_struct hs hv
  obtain ⟨l⟩ := cs
  match l, hsz.trans hC with
  | [c0, c1, c2, c3, c4], _ =>
    obtain ⟨fuel, hf⟩ := h
    obtain ⟨xs, n, _, hx, _, hlen, hg⟩ := DataW.trod_struct hs hf
    obtain ⟨o0, k0⟩ := hone_of hone 0 f0 rfl
    obtain ⟨o1, k1⟩ := hone_of hone 1 f1 rfl
    obtain ⟨o2, k2⟩ := hone_of hone 2 f2 rfl
    obtain ⟨o3, k3⟩ := hone_of hone 3 f3 rfl
    obtain ⟨o4, k4⟩ := hone_of hone 4 f4 rfl
    match xs, hlen with
    | [y0, y1, y2, y3, y4], _ =>
      simp only [Prod.mk.injEq] at hx
      exact ⟨c0, c1, c2, c3, c4, y0, y1, y2, y3, y4, n, rfl, by simpa using hx.1, by simpa using hx.2, by simpa [Value.cells, o0, k0] using hg 0 f0 rfl, by simpa [Value.cells, o1, k1] using hg 1 f1 rfl, by simpa [Value.cells, o2, k2] using hg 2 f2 rfl, by simpa [Value.cells, o3, k3] using hg 3 f3 rfl, by simpa [Value.cells, o4, k4] using hg 4 f4 rfl⟩
end
theorem open_rule_arg {H : Type} {enc : TypeId × Value → H} {w : World} {v : Value} {d : DataW H} {p : List MemPlace} {r : Reach} {b0 : Nat}
    (hsz : ∀ n ∈ d.weights Tryd.prog 23, n ≤ reachBytes) (hv : Value.okWide Tryd.prog w r b0 23 v) (h : DataW.Trod enc Tryd.prog w 0 (fun _ => true) true 23 v d p) :
    ∃ x : Rl, (v = ruV x ∧ x.fits) ∧ True := by
  obtain ⟨v0, v1, v2, v3, v4, y0, y1, y2, y3, y4, n, rfl, rfl, _, h0, h1, h2, h3, h4⟩ := open_agg5 Tryd.underlying23 (by kernel_rfl) (by kernel_rfl) hv h
  obtain ⟨s0, e0, x0, z0⟩ := DataW.trod_string Tryd.underlying9 h0
  obtain ⟨s3, e3, x3, z3⟩ := DataW.trod_string Tryd.underlying9 h3
  obtain ⟨s4, e4, x4, z4⟩ := DataW.trod_string Tryd.underlying9 h4
  obtain ⟨i1, e1, x1, w1⟩ := DataW.trod_int Tryd.underlying3 h1
  obtain ⟨i2, e2, x2, w2⟩ := DataW.trod_int Tryd.underlying3 h2
  simp only [List.cons.injEq, and_true] at e0 e1 e2 e3 e4
  subst e0; subst e1; subst e2; subst e3; subst e4
  subst x0; subst x1; subst x2; subst x3; subst x4
  simp only [DataW.weights, Tryd.underlying23, DataW.weightsEach, List.map_cons, List.map_nil, List.append_nil, List.cons_append, List.nil_append, List.mem_cons, List.not_mem_nil, or_false] at hsz
  have hb1 := i64_bd w1
  have hb2 := i64_bd w2
  exact ⟨⟨s0, i1, i2, s3, s4⟩, ⟨rfl, size_reach (hsz _ (.inl rfl)), size_reach (hsz _ (.inr (.inl rfl))), size_reach (hsz _ (.inr (.inr rfl))), hb1.1, hb1.2, hb2.1, hb2.2⟩, trivial⟩
end Go.Proofs.YtdjiioidkgppjaaDoor
