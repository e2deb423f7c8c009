/- What the form's reading says of an argument that is a call of the script, or a slice of such. -/
import Derived.Test.YtnclobnnnihpfaaRows
import Derived.Test.YtnclobnnnihpfaaAct
import Derived.WalkKit
import Derived.ProofKit
import Derived.OpenShut
import Derived.ShutString
import Derived.SizedLaws
import Derived.Deep.Slices
import Derived.Deep.Fields
namespace Go.Proofs.Ytnclobnnnihpfaa
open Go.ChangeShapes Go.WideShapes Go.RowKit Go.Deep
set_option linter.unusedVariables false

/-- What a machine can hold. -/
structure Av.fits (a : Av) : Prop where
  c0 : 0 ≤ a.code
  c1 : a.code ≤ 255
  d0 : -9223372036854775808 ≤ a.act
  d1 : a.act ≤ 9223372036854775807
  k0 : -9223372036854775808 ≤ a.kind
  k1 : a.kind ≤ 9223372036854775807
  m0 : -9223372036854775808 ≤ a.most
  m1 : a.most ≤ 9223372036854775807
  q0 : -9223372036854775808 ≤ a.m.qos
  q1 : a.m.qos ≤ 9223372036854775807
  i0 : -9223372036854775808 ≤ a.id
  i1 : a.id ≤ 9223372036854775807
theorem cell_plain {w : World} {a : Addr} {v : Value} (h : w.cell? a = some v) : a.spot = none ∧ a.block < w.heap.size := by
  unfold World.cell? at h
  split at h
  · rename_i hg
    refine ⟨?_, (Array.getElem?_eq_some_iff.1 hg).1⟩
    split at h
    · cases h
    · rename_i hs; simpa using hs
  · cases h
/-- Calls, one behind the other. -/
def ARow (w : World) (a : Option Addr) (L : List Av) : Prop := 0 < L.length → ∃ b o, a = some ⟨b, o, none⟩ ∧ b < w.heap.size ∧ ∀ (i : Nat) q, L[i]? = some q → ∀ (j : Nat) u, (actA q).toList[j]? = some u → w.cell? ⟨b, o + i * 10 + j, none⟩ = some u
def SAct (w : World) (v : Value) (L : List Av) : Prop :=
  ((v = .slice none 0 0 ∧ L = []) ∨ ∃ a cap, v = .slice (some a) L.length cap ∧ L.length ≤ cap ∧ cap ≤ maxLen ∧ ARow w (some a) L) ∧ ∀ r ∈ L, r.fits
section
variable {H : Type} {enc : TypeId × Value → H} {w : World}
set_option maxRecDepth 100000 in
theorem readMsg {base : Nat} {spare : Nat → Bool} {held : Bool} {fuel : Nat} {cs : List Value} {x : DataW H × List MemPlace} (h : DataW.trod enc Try.prog w base spare held fuel 47 cs = some x) :
    ∃ m : OM, cs = (omA m).toList ∧ -9223372036854775808 ≤ m.qos ∧ m.qos ≤ 9223372036854775807 := by
  have k3 : Try.prog.cellsOf 3 = 1 := by kernel_rfl
  have k4 : Try.prog.cellsOf 4 = 1 := by kernel_rfl
  have k9 : Try.prog.cellsOf 9 = 1 := by kernel_rfl
  obtain ⟨xs, n, _, hx, hl, hxl, hf⟩ := DataW.trod_struct Try.underlying47 h
  have hl5 : cs.length = 5 := hl.trans (by kernel_rfl)
  match cs, hl5 with
  | [v0, v1, v2, v3, v4], _ =>
    match xs, hxl with
    | [x0, x1, x2, x3, x4], _ =>
      have h0 : DataW.trod enc Try.prog w base spare held n 9 [v0] = some x0 := by simpa [k9] using hf 0 _ rfl
      have h1 : DataW.trod enc Try.prog w base spare held n 9 [v1] = some x1 := by simpa [k9] using hf 1 _ rfl
      have h2 : DataW.trod enc Try.prog w base spare held n 3 [v2] = some x2 := by simpa [k3, k9] using hf 2 _ rfl
      have h3 : DataW.trod enc Try.prog w base spare held n 4 [v3] = some x3 := by simpa [k3, k4, k9] using hf 3 _ rfl
      have h4 : DataW.trod enc Try.prog w base spare held n 9 [v4] = some x4 := by simpa [k3, k4, k9] using hf 4 _ rfl
      obtain ⟨s0, e0, y0, z0⟩ := DataW.trod_string Try.underlying9 h0
      obtain ⟨s1, e1, y1, z1⟩ := DataW.trod_string Try.underlying9 h1
      obtain ⟨i2, e2, y2, z2⟩ := DataW.trod_int Try.underlying3 h2
      obtain ⟨b3, e3, y3⟩ := DataW.trod_bool Try.underlying4 h3
      obtain ⟨s4, e4, y4, z4⟩ := DataW.trod_string Try.underlying9 h4
      simp only [List.cons.injEq, and_true] at e0 e1 e2 e3 e4
      subst e0 e1 e2 e3 e4
      have hb := i64_bd z2
      exact ⟨⟨s0, s1, i2, b3, s4⟩, rfl, hb.1, hb.2⟩
set_option maxRecDepth 100000 in
theorem readAct {base : Nat} {spare : Nat → Bool} {held : Bool} {fuel : Nat} {cs : List Value} {x : DataW H × List MemPlace} (h : DataW.trod enc Try.prog w base spare held fuel 49 cs = some x) :
    ∃ a : Av, cs = (actA a).toList ∧ a.fits := by
  have k3 : Try.prog.cellsOf 3 = 1 := by kernel_rfl
  have k5 : Try.prog.cellsOf 47 = 5 := by kernel_rfl
  have k8 : Try.prog.cellsOf 5 = 1 := by kernel_rfl
  obtain ⟨xs, n, _, hx, hl, hxl, hf⟩ := DataW.trod_struct Try.underlying49 h
  have hl10 : cs.length = 10 := hl.trans (by kernel_rfl)
  match cs, hl10 with
  | [v0, v1, v2, v3, v4, v5, v6, v7, v8, v9], _ =>
    match xs, hxl with
    | [x0, x1, x2, x3, x4, x5], _ =>
      have h0 : DataW.trod enc Try.prog w base spare held n 3 [v0] = some x0 := by simpa [k3] using hf 0 _ rfl
      have h1 : DataW.trod enc Try.prog w base spare held n 47 [v1, v2, v3, v4, v5] = some x1 := by simpa [k5] using hf 1 _ rfl
      have h2 : DataW.trod enc Try.prog w base spare held n 3 [v6] = some x2 := by simpa [k3] using hf 2 _ rfl
      have h3 : DataW.trod enc Try.prog w base spare held n 3 [v7] = some x3 := by simpa [k3] using hf 3 _ rfl
      have h4 : DataW.trod enc Try.prog w base spare held n 5 [v8] = some x4 := by simpa [k8] using hf 4 _ rfl
      have h5 : DataW.trod enc Try.prog w base spare held n 3 [v9] = some x5 := by simpa [k3] using hf 5 _ rfl
      obtain ⟨i0, e0, y0, z0⟩ := DataW.trod_int Try.underlying3 h0
      obtain ⟨m, e1, q0, q1⟩ := readMsg h1
      obtain ⟨i2, e2, y2, z2⟩ := DataW.trod_int Try.underlying3 h2
      obtain ⟨i3, e3, y3, z3⟩ := DataW.trod_int Try.underlying3 h3
      obtain ⟨i4, e4, y4, z4⟩ := DataW.trod_int Try.underlying5 h4
      obtain ⟨i5, e5, y5, z5⟩ := DataW.trod_int Try.underlying3 h5
      simp only [omA, List.cons.injEq, and_true] at e0 e1 e2 e3 e4 e5
      obtain ⟨rfl, rfl, rfl, rfl, rfl⟩ := e1
      subst e0 e2 e3 e4 e5
      have b0 := i64_bd z0
      have b2 := i64_bd z2
      have b3 := i64_bd z3
      have b5 := i64_bd z5
      have b4 : IntKind.u8.min ≤ i4 ∧ i4 ≤ IntKind.u8.max := by simpa [Lit.wf] using z4
      have b4 : 0 ≤ i4 ∧ i4 ≤ 255 := b4
      exact ⟨⟨i0, m, i2, i3, i4, i5⟩, rfl, b4.1, b4.2, b0.1, b0.2, b2.1, b2.2, b5.1, b5.2, q0, q1, b3.1, b3.2⟩
set_option maxRecDepth 100000 in
theorem open_act_arg {v : Value} {d : DataW H} {p : List MemPlace} {r : Reach} {b0 : Nat} (hv : Value.okWide Try.prog w r b0 49 v) (h : DataW.Trod enc Try.prog w 0 (fun _ => true) true 49 v d p) :
    ∃ a : Av, (v = .agg (actA a) ∧ a.fits) ∧ True := by
  obtain ⟨fuel, hf⟩ := h
  obtain ⟨a, ha, hfit⟩ := readAct hf
  obtain ⟨cs, rfl, hsz⟩ := okWide_struct Try.underlying49 hv
  refine ⟨a, ⟨?_, hfit⟩, trivial⟩
  simp only [Value.cells] at ha
  exact congrArg Value.agg (Array.toList_inj.1 ha)
set_option maxRecDepth 100000 in
theorem open_acts_arg {v : Value} {d : DataW H} {p : List MemPlace} {r : Reach} {b0 : Nat} (hv : Value.okWide Try.prog w r b0 22 v) (h : DataW.Trod enc Try.prog w 0 (fun _ => true) true 22 v d p) :
    ∃ L : List Av, SAct w v L ∧ True := by
  obtain ⟨fuel, hf⟩ := h
  obtain ⟨a0, l0, c0, rfl⟩ := okWide_slice Try.underlying22 hv
  have k4 : Try.prog.cellsOf 49 = 10 := by kernel_rfl
  rcases open_slice Try.underlying22 hf with ⟨hcs, hx⟩ | ⟨a, len, cap, m, n, D, Pc, hcs, _, hl, hm, hmm, hx, hi⟩
  · simp [Value.cells] at hcs
    obtain ⟨rfl, rfl, rfl⟩ := hcs
    exact ⟨[], ⟨.inl ⟨rfl, rfl⟩, fun r hr => by cases hr⟩, trivial⟩
  · simp [Value.cells] at hcs
    obtain ⟨rfl, rfl, rfl⟩ := hcs
    have hlm : l0 ≤ m := by rw [hmm]; split <;> omega
    have each : ∀ i, ∃ q : Av, (i < l0 → ∀ j u, (actA q).toList[j]? = some u → w.cell? ((a.add (i * 10)).add j) = some u) ∧ q.fits := fun i => by
      by_cases hil : i < l0
      · obtain ⟨cs', hc, ht⟩ := hi i (by omega)
        obtain ⟨q, hq, hfit⟩ := readAct ht
        rw [k4] at hc
        obtain ⟨_, hcl, hat⟩ := World.cells?_some hc
        refine ⟨q, fun _ j u hj => ?_, hfit⟩
        have hj4 : j < 10 := by
          have h4 : (actA q).toList.length = 10 := rfl
          rw [← h4]; exact (List.getElem?_eq_some_iff.1 hj).1
        rw [hat j hj4, hq]
        exact hj
      · exact ⟨⟨0, ⟨⟨#[]⟩, ⟨#[]⟩, 0, false, ⟨#[]⟩⟩, 0, 0, 0, 0⟩, fun h => absurd h hil, by constructor <;> decide⟩
    have hS := fun i => (Classical.choose_spec (each i)).1
    have hF := fun i => (Classical.choose_spec (each i)).2
    refine ⟨(List.range l0).map (fun i => Classical.choose (each i)), ⟨.inr ⟨a, c0, by simp, by simpa using hl, hm, fun hp => ?_⟩, fun r hr => ?_⟩, trivial⟩
    · rw [List.length_map, List.length_range] at hp
      have h00 := hS 0 hp 0 _ rfl
      have e0 : (a.add (0 * 10)).add 0 = a := by unfold Addr.add; simp
      rw [e0] at h00
      obtain ⟨hs, hb⟩ := cell_plain h00
      obtain ⟨b, o, sp⟩ := a
      obtain rfl : sp = none := hs
      refine ⟨b, o, rfl, hb, fun i q hq j u hj => ?_⟩
      have hil : i < l0 := by have := (List.getElem?_eq_some_iff.1 hq).1; rw [List.length_map, List.length_range] at this; exact this
      rw [List.getElem?_map, List.getElem?_range hil] at hq
      obtain rfl : Classical.choose (each i) = q := by simpa using hq
      have c := hS i hil j u hj
      rw [Go.WideShapes.add_plain, Go.WideShapes.add_plain] at c
      exact c
    · obtain ⟨i, _, rfl⟩ := List.mem_map.1 hr
      exact hF i
end
end Go.Proofs.Ytnclobnnnihpfaa
