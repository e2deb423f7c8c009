/- What the form's reading says of an argument that is a slice of properties. -/
import Derived.Test.YtohgepaldjailaaRows
import Derived.Test.YtohgepaldjailaaPropP
import Derived.WalkKit
import Derived.ProofKit
import Derived.OpenShut
import Derived.ShutString
import Derived.SizedLaws
import Derived.Deep.Slices
import Derived.Deep.Fields
namespace Go.Proofs.Ytohgepaldjailaa
open Go.ChangeShapes Go.WideShapes Go.RowKit Go.Deep
set_option linter.unusedVariables false

/-- A slice of properties, nil or not. -/
def SProp (w : World) (v : Value) (L : List Pp) : Prop :=
  (v = .slice none 0 0 ∧ L = []) ∨ ∃ a cap, v = .slice (some a) L.length cap ∧ L.length ≤ cap ∧ cap ≤ maxLen ∧ PRow w (some a) L
theorem cell_plain {w : World} {a : Addr} {v : Value} (h : w.cell? a = some v) : a.spot = none ∧ a.block < w.heap.size := by
  unfold World.cell? at h
  split at h
  · rename_i hg
    refine ⟨?_, (Array.getElem?_eq_some_iff.1 hg).1⟩
    split at h
    · cases h
    · rename_i hs; simpa using hs
  · cases h
section
variable {H : Type} {enc : TypeId × Value → H} {w : World}
/-- Four one-cell fields: two numbers, two strings. -/
theorem read4 {base : Nat} {spare : Nat → Bool} {held : Bool} {fuel : Nat} {cs : List Value} {x : DataW H × List MemPlace} (h : DataW.trod enc Try.prog w base spare held fuel 38 cs = some x) :
    ∃ p : Pp, cs = (ppA p).toList := by
  have k3 : Try.prog.cellsOf 3 = 1 := by kernel_rfl
  have k9 : Try.prog.cellsOf 9 = 1 := by kernel_rfl
  obtain ⟨xs, n, _, _, hl, hxl, hf⟩ := DataW.trod_struct Try.underlying38 h
  have hl4 : cs.length = 4 := hl.trans (by kernel_rfl)
  match cs, hl4 with
  | [v0, v1, v2, v3], _ =>
    match xs, hxl with
    | [x0, x1, x2, x3], _ =>
      have h0 : DataW.trod enc Try.prog w base spare held n 3 [v0] = some x0 := by simpa [k3] using hf 0 _ rfl
      have h1 : DataW.trod enc Try.prog w base spare held n 3 [v1] = some x1 := by simpa [k3] using hf 1 _ rfl
      have h2 : DataW.trod enc Try.prog w base spare held n 9 [v2] = some x2 := by simpa [k9] using hf 2 _ rfl
      have h3 : DataW.trod enc Try.prog w base spare held n 9 [v3] = some x3 := by simpa [k9] using hf 3 _ rfl
      obtain ⟨i0, e0, _, _⟩ := DataW.trod_int Try.underlying3 h0
      obtain ⟨i1, e1, _, _⟩ := DataW.trod_int Try.underlying3 h1
      obtain ⟨s2, e2, _, _⟩ := DataW.trod_string Try.underlying9 h2
      obtain ⟨s3, e3, _, _⟩ := DataW.trod_string Try.underlying9 h3
      simp only [List.cons.injEq, and_true] at e0 e1 e2 e3
      subst e0 e1 e2 e3
      exact ⟨⟨i0, i1, s2, s3⟩, rfl⟩
theorem open_props_arg {v : Value} {d : DataW H} {p : List MemPlace} {r : Reach} {b0 : Nat} (hv : Value.okWide Try.prog w r b0 22 v) (h : DataW.Trod enc Try.prog w 0 (fun _ => true) true 22 v d p) :
    ∃ L : List Pp, SProp w v L ∧ True := by
  obtain ⟨fuel, hf⟩ := h
  obtain ⟨a0, l0, c0, rfl⟩ := okWide_slice Try.underlying22 hv
  have k4 : Try.prog.cellsOf 38 = 4 := by kernel_rfl
  rcases open_slice Try.underlying22 hf with ⟨hcs, hx⟩ | ⟨a, len, cap, m, n, D, Pc, hcs, _, hl, hm, hmm, hx, hi⟩
  · simp [Value.cells] at hcs
    obtain ⟨rfl, rfl, rfl⟩ := hcs
    exact ⟨[], .inl ⟨rfl, rfl⟩, trivial⟩
  · simp [Value.cells] at hcs
    obtain ⟨rfl, rfl, rfl⟩ := hcs
    have hlm : l0 ≤ m := by rw [hmm]; split <;> omega
    have each : ∀ i, ∃ q : Pp, i < l0 → ∀ j u, (ppA q).toList[j]? = some u → w.cell? ((a.add (i * 4)).add j) = some u := fun i => by
      by_cases hil : i < l0
      · obtain ⟨cs', hc, ht⟩ := hi i (by omega)
        obtain ⟨q, hq⟩ := read4 ht
        rw [k4] at hc
        obtain ⟨_, hcl, hat⟩ := World.cells?_some hc
        refine ⟨q, fun _ j u hj => ?_⟩
        have hj4 : j < 4 := by
          have h4 : (ppA q).toList.length = 4 := rfl
          rw [← h4]; exact (List.getElem?_eq_some_iff.1 hj).1
        rw [hat j hj4, hq]
        exact hj
      · exact ⟨⟨0, 0, ⟨#[]⟩, ⟨#[]⟩⟩, fun h => absurd h hil⟩
    have hS := fun i => Classical.choose_spec (each i)
    refine ⟨(List.range l0).map (fun i => Classical.choose (each i)), .inr ⟨a, c0, by simp, by simpa using hl, hm, fun hp => ?_⟩, trivial⟩
    rw [List.length_map, List.length_range] at hp
    have h00 := hS 0 hp 0 _ rfl
    have e0 : (a.add (0 * 4)).add 0 = a := by unfold Addr.add; simp
    rw [e0] at h00
    obtain ⟨hs, hb⟩ := cell_plain h00
    obtain ⟨b, o, sp⟩ := a
    obtain rfl : sp = none := hs
    refine ⟨b, o, rfl, hb, fun i q hq => ?_⟩
    have hil : i < l0 := by have := (List.getElem?_eq_some_iff.1 hq).1; rw [List.length_map, List.length_range] at this; exact this
    rw [List.getElem?_map, List.getElem?_range hil] at hq
    obtain rfl : Classical.choose (each i) = q := by simpa using hq
    have c := hS i hil
    have ad : ∀ j, ((⟨b, o, none⟩ : Addr).add (i * 4)).add j = ⟨b, o + i * 4 + j, none⟩ := fun j => by rw [Go.WideShapes.add_plain, Go.WideShapes.add_plain]
    have c0 := c 0 _ rfl
    have c1 := c 1 _ rfl
    have c2 := c 2 _ rfl
    have c3 := c 3 _ rfl
    rw [ad] at c0 c1 c2 c3
    exact ⟨c0, c1, c2, c3⟩
end
end Go.Proofs.Ytohgepaldjailaa
