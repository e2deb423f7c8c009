/- What the form's reading says of an argument that is a slice of properties, with the size of each text. -/
import Derived.Test.YtifbkfkieppacaaDoorRows
import Derived.Test.YtifbkfkieppacaaDoorPutP
import Derived.WalkKit
import Derived.ProofKit
import Derived.OpenShut
import Derived.ShutString
import Derived.SizedLaws
import Derived.Deep.Slices
import Derived.Deep.Fields
namespace Go.Proofs.YtifbkfkieppacaaDoor
open Go.ChangeShapes Go.WideShapes Go.RowKit Go.Deep Pl
set_option linter.unusedVariables false

/-- A slice of properties, nil or not, that a machine can hold. -/
def SPropZ (w : World) (v : Value) (L : List Pp) : Prop :=
  ((v = .slice none 0 0 ∧ L = []) ∨ ∃ a cap, v = .slice (some a) L.length cap ∧ L.length ≤ cap ∧ cap ≤ maxLen ∧ PRow w (some a) L) ∧ ∀ r ∈ L, r.fits
theorem cell_plain {w : World} {a : Addr} {v : Value} (h : w.cell? a = some v) : a.spot = none ∧ a.block < w.heap.size := by
  unfold World.cell? at h
  split at h
  · rename_i hg
    refine ⟨?_, (Array.getElem?_eq_some_iff.1 hg).1⟩
    split at h
    · cases h
    · rename_i hs; simpa using hs
  · cases h
section
variable {H : Type} {enc : TypeId × Value → H} {w : World}
set_option maxRecDepth 100000 in
/-- The fields of a property. -/
theorem read4z {base : Nat} {spare : Nat → Bool} {held : Bool} {fuel : Nat} {cs : List Value} {x : DataW H × List MemPlace} (h : DataW.trod enc Tryd.prog w base spare held fuel 46 cs = some x)
    (hsz : ∀ n ∈ x.1.weights Tryd.prog 46, n ≤ reachBytes) : ∃ r : Pp, cs = (ppA r).toList ∧ r.fits := by
  have k3 : Tryd.prog.cellsOf 3 = 1 := by kernel_rfl
  have k9 : Tryd.prog.cellsOf 9 = 1 := by kernel_rfl
  obtain ⟨xs, n, _, hx, hl, hxl, hf⟩ := DataW.trod_struct Tryd.underlying46 h
  have hl4 : cs.length = 4 := hl.trans (by kernel_rfl)
  match cs, hl4 with
  | [v0, v1, v2, v3], _ =>
    match xs, hxl with
    | [x0, x1, x2, x3], _ =>
      have h0 : DataW.trod enc Tryd.prog w base spare held n 3 [v0] = some x0 := by simpa [k3] using hf 0 _ rfl
      have h1 : DataW.trod enc Tryd.prog w base spare held n 3 [v1] = some x1 := by simpa [k3] using hf 1 _ rfl
      have h2 : DataW.trod enc Tryd.prog w base spare held n 9 [v2] = some x2 := by simpa [k9] using hf 2 _ rfl
      have h3 : DataW.trod enc Tryd.prog w base spare held n 9 [v3] = some x3 := by simpa [k9] using hf 3 _ rfl
      obtain ⟨i0, e0, y0, z0⟩ := DataW.trod_int Tryd.underlying3 h0
      obtain ⟨i1, e1, y1, z1⟩ := DataW.trod_int Tryd.underlying3 h1
      obtain ⟨s2, e2, y2, z2⟩ := DataW.trod_string Tryd.underlying9 h2
      obtain ⟨s3, e3, y3, z3⟩ := DataW.trod_string Tryd.underlying9 h3
      simp only [List.cons.injEq, and_true] at e0 e1 e2 e3
      subst e0 e1 e2 e3
      subst y0 y1 y2 y3
      subst hx
      simp only [List.map_cons, List.map_nil, DataW.weights, Tryd.underlying46, DataW.weightsEach, List.append_nil, List.cons_append, List.nil_append, List.mem_cons, List.not_mem_nil, or_false] at hsz
      have hb0 := i64_bd z0
      have hb1 := i64_bd z1
      exact ⟨⟨i0, i1, s2, s3⟩, rfl, size_reach (hsz _ (.inl rfl)), size_reach (hsz _ (.inr rfl)), hb0.1, hb0.2, hb1.1, hb1.2⟩
theorem weightsAll_mem {P : Program} {e : TypeId} {n : Nat} : ∀ {l : List (DataW H)} {d : DataW H}, d ∈ l → n ∈ d.weights P e → n ∈ DataW.weightsAll P e l
  | y :: r, d, h, hn => by
    unfold DataW.weightsAll
    rw [List.mem_append]
    rcases List.mem_cons.1 h with rfl | h
    · exact .inl hn
    · exact .inr (weightsAll_mem h hn)
set_option maxRecDepth 100000 in
theorem open_propz_arg {v : Value} {d : DataW H} {p : List MemPlace} {r : Reach} {b0 : Nat} (hsz : ∀ n ∈ d.weights Tryd.prog 22, n ≤ reachBytes) (hv : Value.okWide Tryd.prog w r b0 22 v) (h : DataW.Trod enc Tryd.prog w 0 (fun _ => true) true 22 v d p) :
    ∃ L : List Pp, SPropZ w v L ∧ True := by
  obtain ⟨fuel, hf⟩ := h
  obtain ⟨a0, l0, c0, rfl⟩ := okWide_slice Tryd.underlying22 hv
  have k4 : Tryd.prog.cellsOf 46 = 4 := by kernel_rfl
  rcases open_slice Tryd.underlying22 hf with ⟨hcs, hx⟩ | ⟨a, len, cap, m, n, D, Pc, hcs, _, hl, hm, hmm, hx, hi⟩
  · simp [Value.cells] at hcs
    obtain ⟨rfl, rfl, rfl⟩ := hcs
    exact ⟨[], ⟨.inl ⟨rfl, rfl⟩, fun r hr => by cases hr⟩, trivial⟩
  · simp [Value.cells] at hcs
    obtain ⟨rfl, rfl, rfl⟩ := hcs
    simp only [Prod.mk.injEq] at hx
    rw [hx.1] at hsz
    unfold DataW.weights at hsz
    rw [Tryd.underlying22] at hsz
    have hlm : l0 ≤ m := by rw [hmm]; split <;> omega
    have each : ∀ i, ∃ q : Pp, (i < l0 → ∀ j u, (ppA q).toList[j]? = some u → w.cell? ((a.add (i * 4)).add j) = some u) ∧ q.fits := fun i => by
      by_cases hil : i < l0
      · obtain ⟨cs', hc, ht⟩ := hi i (by omega)
        obtain ⟨q, hq, hfit⟩ := read4z ht (fun n hn => hsz n (List.mem_cons_of_mem _ (List.mem_append.2 (.inl (weightsAll_mem (List.mem_map.2 ⟨i, List.mem_range.2 hil, rfl⟩) hn)))))
        rw [k4] at hc
        obtain ⟨_, hcl, hat⟩ := World.cells?_some hc
        refine ⟨q, fun _ j u hj => ?_, hfit⟩
        have hj4 : j < 4 := by
          have h4 : (ppA q).toList.length = 4 := rfl
          rw [← h4]; exact (List.getElem?_eq_some_iff.1 hj).1
        rw [hat j hj4, hq]
        exact hj
      · exact ⟨⟨0, 0, ⟨#[]⟩, ⟨#[]⟩⟩, fun h => absurd h hil, by decide, by decide, by decide, by decide, by decide, by decide⟩
    have hS := fun i => (Classical.choose_spec (each i)).1
    have hF := fun i => (Classical.choose_spec (each i)).2
    refine ⟨(List.range l0).map (fun i => Classical.choose (each i)), ⟨.inr ⟨a, c0, by simp, by simpa using hl, hm, fun hp => ?_⟩, fun r hr => ?_⟩, trivial⟩
    · rw [List.length_map, List.length_range] at hp
      have h00 := hS 0 hp 0 _ rfl
      have e0 : (a.add (0 * 4)).add 0 = a := by unfold Addr.add; simp
      rw [e0] at h00
      obtain ⟨hs, hb⟩ := cell_plain h00
      obtain ⟨b, o, sp⟩ := a
      obtain rfl : sp = none := hs
      refine ⟨b, o, rfl, hb, fun i q hq => ?_⟩
      have hil : i < l0 := by have := (List.getElem?_eq_some_iff.1 hq).1; rw [List.length_map, List.length_range] at this; exact this
      rw [List.getElem?_map, List.getElem?_range hil] at hq
      obtain rfl : Classical.choose (each i) = q := by simpa using hq
      have c := hS i hil
      have ad : ∀ j, ((⟨b, o, none⟩ : Addr).add (i * 4)).add j = ⟨b, o + i * 4 + j, none⟩ := fun j => by rw [Go.WideShapes.add_plain, Go.WideShapes.add_plain]
      have c0 := c 0 _ rfl
      have c1 := c 1 _ rfl
      have c2 := c 2 _ rfl
      have c3 := c 3 _ rfl
      rw [ad] at c0 c1 c2 c3
      exact ⟨c0, c1, c2, c3⟩
    · obtain ⟨i, _, rfl⟩ := List.mem_map.1 hr
      exact hF i
end
end Go.Proofs.YtifbkfkieppacaaDoor
