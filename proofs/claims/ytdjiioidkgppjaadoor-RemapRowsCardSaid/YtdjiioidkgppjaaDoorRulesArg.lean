/- What the form's reading says of an argument that is a slice of rules. -/
import Derived.Test.YtdjiioidkgppjaaDoorRows
import Derived.Test.YtdjiioidkgppjaaDoorRulesP
import Derived.WalkKit
import Derived.ProofKit
import Derived.OpenShut
import Derived.ShutString
import Derived.SizedLaws
import Derived.Deep.Slices
import Derived.Deep.Fields
namespace Go.Proofs.YtdjiioidkgppjaaDoor
open Go.ChangeShapes Go.WideShapes Go.RowKit Go.Deep Pl
set_option linter.unusedVariables false

/-- A slice of rules, nil or not, that a machine can hold. -/
def SRule (w : World) (v : Value) (L : List Rl) : Prop :=
  ((v = .slice none 0 0 ∧ L = []) ∨ ∃ a cap, v = .slice (some a) L.length cap ∧ L.length ≤ cap ∧ cap ≤ maxLen ∧ RRow w (some a) L) ∧ ∀ r ∈ L, r.fits
theorem cell_plain {w : World} {a : Addr} {v : Value} (h : w.cell? a = some v) : a.spot = none ∧ a.block < w.heap.size := by
  unfold World.cell? at h
  split at h
  · rename_i hg
    refine ⟨?_, (Array.getElem?_eq_some_iff.1 hg).1⟩
    split at h
    · cases h
    · rename_i hs; simpa using hs
  · cases h
section
variable {H : Type} {enc : TypeId × Value → H} {w : World}
/-- The fields of a rule. -/
theorem read5 {base : Nat} {spare : Nat → Bool} {held : Bool} {fuel : Nat} {cs : List Value} {x : DataW H × List MemPlace} (h : DataW.trod enc Tryd.prog w base spare held fuel 23 cs = some x)
    (hsz : ∀ n ∈ x.1.weights Tryd.prog 23, n ≤ reachBytes) : ∃ r : Rl, cs = (ruC r).toList ∧ r.fits := by
  have k3 : Tryd.prog.cellsOf 3 = 1 := by kernel_rfl
  have k9 : Tryd.prog.cellsOf 9 = 1 := by kernel_rfl
  obtain ⟨xs, n, _, hx, hl, hxl, hf⟩ := DataW.trod_struct Tryd.underlying23 h
  have hl5 : cs.length = 5 := hl.trans (by kernel_rfl)
  match cs, hl5 with
  | [v0, v1, v2, v3, v4], _ =>
    match xs, hxl with
    | [x0, x1, x2, x3, x4], _ =>
      have h0 : DataW.trod enc Tryd.prog w base spare held n 9 [v0] = some x0 := by simpa [k9] using hf 0 _ rfl
      have h1 : DataW.trod enc Tryd.prog w base spare held n 3 [v1] = some x1 := by simpa [k3] using hf 1 _ rfl
      have h2 : DataW.trod enc Tryd.prog w base spare held n 3 [v2] = some x2 := by simpa [k3] using hf 2 _ rfl
      have h3 : DataW.trod enc Tryd.prog w base spare held n 9 [v3] = some x3 := by simpa [k9] using hf 3 _ rfl
      have h4 : DataW.trod enc Tryd.prog w base spare held n 9 [v4] = some x4 := by simpa [k9] using hf 4 _ rfl
      obtain ⟨s0, e0, y0, z0⟩ := DataW.trod_string Tryd.underlying9 h0
      obtain ⟨i1, e1, y1, z1⟩ := DataW.trod_int Tryd.underlying3 h1
      obtain ⟨i2, e2, y2, z2⟩ := DataW.trod_int Tryd.underlying3 h2
      obtain ⟨s3, e3, y3, z3⟩ := DataW.trod_string Tryd.underlying9 h3
      obtain ⟨s4, e4, y4, z4⟩ := DataW.trod_string Tryd.underlying9 h4
      simp only [List.cons.injEq, and_true] at e0 e1 e2 e3 e4
      subst e0 e1 e2 e3 e4
      subst y0 y1 y2 y3 y4
      subst hx
      simp only [List.map_cons, List.map_nil, DataW.weights, Tryd.underlying23, DataW.weightsEach, List.append_nil, List.cons_append, List.nil_append, List.mem_cons, List.not_mem_nil, or_false] at hsz
      have hb1 := i64_bd z1
      have hb2 := i64_bd z2
      exact ⟨⟨s0, i1, i2, s3, s4⟩, rfl, size_reach (hsz _ (.inl rfl)), size_reach (hsz _ (.inr (.inl rfl))), size_reach (hsz _ (.inr (.inr rfl))), hb1.1, hb1.2, hb2.1, hb2.2⟩
theorem weightsAll_mem {P : Program} {e : TypeId} {n : Nat} : ∀ {l : List (DataW H)} {d : DataW H}, d ∈ l → n ∈ d.weights P e → n ∈ DataW.weightsAll P e l
  | y :: r, d, h, hn => by
    unfold DataW.weightsAll
    rw [List.mem_append]
    rcases List.mem_cons.1 h with rfl | h
    · exact .inl hn
    · exact .inr (weightsAll_mem h hn)
theorem open_rules_arg {v : Value} {d : DataW H} {p : List MemPlace} {r : Reach} {b0 : Nat} (hsz : ∀ n ∈ d.weights Tryd.prog 35, n ≤ reachBytes) (hv : Value.okWide Tryd.prog w r b0 35 v) (h : DataW.Trod enc Tryd.prog w 0 (fun _ => true) true 35 v d p) :
    ∃ L : List Rl, SRule w v L ∧ True := by
  obtain ⟨fuel, hf⟩ := h
  obtain ⟨a0, l0, c0, rfl⟩ := okWide_slice Tryd.underlying35 hv
  have k4 : Tryd.prog.cellsOf 23 = 5 := by kernel_rfl
  rcases open_slice Tryd.underlying35 hf with ⟨hcs, hx⟩ | ⟨a, len, cap, m, n, D, Pc, hcs, _, hl, hm, hmm, hx, hi⟩
  · simp [Value.cells] at hcs
    obtain ⟨rfl, rfl, rfl⟩ := hcs
    exact ⟨[], ⟨.inl ⟨rfl, rfl⟩, fun r hr => by cases hr⟩, trivial⟩
  · simp [Value.cells] at hcs
    obtain ⟨rfl, rfl, rfl⟩ := hcs
    simp only [Prod.mk.injEq] at hx
    rw [hx.1] at hsz
    unfold DataW.weights at hsz
    rw [Tryd.underlying35] at hsz
    have hlm : l0 ≤ m := by rw [hmm]; split <;> omega
    have each : ∀ i, ∃ q : Rl, (i < l0 → ∀ j u, (ruC q).toList[j]? = some u → w.cell? ((a.add (i * 5)).add j) = some u) ∧ q.fits := fun i => by
      by_cases hil : i < l0
      · obtain ⟨cs', hc, ht⟩ := hi i (by omega)
        obtain ⟨q, hq, hfit⟩ := read5 ht (fun n hn => hsz n (List.mem_cons_of_mem _ (List.mem_append.2 (.inl (weightsAll_mem (List.mem_map.2 ⟨i, List.mem_range.2 hil, rfl⟩) hn)))))
        rw [k4] at hc
        obtain ⟨_, hcl, hat⟩ := World.cells?_some hc
        refine ⟨q, fun _ j u hj => ?_, hfit⟩
        have hj4 : j < 5 := by
          have h4 : (ruC q).toList.length = 5 := rfl
          rw [← h4]; exact (List.getElem?_eq_some_iff.1 hj).1
        rw [hat j hj4, hq]
        exact hj
      · exact ⟨⟨⟨#[]⟩, 0, 0, ⟨#[]⟩, ⟨#[]⟩⟩, fun h => absurd h hil, by decide, by decide, by decide, by decide, by decide, by decide, by decide⟩
    have hS := fun i => (Classical.choose_spec (each i)).1
    have hF := fun i => (Classical.choose_spec (each i)).2
    refine ⟨(List.range l0).map (fun i => Classical.choose (each i)), ⟨.inr ⟨a, c0, by simp, by simpa using hl, hm, fun hp => ?_⟩, fun r hr => ?_⟩, trivial⟩
    · rw [List.length_map, List.length_range] at hp
      have h00 := hS 0 hp 0 _ rfl
      have e0 : (a.add (0 * 5)).add 0 = a := by unfold Addr.add; simp
      rw [e0] at h00
      obtain ⟨hs, hb⟩ := cell_plain h00
      obtain ⟨b, o, sp⟩ := a
      obtain rfl : sp = none := hs
      refine ⟨b, o, rfl, hb, fun i q hq => ?_⟩
      have hil : i < l0 := by have := (List.getElem?_eq_some_iff.1 hq).1; rw [List.length_map, List.length_range] at this; exact this
      rw [List.getElem?_map, List.getElem?_range hil] at hq
      obtain rfl : Classical.choose (each i) = q := by simpa using hq
      have c := hS i hil
      have ad : ∀ j, ((⟨b, o, none⟩ : Addr).add (i * 5)).add j = ⟨b, o + i * 5 + j, none⟩ := fun j => by rw [Go.WideShapes.add_plain, Go.WideShapes.add_plain]
      have c0 := c 0 _ rfl
      have c1 := c 1 _ rfl
      have c2 := c 2 _ rfl
      have c3 := c 3 _ rfl
      have c4 := c 4 _ rfl
      rw [ad] at c0 c1 c2 c3 c4
      exact ⟨c0, c1, c2, c3, c4⟩
    · obtain ⟨i, _, rfl⟩ := List.mem_map.1 hr
      exact hF i
end
end Go.Proofs.YtdjiioidkgppjaaDoor
