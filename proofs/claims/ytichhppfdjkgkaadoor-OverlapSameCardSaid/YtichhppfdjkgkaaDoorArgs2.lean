/- What the form's reading says of a slice of strings: how long they are. -/
import Derived.Test.YtichhppfdjkgkaaDoorArgs
import Derived.Test.YtichhppfdjkgkaaDoorAux
namespace Go.Proofs.YtichhppfdjkgkaaDoor
open Go.ChangeShapes Go.WideShapes Go.RowKit Go.Deep
set_option linter.unusedVariables false

/-- A slice of strings, nil or not, and that none of them is too long. -/
def SStr (w : World) (v : Value) (ss : List ByteArray) : Prop :=
  ((v = .slice none 0 0 ∧ ss = []) ∨ ∃ a cap, v = .slice (some a) ss.length cap ∧ ss.length ≤ cap ∧ cap ≤ maxLen ∧
    (0 < ss.length → ∃ b o, some a = some ⟨b, o, none⟩ ∧ b < w.heap.size ∧ ∀ i x, ss[i]? = some x → w.cell? ⟨b, o + i, none⟩ = some (.string x))) ∧ ∀ x ∈ ss, x.size ≤ 140737488351232
theorem weights_strs {H : Type} {P : Program} {e : TypeId} : ∀ {ss : List ByteArray} {x : ByteArray}, x ∈ ss → x.data.toList.length ∈ DataW.weightsAll P e (ss.map fun x => (.lit (.string x.data.toList) : DataW H))
  | y :: r, x, h => by
    rw [List.map_cons]
    unfold DataW.weightsAll
    rw [List.mem_append]
    rcases List.mem_cons.1 h with rfl | h
    · refine .inl ?_
      unfold DataW.weights
      simp
    · exact .inr (weights_strs h)
theorem open_sstrs_arg {H : Type} {enc : TypeId × Value → H} {w : World} {t e : TypeId} {v : Value} {d : DataW H} {p : List MemPlace} {r : Reach} {b0 : Nat} (ht : Tryd.prog.underlying t = some (.slice e)) (he : Tryd.prog.underlying e = some .string) (hc : Tryd.prog.cellsOf e = 1)
    (hsz : ∀ n ∈ d.weights Tryd.prog t, n ≤ reachBytes) (hv : Value.okWide Tryd.prog w r b0 t v) (h : DataW.Trod enc Tryd.prog w 0 (fun _ => true) true t v d p) : ∃ ss, SStr w v ss ∧ True := by
  obtain ⟨fuel, hf⟩ := h
  obtain ⟨a0, l0, c0, rfl⟩ := okWide_slice ht hv
  rcases open_strs ht he hc hf with ⟨hcs, hx⟩ | ⟨a, len, cap, m, Sx, hcs, _, hl, hm, hmm, hx, hcell⟩
  · simp [Value.cells] at hcs
    obtain ⟨rfl, rfl, rfl⟩ := hcs
    exact ⟨[], ⟨.inl ⟨rfl, rfl⟩, fun x hx => by cases hx⟩, trivial⟩
  · simp [Value.cells] at hcs
    obtain ⟨rfl, rfl, rfl⟩ := hcs
    simp only [Prod.mk.injEq] at hx
    have hlen : ((List.range l0).map Sx).length = l0 := by simp
    have hlm : l0 ≤ m := by rw [hmm]; split <;> omega
    refine ⟨(List.range l0).map Sx, ⟨.inr ⟨a, c0, by rw [hlen], by rw [hlen]; exact hl, hm, fun hp => ?_⟩, ?_⟩, trivial⟩
    · rw [hlen] at hp
      have h0 := (hcell 0 (by omega)).1
      have hs := spot_of_cell h0
      have e0 : a.add 0 = a := by unfold Addr.add; rw [if_pos rfl]
      rw [e0] at hs
      obtain ⟨b, o, sp⟩ := a
      obtain ⟨rfl, hb⟩ := hs
      refine ⟨b, o, rfl, hb, fun i x hx => ?_⟩
      have hi : i < l0 := by have := (List.getElem?_eq_some_iff.1 hx).1; rw [hlen] at this; exact this
      have h1 := (hcell i (by omega)).1
      rw [Go.WideShapes.add_plain] at h1
      rw [h1]
      rw [List.getElem?_map, List.getElem?_range hi] at hx
      simpa using hx
    · intro x hx2
      have e : ((List.range l0).map fun i => (.lit (.string (Sx i).data.toList) : DataW H)) = ((List.range l0).map Sx).map fun x => (.lit (.string x.data.toList) : DataW H) := by rw [List.map_map]; rfl
      rw [hx.1, e] at hsz
      unfold DataW.weights at hsz
      rw [ht] at hsz
      have h2 := hsz _ (List.mem_cons_of_mem _ (List.mem_append.2 (.inl (weights_strs hx2))))
      exact size_reach h2
end Go.Proofs.YtichhppfdjkgkaaDoor
