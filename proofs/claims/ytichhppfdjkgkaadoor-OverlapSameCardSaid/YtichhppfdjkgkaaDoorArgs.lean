/- What the form's reading says of an argument: slices of strings. -/
import Derived.Test.YtichhppfdjkgkaaDoorRows
import Derived.WalkKit
import Derived.ProofKit
import Derived.OpenShut
import Derived.ShutString
import Derived.Deep.Strs
import Derived.SizedLaws
namespace Go.Proofs.YtichhppfdjkgkaaDoor
open Go.ChangeShapes Go.WideShapes Go.RowKit Go.Deep
set_option linter.unusedVariables false

/-- A slice of strings reads as a list. -/
def Strs (w : World) (v : Value) (ss : List ByteArray) : Prop :=
  ∃ A cap, v = .slice A ss.length cap ∧ ss.length ≤ cap ∧ cap ≤ maxLen ∧
    (0 < ss.length → ∃ b o, A = some ⟨b, o, none⟩ ∧ b < w.heap.size ∧ ∀ i x, ss[i]? = some x → w.cell? ⟨b, o + i, none⟩ = some (.string x))
theorem Strs.below {w w' : World} {v : Value} {ss : List ByteArray} (h : Strs w v ss) (hb : Below w.heap.size w w') : Strs w' v ss := by
  obtain ⟨A, cap, rfl, h1, h2, h3⟩ := h
  refine ⟨A, cap, rfl, h1, h2, fun hp => ?_⟩
  obtain ⟨b, o, rfl, hl, hc⟩ := h3 hp
  exact ⟨b, o, rfl, Nat.lt_of_lt_of_le hl hb.size, fun i x hx => (hb.cell (p := ⟨b, o + i, none⟩) hl).trans (hc i x hx)⟩
/-- Its bulk. -/
def bulkS (ss : List ByteArray) : Nat := (ss.map fun x => x.size + 1).sum
theorem bulkS_cons (x : ByteArray) (r : List ByteArray) : bulkS (x :: r) = x.size + 1 + bulkS r := by simp [bulkS]
theorem bulk_len : ∀ ss : List ByteArray, ss.length ≤ bulkS ss
  | [] => Nat.zero_le _
  | x :: r => by
    have := bulk_len r
    rw [bulkS_cons, List.length_cons]; omega
theorem bulk_mem {x : ByteArray} : ∀ {ss : List ByteArray}, x ∈ ss → x.size + 1 ≤ bulkS ss
  | y :: r, h => by
    rw [bulkS_cons]
    rcases List.mem_cons.1 h with rfl | h
    · omega
    · have := bulk_mem h; omega
theorem bulkAll_append {H : Type} : ∀ a b : List (DataW H), Rows.uptoBulkAll (a ++ b) = Rows.uptoBulkAll a + Rows.uptoBulkAll b
  | [], b => by simp [Rows.uptoBulkAll]
  | x :: r, b => by simp only [List.cons_append, Rows.uptoBulkAll, bulkAll_append r b]; omega
theorem bulk_strs {H : Type} : ∀ ss : List ByteArray, Rows.uptoBulkAll (ss.map fun x => (.lit (.string x.data.toList) : DataW H)) = bulkS ss
  | [] => rfl
  | x :: r => by
    rw [List.map_cons, Rows.uptoBulkAll, bulk_strs r, bulkS_cons, Rows.uptoBulk]
    rfl
section
variable {H : Type} {enc : TypeId × Value → H} {w : World}
theorem spot_of_cell {a : Addr} {v : Value} (h : w.cell? a = some v) : a.spot = none ∧ a.block < w.heap.size := by
  refine ⟨?_, ?_⟩
  · unfold World.cell? at h
    split at h
    · split at h
      · cases h
      · rename_i hs; simpa using hs
    · cases h
  · unfold World.cell? at h
    split at h
    · rename_i hg
      exact (Array.getElem?_eq_some_iff.1 hg).1
    · cases h
theorem open_strs_arg {t e : TypeId} {v : Value} {d : DataW H} {p : List MemPlace} {r : Reach} {b0 : Nat} (ht : Tryd.prog.underlying t = some (.slice e)) (he : Tryd.prog.underlying e = some .string) (hc : Tryd.prog.cellsOf e = 1)
    (hv : Value.okWide Tryd.prog w r b0 t v) (h : DataW.Trod enc Tryd.prog w 0 (fun _ => true) true t v d p) : ∃ ss, Strs w v ss ∧ bulkS ss ≤ Rows.uptoBulk d := by
  obtain ⟨fuel, hf⟩ := h
  obtain ⟨a0, l0, c0, rfl⟩ := okWide_slice ht hv
  rcases open_strs ht he hc hf with ⟨hcs, hx⟩ | ⟨a, len, cap, m, Sx, hcs, _, hl, hm, hmm, hx, hcell⟩
  · simp [Value.cells] at hcs
    obtain ⟨rfl, rfl, rfl⟩ := hcs
    exact ⟨[], ⟨none, 0, rfl, Nat.le_refl _, Nat.zero_le _, fun h => absurd h (by simp)⟩, Nat.zero_le _⟩
  · simp [Value.cells] at hcs
    obtain ⟨rfl, rfl, rfl⟩ := hcs
    simp only [Prod.mk.injEq] at hx
    have hlen : ((List.range l0).map Sx).length = l0 := by simp
    have hlm : l0 ≤ m := by rw [hmm]; split <;> omega
    refine ⟨(List.range l0).map Sx, ⟨some a, c0, by rw [hlen], by rw [hlen]; exact hl, hm, fun hp => ?_⟩, ?_⟩
    · rw [hlen] at hp
      have h0 := (hcell 0 (by omega)).1
      have hs := spot_of_cell h0
      have e0 : a.add 0 = a := by unfold Addr.add; rw [if_pos rfl]
      rw [e0] at hs
      obtain ⟨b, o, sp⟩ := a
      obtain ⟨rfl, hb⟩ := hs
      refine ⟨b, o, rfl, hb, fun i x hx => ?_⟩
      have hi : i < l0 := by have := (List.getElem?_eq_some_iff.1 hx).1; rw [hlen] at this; exact this
      have h1 := (hcell i (by omega)).1
      rw [Go.WideShapes.add_plain] at h1
      rw [h1]
      rw [List.getElem?_map, List.getElem?_range hi] at hx
      simpa using hx
    · have e : ((List.range l0).map fun i => (.lit (.string (Sx i).data.toList) : DataW H)) = ((List.range l0).map Sx).map fun x => (.lit (.string x.data.toList) : DataW H) := by rw [List.map_map]; rfl
      rw [hx.1, Rows.uptoBulk, e, bulk_strs]
      omega
end
end Go.Proofs.YtichhppfdjkgkaaDoor
