/- What stays where a map turns; what is remembered stays where a flow turns. -/
import Derived.Test.YtnclobnnnihpfaaOnceM
import Derived.Test.YtnclobnnnihpfaaFWakes
namespace Go.Proofs.Ytnclobnnnihpfaa
set_option linter.unusedVariables false
open Go.RowKit Go.Maps

/-- A map lies there. -/
def MapAt (sb : Nat) (w : World) : Prop := ∃ es c, w.heap[sb]? = some (.map es c)
section
variable {w w' : World} {sb : Nat}
theorem Blk.mapT {b : Nat} {cs : Array Value} {T : TypeId} (h : Blk w b cs T) (hg : w.grownBy w' (some sb)) (ho : MapAt sb w) : Blk w' b cs T :=
  (hg.block b h.lt (fun e => by
    obtain ⟨es, c, ho⟩ := ho
    injection e with e
    subst e
    unfold Blk at h
    rw [h] at ho
    cases ho)).trans h
theorem Sl.mapT {B size n : Nat} {e : TypeId} {v : Value} {xs : List Value} (h : Sl B w e size v n xs) (hg : w.grownBy w' (some sb)) (ho : MapAt sb w) : Sl B w' e size v n xs :=
  h.grown hg (fun k hk e => by
    obtain ⟨es, c, ho⟩ := ho
    injection e with e
    subst e
    obtain ⟨cur, e1⟩ := h.obj _ _ hk ho
    cases e1)
theorem Ids.mapT {mb : Nat} {l : List Int} (h : Ids mb l w) (hg : w.grownBy w' (some sb)) (hne : mb ≠ sb) : Ids mb l w' := h.same (hg.block mb h.lt (fun e => hne (by injection e)))
theorem SentAt.mapT {mb n : Nat} {f : ByteArray → Option Int} (h : SentAt mb f n w) (hg : w.grownBy w' (some sb)) (hne : mb ≠ sb) : SentAt mb f n w' := h.same (hg.block mb h.lt (fun e => hne (by injection e)))
theorem RelAt.mapT {mb n : Nat} {f : ByteArray → Bool} (h : RelAt mb f n w) (hg : w.grownBy w' (some sb)) (hne : mb ≠ sb) : RelAt mb f n w' := h.same (hg.block mb h.lt (fun e => hne (by injection e)))
theorem FlowAt.mapT {B fp pb mb : Nat} {s : FS} (h : FlowAt B fp pb mb s w) (hg : w.grownBy w' (some sb)) (ho : MapAt sb w) (hne : mb ≠ sb) : FlowAt B fp pb mb s w' := by
  obtain ⟨vf, vw, h⟩ := h
  exact ⟨vf, vw, h.ok, h.hB, h.blk.mapT hg ho, h.fl.mapT hg ho, h.wt.mapT hg ho, h.pool.1, h.pool.2.1, h.pool.2.2.1.mapT hg ho, h.pool.2.2.2.mapT hg hne⟩
theorem OpAt.mapT {C : Nat} {p : OP} {pv : Value} (h : OpAt C w p pv) (hg : w.grownBy w' (some sb)) (ho : MapAt sb w) : OpAt C w' p pv := by
  cases p with
  | pub m id dup =>
    rcases (h : PvAt C w m.tag pv) with h | ⟨h1, g, h2, h3, h4⟩
    · exact .inl h
    · exact .inr ⟨h1, g, h2, h3, h4.mapT hg ho⟩
  | rel id => exact h
theorem OutAt.mapT {C : Nat} {v : Value} {L : List OP} (h : OutAt C w v L) (hg : w.grownBy w' (some sb)) (ho : MapAt sb w) : OutAt C w' v L := by
  obtain ⟨pvs, h1, h2, h3⟩ := h
  exact ⟨pvs, h1, h2.mapT hg ho, fun i p pv a b => (h3 i p pv a b).mapT hg ho⟩
theorem SentAt.flow {B mb n : Nat} {f : ByteArray → Option Int} (h : SentAt sb f n w) (m : Fr B (flowS mb) w w') (hne : sb ≠ mb) : SentAt sb f n w' := by
  obtain ⟨es, c, ho⟩ := h.obj
  exact h.same ((m.keep sb _ ho (by rintro (⟨e, _⟩ | ⟨cs, t, fz, e, _⟩); exact hne e; cases e)).trans ho.symm)
theorem RelAt.flow {B mb n : Nat} {f : ByteArray → Bool} (h : RelAt sb f n w) (m : Fr B (flowS mb) w w') (hne : sb ≠ mb) : RelAt sb f n w' := by
  obtain ⟨es, c, ho⟩ := h.obj
  exact h.same ((m.keep sb _ ho (by rintro (⟨e, _⟩ | ⟨cs, t, fz, e, _⟩); exact hne e; cases e)).trans ho.symm)
theorem SentAt.below {n : Nat} {f : ByteArray → Option Int} (h : SentAt sb f n w) (m : Below w.heap.size w w') : SentAt sb f n w' := h.same (m.block sb h.lt)
theorem RelAt.below {n : Nat} {f : ByteArray → Bool} (h : RelAt sb f n w) (m : Below w.heap.size w w') : RelAt sb f n w' := h.same (m.block sb h.lt)
end
end Go.Proofs.Ytnclobnnnihpfaa
