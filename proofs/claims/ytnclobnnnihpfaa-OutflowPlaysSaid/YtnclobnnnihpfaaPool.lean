/- A pool of identifiers (ids.Pool): its map, its methods. -/
import Derived.Test.YtnclobnnnihpfaaProg
import Derived.Test.YtnclobnnnihpfaaFr
import Derived.Test.YtnclobnnnihpfaaIdP
import Derived.Test.YtnclobnnnihpfaaAux
import Derived.Lib.Hide
import Derived.Deep.QuietTactic
import Derived.BigQuiet
import Derived.StillTailTactics
namespace Go.Proofs.Ytnclobnnnihpfaa
set_option linter.unusedVariables false
open Go.RowKit Go.Maps

/-- The map of those in use. -/
def Ids (mb : Nat) (l : List Int) (w : World) : Prop := ∃ D : DataW Unit, w.ownsMap Try.prog 3 (plainElem Try.prog 4) mb l.length D ∧ Maps.size D = l.length ∧
  ∀ x : Int, (Lit.int .i64 x).wf = true → D.atKey (.int .i64 x) (.lit (.bool false)) = .lit (.bool (decide (x ∈ l))) ∧ Maps.has D (.int .i64 x) = decide (x ∈ l)
theorem ids_law : Keyed Try.prog 3 := int_keyed Try.underlying3
theorem zero_bool (w : World) : (zeroValue 4).run Try.prog w = .ok (.bool false) w := by kernel_rfl
theorem wf_id {x : Int} (h0 : 0 ≤ x) (h1 : x ≤ 65535) : (Lit.int .i64 x).wf = true := by
  simp [Lit.wf, IntKind.min, IntKind.max, IntKind.signed, IntKind.bits]; omega
theorem Ids.lt {mb : Nat} {l : List Int} {w : World} (h : Ids mb l w) : mb < w.heap.size := by obtain ⟨D, h1, _⟩ := h; exact h1.lt
theorem Ids.same {mb : Nat} {l : List Int} {w w' : World} (h : Ids mb l w) (hs : w'.heap[mb]? = w.heap[mb]?) : Ids mb l w' := by
  obtain ⟨D, ⟨es, clock, hb, r⟩, r2⟩ := h
  exact ⟨D, ⟨es, clock, hs.trans hb, r⟩, r2⟩
theorem Ids.obj {mb : Nat} {l : List Int} {w : World} (h : Ids mb l w) : ∃ es clock, w.heap[mb]? = some (.map es clock) := by
  obtain ⟨D, ⟨es, clock, hb, r⟩, r2⟩ := h
  exact ⟨es, clock, hb⟩
theorem Ids.fr {mb : Nat} {l : List Int} {B : Nat} {S : Nat → Obj → Prop} {w w' : World} (h : Ids mb l w) (m : Fr B S w w') (hs : ∀ es c, ¬ S mb (.map es c)) : Ids mb l w' := by
  obtain ⟨es, c, ho⟩ := h.obj
  exact h.same ((m.keep mb _ ho (hs es c)).trans ho.symm)
theorem Ids.below {mb : Nat} {l : List Int} {w w' : World} (h : Ids mb l w) (m : Below w.heap.size w w') : Ids mb l w' := h.same (m.block mb h.lt)
theorem Ids.new (w : World) : Ids w.heap.size [] (w.alloc (.map #[] 0)) :=
  ⟨.map [], World.ownsMap_made _ _ _ _, rfl, fun x _ => ⟨rfl, rfl⟩⟩
theorem elem_bool_inv {v : Value} {b : Bool} {ps : List MemPlace} (h : plainElem (H := Unit) Try.prog 4 v = some (.lit (.bool b), ps)) : v = .bool b := by
  have hu := Try.underlying4
  revert h hu
  generalize Try.prog = P
  intro h hu
  unfold plainElem at h
  rw [hu] at h
  cases v <;> simp at h
  rw [h.1]
theorem Ids.look {mb : Nat} {l : List Int} {w : World} (h : Ids mb l w) {x : Int} (hx : (Lit.int .i64 x).wf = true) :
    (Instr.lookup 39 (.map (some mb)) (.int .i64 x) false).run Try.prog w = .ok (.bool (decide (x ∈ l))) w := by
  obtain ⟨D, h1, h2, h3⟩ := h
  obtain ⟨v, ps, hr, hv⟩ := h1.lookup ids_law Try.underlying39 (zero_bool w) (plainElem_bool Try.underlying4 false) (keyOf_int_mk Try.underlying3 hx)
  rw [(h3 x hx).1] at hv
  rw [elem_bool_inv hv] at hr
  exact hr
theorem Ids.len {mb : Nat} {l : List Int} {w : World} (h : Ids mb l w) (ty : TypeId) : (Builtin.len_ #[39] ty #[.map (some mb)]).run Try.prog w = .ok (.int .i64 l.length) w := by
  obtain ⟨D, h1, h2, h3⟩ := h
  have := h1.len Try.underlying39 ty
  rw [h2] at this
  exact this
theorem owns_tight {w : World} {P : Program} {k : TypeId} {R : Value → Option (DataW Unit × List MemPlace)} {b n : Nat} {D : DataW Unit} (h : w.ownsMap P k R b n D) : w.ownsMap P k R b (Maps.size D) D := by
  obtain ⟨es, clock, hb, F, hs, rfl⟩ := h
  exact ⟨es, clock, hb, F, by simp [Maps.size, length_sorted], rfl⟩
theorem Ids.store {mb : Nat} {l : List Int} {w : World} (h : Ids mb l w) {x : Int} (hx : (Lit.int .i64 x).wf = true) (hn : x ∉ l) (hl : l.length ≤ 64) :
    ∃ w', (Instr.mapUpdate 39 (.map (some mb)) (.int .i64 x) (.bool true)).run Try.prog w = .ok () w' ∧ Ids mb (l ++ [x]) w' ∧ w.grownBy w' (some mb) := by
  obtain ⟨D, h1, h2, h3⟩ := h
  have hk : WideAt.IsKeyLit (.int .i64 x) := trivial
  obtain ⟨w', hr, q1, q2⟩ := h1.update ids_law Try.underlying39 (by unfold maxLen; omega) (keyOf_int_mk Try.underlying3 hx) (plainElem_bool Try.underlying4 true)
  refine ⟨w', hr, ⟨D.put (.int .i64 x) (.lit (.bool true)), by rw [List.length_append]; exact q1, ?_, fun y hy => ?_⟩, q2⟩
  · rw [size_put (h1.tidy ids_law), (h3 x hx).2, h2]
    simp [hn]
  · by_cases e : y = x
    · subst e
      rw [atKey_put_same h1.isMap hk, has_put_same h1.isMap hk]
      simp
    · have hne : (Lit.int .i64 y) ≠ .int .i64 x := fun c => e (by injection c)
      rw [atKey_put_other hne, has_put_other hne, (h3 y hy).1, (h3 y hy).2]
      simp [e]
theorem Ids.drop {mb : Nat} {l : List Int} {w : World} (h : Ids mb l w) {x : Int} (hx : (Lit.int .i64 x).wf = true) (hn : x ∈ l) (hd : l.Nodup) (ty : TypeId) :
    ∃ w', (Builtin.delete_ #[39, 3] ty #[.map (some mb), .int .i64 x]).run Try.prog w = .ok (.tuple #[]) w' ∧ Ids mb (l.erase x) w' ∧ w.grownBy w' (some mb) := by
  obtain ⟨D, h1, h2, h3⟩ := h
  obtain ⟨w', hr, q1, q2⟩ := h1.drop ids_law Try.underlying39 (keyOf_int_mk Try.underlying3 hx) ty
  have hsz : Maps.size (D.del (.int .i64 x)) = (l.erase x).length := by
    have := size_del (k := .int .i64 x) (h1.tidy ids_law)
    rw [(h3 x hx).2, h2] at this
    simp [hn] at this
    rw [List.length_erase_of_mem hn]
    omega
  refine ⟨w', hr, ⟨D.del (.int .i64 x), by rw [← hsz]; exact owns_tight q1, hsz, fun y hy => ?_⟩, q2.grown⟩
  by_cases e : y = x
  · subst e
    rw [atKey_del_same, has_del_same]
    have : y ∉ l.erase y := fun c => by rw [List.Nodup.mem_erase_iff hd] at c; exact c.1 rfl
    simp [this]
  · have hne : (Lit.int .i64 y) ≠ .int .i64 x := fun c => e (by injection c)
    rw [atKey_del_other hne, has_del_other hne, (h3 y hy).1, (h3 y hy).2]
    simp [List.mem_erase_of_ne e]
end Go.Proofs.Ytnclobnnnihpfaa
