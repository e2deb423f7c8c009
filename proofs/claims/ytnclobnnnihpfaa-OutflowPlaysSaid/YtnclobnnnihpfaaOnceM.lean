/- What OutflowOnce remembers of each payload: maps by text. -/
import Derived.Test.YtnclobnnnihpfaaPool
import Derived.Test.YtnclobnnnihpfaaOnceP
import Derived.StringKeys
namespace Go.Proofs.Ytnclobnnnihpfaa
set_option linter.unusedVariables false
open Go.RowKit Go.Maps

def keyL (p : ByteArray) : Lit := .string p.data.toList
theorem keyL_inj {p q : ByteArray} (h : keyL p = keyL q) : p = q := by
  unfold keyL at h
  injection h with h
  exact ByteArray.ext (Array.toList_inj.1 h)
theorem str_law : Keyed Try.prog 9 := string_keyed Try.underlying9
theorem zero_int (w : World) : (zeroValue 3).run Try.prog w = .ok (.int .i64 0) w := by kernel_rfl
/-- The identifiers. -/
def SentAt (mb : Nat) (f : ByteArray → Option Int) (n : Nat) (w : World) : Prop := ∃ D : DataW Unit, w.ownsMap Try.prog 9 (plainElem Try.prog 3) mb n D ∧
  ∀ x : ByteArray, D.atKey (keyL x) (.lit (.int .i64 0)) = .lit (.int .i64 ((f x).getD 0)) ∧ Maps.has D (keyL x) = (f x).isSome
theorem SentAt.new (w : World) : SentAt w.heap.size (fun _ => none) 0 (w.alloc (.map #[] 0)) := ⟨.map [], World.ownsMap_made _ _ _ _, fun x => ⟨rfl, rfl⟩⟩
theorem SentAt.lt {mb n : Nat} {f : ByteArray → Option Int} {w : World} (h : SentAt mb f n w) : mb < w.heap.size := by obtain ⟨D, h1, _⟩ := h; exact h1.lt
theorem SentAt.same {mb n : Nat} {f : ByteArray → Option Int} {w w' : World} (h : SentAt mb f n w) (hs : w'.heap[mb]? = w.heap[mb]?) : SentAt mb f n w' := by
  obtain ⟨D, ⟨es, clock, hb, r⟩, r2⟩ := h
  exact ⟨D, ⟨es, clock, hs.trans hb, r⟩, r2⟩
theorem SentAt.mono {mb n n' : Nat} {f : ByteArray → Option Int} {w : World} (h : SentAt mb f n w) (hn : n ≤ n') : SentAt mb f n' w := by
  obtain ⟨D, h1, h2⟩ := h
  exact ⟨D, h1.mono hn, h2⟩
theorem SentAt.obj {mb n : Nat} {f : ByteArray → Option Int} {w : World} (h : SentAt mb f n w) : ∃ es clock, w.heap[mb]? = some (.map es clock) := by
  obtain ⟨D, ⟨es, clock, hb, r⟩, r2⟩ := h
  exact ⟨es, clock, hb⟩
theorem SentAt.look {mb n : Nat} {f : ByteArray → Option Int} {w : World} (h : SentAt mb f n w) {x : ByteArray} (hx : x.size ≤ maxLen) :
    (Instr.lookup 25 (.map (some mb)) (.string x) false).run Try.prog w = .ok (.int .i64 ((f x).getD 0)) w := by
  obtain ⟨D, h1, h3⟩ := h
  obtain ⟨c, hr, hc, _⟩ := h1.lookup_int str_law Try.underlying25 Try.underlying3 (zero_int w) (Go.WideMaps.keyOf_string_mk Try.underlying9 hx)
  have h4 := (h3 x).1
  unfold keyL at h4
  rw [h4] at hc
  simp only [DataW.lit.injEq, Lit.int.injEq, true_and] at hc
  rw [hr, hc]
theorem SentAt.look_ok {mb n : Nat} {f : ByteArray → Option Int} {w : World} (h : SentAt mb f n w) {x : ByteArray} (hx : x.size ≤ maxLen) :
    (Instr.lookup 25 (.map (some mb)) (.string x) true).run Try.prog w = .ok (.tuple #[.int .i64 ((f x).getD 0), .bool (f x).isSome]) w := by
  obtain ⟨D, h1, h3⟩ := h
  obtain ⟨v, ps, hr, hv⟩ := h1.look_ok str_law Try.underlying25 (zero_int w) (plainElem_int Try.underlying3 (a := 0) (by decide)) (Go.WideMaps.keyOf_string_mk Try.underlying9 hx)
  have h4 := h3 x
  unfold keyL at h4
  rw [h4.1] at hv
  obtain ⟨a, rfl, ha, _⟩ := plainElem_int_inv Try.underlying3 hv
  simp only [Prod.mk.injEq] at ha
  have ha := ha.1
  simp only [DataW.lit.injEq, Lit.int.injEq, true_and] at ha
  rw [hr, h4.2, ha]
theorem SentAt.store {mb n : Nat} {f : ByteArray → Option Int} {w : World} (h : SentAt mb f n w) {x : ByteArray} (hx : x.size ≤ maxLen) {v : Int} (hv : (Lit.int .i64 v).wf = true) (hn : n < maxLen) :
    ∃ w', (Instr.mapUpdate 25 (.map (some mb)) (.string x) (.int .i64 v)).run Try.prog w = .ok () w' ∧ SentAt mb (upd f x v) (n + 1) w' ∧ w.grownBy w' (some mb) := by
  obtain ⟨D, h1, h3⟩ := h
  have hk : WideAt.IsKeyLit (keyL x) := trivial
  obtain ⟨w', hr, q1, q2⟩ := h1.update str_law Try.underlying25 hn (Go.WideMaps.keyOf_string_mk Try.underlying9 hx) (plainElem_int Try.underlying3 hv)
  refine ⟨w', hr, ⟨D.put (keyL x) (.lit (.int .i64 v)), q1, fun y => ?_⟩, q2⟩
  by_cases e : y = x
  · subst e
    rw [atKey_put_same h1.isMap hk, has_put_same h1.isMap hk, upd_same]
    exact ⟨rfl, rfl⟩
  · have hne : keyL y ≠ keyL x := fun c => e (keyL_inj c)
    rw [atKey_put_other hne, has_put_other hne, upd_other e]
    exact h3 y
/-- Those that were released. -/
def RelAt (mb : Nat) (f : ByteArray → Bool) (n : Nat) (w : World) : Prop := ∃ D : DataW Unit, w.ownsMap Try.prog 9 (plainElem Try.prog 4) mb n D ∧
  ∀ x : ByteArray, D.atKey (keyL x) (.lit (.bool false)) = .lit (.bool (f x))
theorem RelAt.new (w : World) : RelAt w.heap.size (fun _ => false) 0 (w.alloc (.map #[] 0)) := ⟨.map [], World.ownsMap_made _ _ _ _, fun x => rfl⟩
theorem RelAt.lt {mb n : Nat} {f : ByteArray → Bool} {w : World} (h : RelAt mb f n w) : mb < w.heap.size := by obtain ⟨D, h1, _⟩ := h; exact h1.lt
theorem RelAt.same {mb n : Nat} {f : ByteArray → Bool} {w w' : World} (h : RelAt mb f n w) (hs : w'.heap[mb]? = w.heap[mb]?) : RelAt mb f n w' := by
  obtain ⟨D, ⟨es, clock, hb, r⟩, r2⟩ := h
  exact ⟨D, ⟨es, clock, hs.trans hb, r⟩, r2⟩
theorem RelAt.mono {mb n n' : Nat} {f : ByteArray → Bool} {w : World} (h : RelAt mb f n w) (hn : n ≤ n') : RelAt mb f n' w := by
  obtain ⟨D, h1, h2⟩ := h
  exact ⟨D, h1.mono hn, h2⟩
theorem RelAt.obj {mb n : Nat} {f : ByteArray → Bool} {w : World} (h : RelAt mb f n w) : ∃ es clock, w.heap[mb]? = some (.map es clock) := by
  obtain ⟨D, ⟨es, clock, hb, r⟩, r2⟩ := h
  exact ⟨es, clock, hb⟩
theorem RelAt.look {mb n : Nat} {f : ByteArray → Bool} {w : World} (h : RelAt mb f n w) {x : ByteArray} (hx : x.size ≤ maxLen) :
    (Instr.lookup 26 (.map (some mb)) (.string x) false).run Try.prog w = .ok (.bool (f x)) w := by
  obtain ⟨D, h1, h3⟩ := h
  obtain ⟨v, ps, hr, hv⟩ := h1.lookup str_law Try.underlying26 (zero_bool w) (plainElem_bool Try.underlying4 false) (Go.WideMaps.keyOf_string_mk Try.underlying9 hx)
  have h4 := h3 x
  unfold keyL at h4
  rw [h4] at hv
  rw [elem_bool_inv hv] at hr
  exact hr
theorem RelAt.store {mb n : Nat} {f : ByteArray → Bool} {w : World} (h : RelAt mb f n w) {x : ByteArray} (hx : x.size ≤ maxLen) (v : Bool) (hn : n < maxLen) :
    ∃ w', (Instr.mapUpdate 26 (.map (some mb)) (.string x) (.bool v)).run Try.prog w = .ok () w' ∧ RelAt mb (fun q => if q = x then v else f q) (n + 1) w' ∧ w.grownBy w' (some mb) := by
  obtain ⟨D, h1, h3⟩ := h
  have hk : WideAt.IsKeyLit (keyL x) := trivial
  obtain ⟨w', hr, q1, q2⟩ := h1.update str_law Try.underlying26 hn (Go.WideMaps.keyOf_string_mk Try.underlying9 hx) (plainElem_bool Try.underlying4 v)
  refine ⟨w', hr, ⟨D.put (keyL x) (.lit (.bool v)), q1, fun y => ?_⟩, q2⟩
  by_cases e : y = x
  · subst e
    rw [atKey_put_same h1.isMap hk]
    show _ = DataW.lit (.bool (if y = y then v else f y))
    rw [if_pos rfl]
  · have hne : keyL y ≠ keyL x := fun c => e (keyL_inj c)
    rw [atKey_put_other hne, h3 y]
    show _ = DataW.lit (.bool (if y = x then v else f y))
    rw [if_neg e]
end Go.Proofs.Ytnclobnnnihpfaa
