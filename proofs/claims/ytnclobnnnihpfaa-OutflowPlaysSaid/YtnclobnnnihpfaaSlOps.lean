/- Operations on a slice of own memory: 'xs[1:]'. Over whatever program. -/
import Derived.Test.YtnclobnnnihpfaaFr
import Derived.Laws.Slices
import Derived.Test.YtnclobnnnihpfaaChains2
namespace Go.Proofs.Ytnclobnnnihpfaa
set_option linter.unusedVariables false
open Go.RowKit

section
variable {P : Program} {B : Nat} {w : World} {e : TypeId} {size n : Nat} {v : Value} {xs : List Value}
theorem run_tail_sl {t : TypeId} {i : TypeInfo} {a : Option Addr} {cap m : Nat} (ht : P.underlying t = some (.slice e)) (hi : P.info? e = some i) (hs : i.size = size) (h : Sl B w e size (.slice a (m + 1) cap) (m + 1) xs) :
    ∃ g o c, (Instr.slice t (.slice a (m + 1) cap) (some (.int .i64 1)) none none).run P w = .ok (.slice (some ⟨g, o, none⟩) m c) w ∧ Sl B w e size (.slice (some ⟨g, o, none⟩) m c) m (xs.drop size) ∧ (a.map (·.block) = some g) := by
  obtain ⟨g, o, rfl, h1, h2, h3⟩ := h.tail
  refine ⟨g, _, _, ?_, h3, rfl⟩
  subst hs
  have he : P.elem t = e := by simp [Program.elem, ht]
  rw [run_slice_l (P := P) w t (some ⟨g, o, none⟩) (m + 1) cap (by rw [he]; exact ht) .i64 1 (by decide) (by omega)]
  rw [he]
  by_cases hc : cap = 1
  · subst hc
    simp [sizeOf, typeInfo, hi, sliced, Result.andThen]
  · have hc' : ¬ cap = Int.toNat 1 := hc
    simp [sizeOf, typeInfo, hi, sliced, Result.andThen, hc, Addr.add_lit]
theorem wpList_tail_sl {ops : Array Oper} {rest : List Oper} {o : Oper} {a : Act} {Q : Exit → Act → World → Prop} (s : Operand) (t : TypeId) (i : TypeInfo)
    (hgd : o.guard = none) (ho : o.op = .slice t s (some (.const (.int .i64 1))) none none)
    (ht : P.underlying t = some (.slice e)) (hi : P.info? e = some i) (hsz : i.size = size) (m : Nat) (ao : Option Addr) (cap : Nat)
    (hs : a.eval s = .slice ao (m + 1) cap) (hown : Sl B w e size (.slice ao (m + 1) cap) (m + 1) xs)
    (h : ∀ g o' c, Sl B w e size (.slice (some ⟨g, o', none⟩) m c) m (xs.drop size) → ao.map (·.block) = some g → wpList P ops Q rest (a.put o.dst (.slice (some ⟨g, o', none⟩) m c)) w) :
    wpList P ops Q (o :: rest) a w := by
  refine wpList_plain hgd fun K hK' => ?_
  obtain ⟨g, o', c, hrun, r1, r2⟩ := run_tail_sl (P := P) ht hi hsz hown
  unfold Oper.wp execOp
  simp only [ho, hs, Option.map_some, Option.map_none]
  have e1 : a.eval (.const (.int .i64 1)) = .int .i64 1 := rfl
  rw [e1]
  have he : P.underlying t = some (.slice (P.elem t)) := by simp [Program.elem, ht]
  simp only [run_sliceAt_slice (P := P) w t _ _ _ _ he, hrun, Sem.run_bind, Result.andThen_ok, Sem.run_pure]
  exact hK' _ _ (h g o' c r1 r2)
/-- A store of one cell; the world behind it has a name. -/
theorem wpList_storeN {ops : Array Oper} {rest : List Oper} {o : Oper} {a : Act} {Q : Exit → Act → World → Prop} (hgd : o.guard = none) (ty : TypeId) (x y : Operand) (ho : o.op = .store ty x y) (hd : o.dst = none)
    (b f : Nat) (u v0 : Value) (hx : a.eval x = .pointer (some ⟨b, f, none⟩)) (hy : a.eval y = u) (h1 : u.oneCell' = true) {i : TypeInfo} (hi : P.info? ty = some i) (hs : i.size = 1)
    (hc : w.cell? ⟨b, f, none⟩ = some v0) (hf : w.frozen? ⟨b, f, none⟩ = false) (h : ∀ Z, w.setCell ⟨b, f, none⟩ u = Z → wpList P ops Q rest a Z) : wpList P ops Q (o :: rest) a w := by
  refine wpList_plain hgd fun K hK' => ?_
  unfold Oper.wp execOp
  simp only [ho, hx, hy, Sem.run_bind, run_storeAt_one hi hs h1 hc hf, Result.andThen_ok, Sem.run_pure]
  have := hK' _ _ (h _ rfl)
  rw [show a = a.put o.dst undef from by rw [hd]; rfl] at this
  exact this
end
end Go.Proofs.Ytnclobnnnihpfaa
