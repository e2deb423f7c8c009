/- The tables of utf8 stand where other blocks turn. -/
import Derived.Test.YtifbkfkieppacaaDoorMod
import Derived.Test.YtifbkfkieppacaaDoorTextTabs
namespace Go.Proofs.YtifbkfkieppacaaDoor
set_option linter.unusedVariables false
open Go.RowKit

/-- A block that is none of the tables. -/
def NoTab (R : Nat) : Prop := R ≠ 0 ∧ R ≠ 1
theorem cell_lt {w : World} {a : Addr} {v : Value} (hc : w.cell? a = some v) : a.block < w.heap.size := by
  rcases Nat.lt_or_ge a.block w.heap.size with h' | h'
  · exact h'
  · simp [World.cell?, Array.getElem?_eq_none h'] at hc
theorem tabs_lt {w : World} (h : Tabs w) : 0 < w.heap.size ∧ 1 < w.heap.size := ⟨cell_lt (h.1 0 (by decide)), cell_lt (h.2 0 (by decide)).1⟩
theorem NoTab.new {w : World} {R : Nat} (h : Tabs w) (hR : w.heap.size ≤ R) : NoTab R := by
  have := tabs_lt h
  exact ⟨by omega, by omega⟩
theorem tabs_keep {w w' : World} {S : Nat → Prop} (h : Tabs w) (m : Mod S w w') (hs : ∀ R, S R → NoTab R) : Tabs w' :=
  ⟨fun c hc => (m.cell (cell_lt (h.1 c hc)) (fun c => (hs _ c).1 rfl)).trans (h.1 c hc), fun i hi => ⟨(m.cell (cell_lt (h.2 i hi).1) (fun c => (hs _ c).2 rfl)).trans (h.2 i hi).1, (m.cell (cell_lt (h.2 i hi).2) (fun c => (hs _ c).2 rfl)).trans (h.2 i hi).2⟩⟩
theorem tabs_mod {w w' : World} {R : Nat} (h : Tabs w) (m : Mod (· = R) w w') (hs : NoTab R) : Tabs w' := tabs_keep h m (fun _ e => e ▸ hs)
theorem tabs_set {w : World} (h : Tabs w) {p : Addr} (hs : NoTab p.block) (v : Value) : Tabs (w.setCell p v) := tabs_mod (R := p.block) h ((Mod.refl (· = p.block) w).setCell (.inl rfl) v) hs
end Go.Proofs.YtifbkfkieppacaaDoor
