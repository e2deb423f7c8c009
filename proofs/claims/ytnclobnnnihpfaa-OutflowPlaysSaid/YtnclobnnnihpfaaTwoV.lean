/- Two variables of many cells are made and stored in a region that draws its order ('x, y := a[i], b[i]'). Over whatever program. -/
import Derived.Test.YtnclobnnnihpfaaAct
namespace Go.Proofs.Ytnclobnnnihpfaa
set_option linter.unusedVariables false
open Go.RowKit Go.Maps
section
variable {P : Program} {ops : Array Oper} {Q : Exit → Act → World → Prop} {md : Region.Mode} {S : World → Prop}
def twoRd (md : Region.Mode) (ops : Array Oper) (L : Array Bool) (i j k l : Nat) : Bool :=
  (Region.ready md ops L == [i, j]) && (Region.ready md ops (L.setIfInBounds i true) == [j]) && (Region.ready md ops (L.setIfInBounds j true) == [i]) && (Region.ready md ops ((L.setIfInBounds i true).setIfInBounds j true) == [k]) &&
  (Region.ready md ops (((L.setIfInBounds i true).setIfInBounds j true).setIfInBounds k true) == [l]) && (Region.ready md ops ((((L.setIfInBounds i true).setIfInBounds j true).setIfInBounds k true).setIfInBounds l true) == [])
theorem two_vars_tail {k l dx dy vx vy : Nat} {Tx Ty : TypeId} {zx zy cx cy : Array Value} {L : Array Bool} {a : Act} {w0 w : World} (bx by' : Nat) (ok ol : Oper) (hk : ops[k]? = some ok) (hl : ops[l]? = some ol) (gk : ok.guard = none) (gl : ol.guard = none) (dk : ok.dst = none) (dl : ol.dst = none)
    (pk : ok.op = .store Tx (.tmp dx) (.tmp vx)) (pl : ol.op = .store Ty (.tmp dy) (.tmp vy)) (r3 : Region.ready md ops L = [k]) (r4 : Region.ready md ops (L.setIfInBounds k true) = [l]) (r5 : Region.ready md ops ((L.setIfInBounds k true).setIfInBounds l true) = [])
    (e1 : a.eval (.tmp dx) = .pointer (some ⟨bx, 0, none⟩)) (e2 : a.eval (.tmp dy) = .pointer (some ⟨by', 0, none⟩)) (e3 : a.eval (.tmp vx) = .agg cx) (e4 : a.eval (.tmp vy) = .agg cy)
    (kx : Blk w bx zx Tx) (ky : Blk w by' zy Ty) (hne : bx ≠ by') (lx : w0.heap.size ≤ bx) (ly : w0.heap.size ≤ by') (hb : Below w0.heap.size w0 w)
    (ix : (P.info? Tx).map (·.size) = some cx.size) (iy : (P.info? Ty).map (·.size) = some cy.size) (sx : zx.size = cx.size) (sy : zy.size = cy.size) (ox : cx.all (·.oneCell') = true) (oy : cy.all (·.oneCell') = true)
    (hS : ∀ W, Below w0.heap.size w0 W → S W) (h : ∀ W, Blk W bx cx Tx → Blk W by' cy Ty → Below w0.heap.size w0 W → Q .normal a W) : wpAnyH P md ops Q S 2 L a w := by
  have b1 := below_setRow hb lx cx
  have b2 := below_setRow b1 ly cy
  refine wpAnyH_one r3 (wpOp_skip hk gk (run_store_row Tx _ _ pk bx cx e1 e3 Tx zx kx ix sx ox) ⟨hS _ b1, ?_⟩)
  rw [dk]
  have ky1 : Blk (w.setRow bx cx) by' zy Ty := ky.setRow_other (Ne.symm hne)
  refine wpAnyH_one r4 (wpOp_skip hl gl (run_store_row Ty _ _ pl by' cy e2 e4 Ty zy ky1 iy sy oy) ⟨hS _ b2, ?_⟩)
  rw [dl]
  exact ⟨r5, h _ (kx.setRow.setRow_other hne) ky1.setRow b2⟩
theorem wpAnyH_two_vars {i j k l dx dy vx vy : Nat} {Tx Ty : TypeId} {zx zy cx cy : Array Value} {L : Array Bool} {a : Act} {w : World} (oi oj ok ol : Oper) (hi : ops[i]? = some oi) (hj : ops[j]? = some oj) (hk : ops[k]? = some ok) (hl : ops[l]? = some ol)
    (gi : oi.guard = none) (gj : oj.guard = none) (gk : ok.guard = none) (gl : ol.guard = none) (di : oi.dst = some dx) (dj : oj.dst = some dy) (dk : ok.dst = none) (dl : ol.dst = none)
    (pk : ok.op = .store Tx (.tmp dx) (.tmp vx)) (pl : ol.op = .store Ty (.tmp dy) (.tmp vy)) (hij : i ≠ j)
    (ax : ∀ ρ W, (execOp ρ oi).run P W = .ok (.value (.pointer (some ⟨W.heap.size, 0, none⟩))) (W.alloc (.cells zx Tx))) (ay : ∀ ρ W, (execOp ρ oj).run P W = .ok (.value (.pointer (some ⟨W.heap.size, 0, none⟩))) (W.alloc (.cells zy Ty)))
    (hr : twoRd md ops L i j k l = true)
    (e1 : ∀ p q, ((a.put (some dx) p).put (some dy) q).eval (.tmp dx) = p) (e2 : ∀ p q, ((a.put (some dx) p).put (some dy) q).eval (.tmp dy) = q) (e3 : ∀ p q, ((a.put (some dx) p).put (some dy) q).eval (.tmp vx) = .agg cx) (e4 : ∀ p q, ((a.put (some dx) p).put (some dy) q).eval (.tmp vy) = .agg cy)
    (ec : ∀ p q, (a.put (some dy) q).put (some dx) p = (a.put (some dx) p).put (some dy) q)
    (ix : (P.info? Tx).map (·.size) = some cx.size) (iy : (P.info? Ty).map (·.size) = some cy.size) (sx : zx.size = cx.size) (sy : zy.size = cy.size) (ox : cx.all (·.oneCell') = true) (oy : cy.all (·.oneCell') = true)
    (hS : ∀ W, Below w.heap.size w W → S W)
    (h : ∀ bx by' W, Blk W bx cx Tx → Blk W by' cy Ty → bx ≠ by' → w.heap.size ≤ bx → w.heap.size ≤ by' → Below w.heap.size w W → Q .normal ((a.put (some dx) (.pointer (some ⟨bx, 0, none⟩))).put (some dy) (.pointer (some ⟨by', 0, none⟩))) W) :
    wpAnyH P md ops Q S 4 L a w := by
  unfold twoRd at hr
  simp only [Bool.and_eq_true, beq_iff_eq] at hr
  obtain ⟨⟨⟨⟨⟨r0, r1⟩, r2⟩, r3⟩, r4⟩, r5⟩ := hr
  refine ⟨fun e => (by rw [r0] at e; cases e), fun m hm => ?_⟩
  rw [r0] at hm
  rcases List.mem_cons.1 hm with rfl | hm
  · have b1 := (Below.refl w.heap.size w).alloc (Nat.le_refl _) (.cells zx Tx)
    have b2 := b1.alloc b1.size (.cells zy Ty)
    refine wpOp_val hi gi (ax _ _) ⟨hS _ b1, ?_⟩
    rw [di]
    refine wpAnyH_one r1 (wpOp_val hj gj (ay _ _) ⟨hS _ b2, ?_⟩)
    rw [dj]
    refine two_vars_tail w.heap.size (w.alloc (.cells zx Tx)).heap.size ok ol hk hl gk gl dk dl pk pl r3 r4 r5 (e1 _ _) (e2 _ _) (e3 _ _) (e4 _ _) ((blk_at w zx Tx rfl).alloc _) (blk_at _ zy Ty rfl) (by simp) (Nat.le_refl _) b1.size b2 ix iy sx sy ox oy hS ?_
    intro W k1 k2 kb
    exact h _ _ W k1 k2 (by simp) (Nat.le_refl _) b1.size kb
  · obtain rfl := List.mem_singleton.1 hm
    have b1 := (Below.refl w.heap.size w).alloc (Nat.le_refl _) (.cells zy Ty)
    have b2 := b1.alloc b1.size (.cells zx Tx)
    refine wpOp_val hj gj (ay _ _) ⟨hS _ b1, ?_⟩
    rw [dj]
    refine wpAnyH_one r2 (wpOp_val hi gi (ax _ _) ⟨hS _ b2, ?_⟩)
    rw [di, ec, Array.setIfInBounds_comm _ _ (Ne.symm hij)]
    refine two_vars_tail (w.alloc (.cells zy Ty)).heap.size w.heap.size ok ol hk hl gk gl dk dl pk pl r3 r4 r5 (e1 _ _) (e2 _ _) (e3 _ _) (e4 _ _) (blk_at _ zx Tx rfl) ((blk_at w zy Ty rfl).alloc _) (by simp) b1.size (Nat.le_refl _) b2 ix iy sx sy ox oy hS ?_
    intro W k1 k2 kb
    exact h _ _ W k1 k2 (by simp) b1.size (Nat.le_refl _) kb
end
end Go.Proofs.Ytnclobnnnihpfaa
